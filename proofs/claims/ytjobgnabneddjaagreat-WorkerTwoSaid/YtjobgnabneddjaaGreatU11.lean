/- The proof of a given statement, a part of it (Map ShIp6 ShIp4 ShSum Sum Ip4 Ip6 Port). No condition but what each lemma says. -/
import Derived.MapKept
import Derived.Test.YtjobgnabneddjaaGreatU10
set_option linter.unusedVariables false
set_option linter.unusedSimpArgs false
namespace Go.Proofs.YtjobgnabneddjaaGreat
open Go
section
variable {κ : Type} [DecidableEq κ]
def U1 (enc : κ → Value) : List (κ × Value) → Nat → List MapEntry
 | [], _ => []
 | p :: l, i => ⟨enc p.1, p.2, i⟩ :: U1 enc l (i + 1)
def p5 (enc : κ → Value) (l : List (κ × Value)) : Obj := .map (U1 enc l 0).toArray l.length
def A21 (k : κ) : List (κ × Value) → Nat → Option (Nat × Value)
 | [], _ => none
 | p :: l, i => if k = p.1 then some (i, p.2) else A21 k l (i + 1)
def l9 (k : κ) : List (κ × Value) → Option Value
 | [] => none
 | p :: l => if k = p.1 then some p.2 else l9 k l
def j9 (k : κ) (v : Value) : List (κ × Value) → List (κ × Value)
 | [] => [(k, v)]
 | p :: l => if k = p.1 then (k, v) :: l else p :: j9 k v l
theorem C2H (k k' : κ) (v : Value) (l : List (κ × Value)) : l9 k' (j9 k v l) = if k' = k then some v else l9 k' l := by
 induction l with
 | nil => simp [j9, l9]
 | cons p l ih =>
  simp only [j9]
  by_cases h : k = p.1
  ·rw [if_pos h]; simp only [l9]
   by_cases h' : k' = k
   ·rw [if_pos h', if_pos h']
   ·rw [if_neg h', if_neg h', if_neg (by rw [← h]; exact h')]
  ·rw [if_neg h]; simp only [l9, ih]
   by_cases h' : k' = p.1
   ·rw [if_pos h', if_pos h', if_neg (by rw [h']; exact fun e => h e.symm)]
   ·rw [if_neg h', if_neg h']
theorem C1x (k : κ) (l : List (κ × Value)) (i : Nat) : (A21 k l i).map (·.2) = l9 k l := by
 induction l generalizing i with
 | nil => rfl
 | cons p l ih => simp only [A21, l9]; split <;> simp [ih]
@[simp] theorem D29 {α : Type} (enc : α → Value) (l : List (α × Value)) (i : Nat) : (U1 enc l i).length = l.length := by
 induction l generalizing i with
 | nil => rfl
 | cons p l ih => simp [U1, ih]
theorem B71 {α : Type} (enc : α → Value) (l m : List (α × Value)) (i : Nat) : U1 enc (l ++ m) i = U1 enc l i ++ U1 enc m (i + l.length) := by
 induction l generalizing i with
 | nil => simp [U1]
 | cons p l ih => simp only [List.cons_append, U1, ih, List.length_cons]; congr 3; omega
theorem C1c (k : κ) (v : Value) (l : List (κ × Value)) (j : Nat) (h : A21 k l j = none) : j9 k v l = l ++ [(k, v)] := by
 induction l generalizing j with
 | nil => rfl
 | cons p l ih =>
  simp only [A21] at h
  split at h
  ·cases h
  ·rename_i hn; simp only [j9, if_neg hn, List.cons_append, ih _ h]
theorem C4E (enc : κ → Value) (k : κ) (v : Value) (l : List (κ × Value)) : ∀ (j n : Nat) (u : Value), A21 k l j = some (n, u) → j ≤ n ∧ n < j + l.length ∧ ((U1 enc l j)[n - j]?).map (·.key) = some (enc k) ∧
  U1 enc (j9 k v l) j = (U1 enc l j).modify (n - j) (fun e => { e with key := enc k, val := v }) := by
 induction l with
 | nil => intro j n u h; cases h
 | cons p l ih =>
  intro j n u h
  simp only [A21] at h
  split at h
  ·rename_i hk; cases h
   refine ⟨Nat.le_refl _, by simp, by simp [U1, hk], ?_⟩
   simp only [j9, if_pos hk, U1, Nat.sub_self, List.modify_zero_cons]
  ·rename_i hn
   obtain ⟨h1, h2, h3, h4⟩ := ih _ _ _ h
   have e : n - j = n - (j + 1) + 1 := by omega
   refine ⟨by omega, by simp only [List.length_cons]; omega, by rw [e]; simpa [U1] using h3, ?_⟩
   simp only [j9, if_neg hn, U1, e, List.modify_succ_cons, h4]
structure KeyT (P : Program) (kt : TypeId) (enc : κ → Value) : Prop where
 find : ∀ k l j w, (Instr.findKey kt (enc k) (U1 enc l j)).run P w = .ok (A21 k l 0) w
 check : ∀ k e w, (Instr.checkKey e 10000 kt (enc k)).run P w = .ok () w
 stays : ∀ k, Instr.sameBits 10000 (enc k) (enc k) = true
theorem A89 {d : TypeDesc} {enc : κ → Value} (hs : ∀ a b, Instr.sameNow d (enc a) (enc b) = some (decide (a = b))) (k : κ) (l : List (κ × Value)) : ∀ j i, Instr.findNow d (enc k) (U1 enc l j) i = some (A21 k l i) := by
 induction l with
 | nil => intro j i; rfl
 | cons p l ih =>
  intro j i
  simp only [U1, Instr.findNow, hs, A21]
  by_cases h : k = p.1
  ·simp [h]
  ·simp [h, ih]
end
theorem KeyT.int {P : Program} {kt : TypeId} {n m : Nat} {z : Value} (h : TI P kt (.int .i64) n m z) : KeyT P kt (fun a : Int => Value.int .i64 a) := by
 refine ⟨fun k l j w => ?_, fun k e w => ?_, fun k => ?_⟩
 ·exact MapKept.run_findKey h.und (A89 (fun a b => by simp [Instr.sameNow]; exact B4C a b) k l j 0)
 ·exact MapKept.run_checkKey h.und (by trivial) e 9999
 ·simp [Instr.sameBits]
theorem KeyT.string {P : Program} {kt : TypeId} {n m : Nat} {z : Value} (h : TI P kt .string n m z) : KeyT P kt Value.string := by
 refine ⟨fun k l j w => ?_, fun k e w => ?_, fun k => ?_⟩
 ·exact MapKept.run_findKey h.und (A89 (fun a b => by simp only [Instr.sameNow, C1U]) k l j 0)
 ·exact MapKept.run_checkKey h.und (by trivial) e 9999
 ·simp only [Instr.sameBits, C1U, decide_true]
section
variable {κ : Type} [DecidableEq κ] {enc : κ → Value} {σ : Bool} {P : Program} {X : Nat → Prop} {S : List Nat} {w0 : World} {H H' : List Res} {K : Value → WP} {K0 : WP} {t kt et : TypeId} {n m n2 m2 : Nat} {z z2 : Value} {d : TypeDesc}
theorem B82 {α : Type} (enc : α → Value) (hK : ∀ r, TW σ S w0 (.pt r (p5 enc []) :: H) (K (.map (some r)))) : TW σ S w0 H (B2 P X (Instr.makeMap t none) K) := fun w hw => by
 have : (Instr.makeMap t none).run P w = .ok (.map (some (sz w))) (w.alloc (p5 enc [])) := by simp [Instr.makeMap, run_newObj, p5, U1, sz]
 rw [U5 this (Sk.alloc X w _ (Or.inl rfl))]
 exact hK _ _ (hw.new rfl (Or.inl rfl))
theorem B1W (hm : TI P t (.map kt et) n m z) (he : TI P et d n2 m2 z2) (hk : KeyT P kt enc) {r : Nat} {l : List (κ × Value)} {k : κ} (hr : Res.pt r (p5 enc l) ∈ H) :
  TW σ S w0 H (A6 P (Instr.lookup t (.map (some r)) (enc k) false) K) = TW σ S w0 H (K ((l9 k l).getD z2)) := TW.congr fun w hw => by
 have hb : w.heap[r]? = some (.map (U1 enc l 0).toArray l.length) := hw.pt hr
 refine S9 ?_ K
 have h1 : (getObj r).run P w = .ok (.map (U1 enc l 0).toArray l.length) w := MapKept.run_getObj_map hb
 simp only [Instr.lookup, Sem.run_bind, hm.run_und, Result.andThen_ok, h1, Sem.run_pure, hk.check, hk.find]
 rw [← C1x k l 0]
 cases A21 k l 0 with
 | none => simp [he.run_zero]
 | some p => simp
theorem B1w (hm : TI P t (.map kt et) n m z) (hk : KeyT P kt enc) {r : Nat} {l : List (κ × Value)} {k : κ} {v : Value} (hu : Up (.pt r (p5 enc l)) (.pt r (p5 enc (j9 k v l))) H H') (hK : TW σ S w0 H' K0) :
  TW σ S w0 H (C0 P X (Instr.mapUpdate t (.map (some r)) (enc k) v) K0) := fun w hw => by
 have hmem : Res.pt r (p5 enc l) ∈ H := by obtain ⟨A, B, rfl, _⟩ := hu.parts; simp
 have hb0 := hw.pt hmem
 have hb : w.heap[r]? = some (.map (U1 enc l 0).toArray l.length) := hb0
 have h1 : (getObj r).run P w = .ok (.map (U1 enc l 0).toArray l.length) w := MapKept.run_getObj_map hb
 have hrun : (Instr.mapUpdate t (.map (some r)) (enc k) v).run P w = .ok () (World.putb w r (p5 enc (j9 k v l))) := by
  simp only [Instr.mapUpdate, Sem.run_bind, hm.run_und, Result.andThen_ok, h1, hk.check, hk.find]
  cases hf : A21 k l 0 with
  | none =>
   have e := C1c k v l 0 hf
   simp [p5, e, B71, U1, World.putb, MapKept.run_setObj_map _ hb]
  | some p =>
   obtain ⟨i, u⟩ := p
   obtain ⟨_, h2, h3, h4⟩ := C4E enc k v l 0 i u hf
   have hl : (j9 k v l).length = l.length := by
    have := congrArg List.length h4; simpa using this
   simp only [Nat.sub_zero] at h3 h4
   simp [p5, h4, hl, World.putb, MapKept.run_setObj_map _ hb, Instr.keyThatStays, h3, hk.stays]
 have hks : KS σ [r] w (World.putb w r (p5 enc (j9 k v l))) := by
  refine ((C7.refl [r] w).putb _ (Or.inl (by simp))).ks fun _ => ?_
  have h2 : ∀ (q : Nat) x, (∀ c T, x ≠ Obj.map c T) → w.heap[q]? = some x → (World.putb w r (p5 enc (j9 k v l))).heap[q]? = some x := fun q x hx e => by
   have : r ≠ q := by rintro rfl; rw [hb] at e; cases e; exact hx _ _ rfl
   exact (m9 (w := w) (o := p5 enc (j9 k v l)) this).trans e
  exact ⟨by simp [World.putb], fun q d => h2 q _ (by simp), fun q lo _ => h2 q _ (by simp), rfl, rfl⟩
 have hsk : Sk X w (World.putb w r (p5 enc (j9 k v l))) := by
  have h2 : ∀ (q : Nat) x, (∀ c T, x ≠ Obj.map c T) → w.heap[q]? = some x → (World.putb w r (p5 enc (j9 k v l))).heap[q]? = some x := fun q x hx e => by
   have : r ≠ q := by rintro rfl; rw [hb] at e; cases e; exact hx _ _ rfl
   exact (m9 (w := w) (o := p5 enc (j9 k v l)) this).trans e
  exact ⟨by simp [World.putb], fun q d => h2 q _ (by simp), fun q lo _ => h2 q _ (by simp), rfl, rfl⟩
 rw [C2e hrun hsk]
 refine hK _ (hw.up hu ⟨hks, ?_, ?_, by simp⟩)
 ·simp only [List.mem_singleton, forall_eq, Res.holds]; exact ⟨Q2 (H7 hb0), rfl⟩
 ·simp only [List.mem_singleton, forall_eq, Res.foot]; exact ⟨Or.inl (by simp), by have := H7 hb0; simpa using this⟩
end
end Go.Proofs.YtjobgnabneddjaaGreat
namespace Go.Proofs.YtjobgnabneddjaaGreat
open Go
def B2M (X : Nat → Prop) (t0 t1 : Value) (R : Value → WP) : WP :=
 B2 PR X (Instr.box 224 t0) fun t2 =>
 jn (n := 2) (fun t4 t5 =>
 B2 PR X (Instr.alloc 305 true (.tuple #[])) fun t6 =>
 B4 PR X 172 [t6, (.int .i64 1610612736), (.int .i64 4)] fun t34 =>
 A0 PR (A8 .len #[9] 0 [t1]) fun t36 =>
 B4 PR X 172 [t6, t36, (.int .i64 2)] fun t37 =>
 A0 PR (Instr.fieldAt 224 t2 2) fun t38 =>
 A6 PR (Instr.loadAt 3 t38) fun t39 =>
 B4 PR X 172 [t6, t39, (.int .i64 1)] fun t40 =>
 B4 PR X 172 [t6, (.int .i64 64), (.int .i64 1)] fun t41 =>
 jn (n := 1) (fun t49 =>
 A0 PR (Instr.fieldAt 305 t6 0) fun t57 =>
 B4 PR X 174 [t57] fun t58 =>
 R (.tuple #[t58, (.int .i64 0)])) fun J1 =>
 A0 PR (Instr.fieldAt 224 t2 0) fun t42 =>
 A6 PR (Instr.loadAt 9 t42) fun t43 =>
 A0 PR (Instr.fieldAt 224 t2 1) fun t44 =>
 A6 PR (Instr.loadAt 9 t44) fun t45 =>
 B2 PR X (Instr.buildSlice 51 3 #[(0, t43), (1, t45), (2, t1)]) fun t47 =>
 A0 PR (A8 .len #[51] 0 [t47]) fun t48 =>
 lp (n := 1) (fun L2 t49_1 =>
 A0 PR (binOp .lss 3 t49_1 t48) fun t50 =>
 jn (n := 0) (
 jn (n := 0) (
 A0 PR (binOp .add 3 t49_1 (.int .i64 1)) fun t56 =>
 L2 t56) fun J3 =>
 A0 PR (Instr.indexAt 51 t47 t49_1) fun t51 =>
 A6 PR (Instr.loadAt 9 t51) fun t52 =>
 A0 PR (Instr.fieldAt 305 t6 0) fun t53 =>
 B4 PR X 173 [t53, t52] fun t55 =>
 J3) fun J4 =>
 C4 t50 (
 J4) (
 J1 t49_1)) (.int .i64 0)) fun J5 =>
 A0 PR (Instr.fieldAt 224 t2 0) fun t10 =>
 A6 PR (Instr.loadAt 9 t10) fun t11 =>
 A0 PR (A8 .len #[9] 0 [t11]) fun t12 =>
 A0 PR (binOp .neq 3 t12 (.int .i64 16)) fun t13 =>
 gj t13 false (fun J => A0 PR (Instr.fieldAt 224 t2 1) J) fun t15 =>
 gj t13 false (fun J => A6 PR (Instr.loadAt 9 t15) J) fun t16 =>
 gj t13 false (fun J => A0 PR (A8 .len #[9] 0 [t16]) J) fun t17 =>
 gj t13 false (fun J => A0 PR (binOp .neq 3 t17 (.int .i64 16)) J) fun t18 =>
 A0 PR (do pure (if ← asBool t13 then (.bool true) else t18)) fun t19 =>
 gj t19 false (fun J => A0 PR (Instr.fieldAt 224 t2 2) J) fun t21 =>
 gj t19 false (fun J => A6 PR (Instr.loadAt 3 t21) J) fun t22 =>
 gj t19 false (fun J => A0 PR (binOp .lss 3 t22 (.int .i64 0)) J) fun t23 =>
 A0 PR (do pure (if ← asBool t19 then (.bool true) else t23)) fun t24 =>
 gj t24 false (fun J => A0 PR (Instr.fieldAt 224 t2 2) J) fun t26 =>
 gj t24 false (fun J => A6 PR (Instr.loadAt 3 t26) J) fun t27 =>
 gj t24 false (fun J => A0 PR (binOp .gtr 3 t27 (.int .i64 255)) J) fun t28 =>
 A0 PR (do pure (if ← asBool t24 then (.bool true) else t28)) fun t29 =>
 C4 t29 (
 R (.tuple #[(.string (ByteArray.mk #[])), (.int .i64 1)])) (
 A0 PR (A8 .len #[9] 0 [t1]) fun t32 =>
 A0 PR (binOp .gtr 3 t32 (.int .i64 65535)) fun t33 =>
 C4 t33 (
 R (.tuple #[(.string (ByteArray.mk #[])), (.int .i64 4)])) (
 J5 (.string (ByteArray.mk #[])) (.int .i64 0)))
theorem B7p : A9 PR 125 := A7 Tryz.func125 (by kernel_rfl) rfl
theorem C0K {X : Nat → Prop} {t0 t1 : Value} {R : Value → WP} {w : World} (h : B2M X t0 t1 R w) : Fn PR X 125 #[t0, t1] w R := C3 (args := [t0, t1]) mixed Tryz.func125 (by kernel_rfl) h
def B0J (X : Nat → Prop) (t0 : Value) (R : Value → WP) : WP :=
 B2 PR X (Instr.alloc 224 true (.tuple #[])) fun t2 =>
 jn (n := 2) (fun t3 t4 =>
 jn (n := 2) (fun t3_1 t4_1 =>
 B2 PR X (Instr.buildSlice 37 6 #[(0, (.int .i64 4)), (1, (.int .i64 2)), (2, (.int .i64 1)), (3, (.int .i64 1)), (4, (.int .i64 16)), (5, (.int .i64 16))]) fun t19 =>
 B4 PR X 198 [t0, t19] fun t20 =>
 A0 PR (Instr.indexAt 51 t20 (.int .i64 1)) fun t23 =>
 A6 PR (Instr.loadAt 9 t23) fun t24 =>
 B4 PR X 145 [t24, (.int .i64 0), (.int .i64 2)] fun t25 =>
 A0 PR (Instr.extract t25 0) fun t26 =>
 A0 PR (Instr.extract t25 1) fun t27 =>
 A0 PR (Instr.indexAt 51 t20 (.int .i64 6)) fun t29 =>
 A6 PR (Instr.loadAt 9 t29) fun t30 =>
 jn (n := 2) (fun t3_2 t4_2 =>
 drw <|
 A0 PR (Instr.indexAt 51 t20 (.int .i64 4)) fun t38 =>
 A6 PR (Instr.loadAt 9 t38) fun t39 =>
 A0 PR (Instr.indexAt 51 t20 (.int .i64 5)) fun t41 =>
 A6 PR (Instr.loadAt 9 t41) fun t42 =>
 A0 PR (Instr.indexAt 51 t20 (.int .i64 2)) fun t44 =>
 A6 PR (Instr.loadAt 9 t44) fun t45 =>
 A0 PR (Instr.index 9 t45 (.int .i64 0)) fun t46 =>
 A0 PR (convert 5 3 t46) fun t47 =>
 A0 PR (Instr.build 224 #[(0, t39), (1, t42), (2, t47)]) fun t48 =>
 A0 PR (Instr.sliceAt 9 t30 none (some t26) none) fun t51 =>
 C0 PR X (Instr.storeAt 224 t2 t48) <|
 A6 PR (F8 [.c 224 t2, .v t51, .v (.int .i64 0)]) R) fun J1 =>
 A0 PR (A8 .len #[9] 0 [t30]) fun t33 =>
 A0 PR (convert 3 89 t33) fun t34 =>
 A0 PR (binOp .gtr 89 t26 t34) fun t35 =>
 C4 t35 (
 A0 PR (Instr.build 224 #[]) fun t36 =>
 C0 PR X (Instr.storeAt 224 t2 t36) <|
 A6 PR (F8 [.c 224 t2, .v (.string (ByteArray.mk #[])), .v (.int .i64 4)]) R) (
 J1 t3_1 t4_1)) fun J2 =>
 A0 PR (Instr.index 9 t0 (.int .i64 0)) fun t14 =>
 A0 PR (binOp .shr 5 t14 (.int .u64 4)) fun t15 =>
 A0 PR (binOp .neq 5 t15 (.int .u8 6)) fun t16 =>
 C4 t16 (
 A0 PR (Instr.build 224 #[]) fun t17 =>
 C0 PR X (Instr.storeAt 224 t2 t17) <|
 A6 PR (F8 [.c 224 t2, .v (.string (ByteArray.mk #[])), .v (.int .i64 3)]) R) (
 J2 t3 t4)) fun J3 =>
 A0 PR (A8 .len #[9] 0 [t0]) fun t10 =>
 A0 PR (binOp .lss 3 t10 (.int .i64 40)) fun t11 =>
 C4 t11 (
 A0 PR (Instr.build 224 #[]) fun t12 =>
 C0 PR X (Instr.storeAt 224 t2 t12) <|
 A6 PR (F8 [.c 224 t2, .v (.string (ByteArray.mk #[])), .v (.int .i64 2)]) R) (
 J3 (.string (ByteArray.mk #[])) (.int .i64 0))
theorem B5U : A9 PR 142 := A7 Tryz.func142 (by kernel_rfl) rfl
theorem B59 {X : Nat → Prop} {t0 : Value} {R : Value → WP} {w : World} (h : B0J X t0 R w) : Fn PR X 142 #[t0] w R := C3 (args := [t0]) mixed Tryz.func142 (by kernel_rfl) h
def A1D (X : Nat → Prop) (t0 t1 t2 : Value) (R : Value → WP) : WP :=
 drw <|
 A0 PR (B6 t0) fun t7 =>
 A0 PR (Instr.fieldAt 305 t7 0) fun t8 =>
 A0 PR (convert 3 89 t1) fun t10 =>
 B4 PR X 176 [t10, t2] fun t12 =>
 B4 PR X 173 [t8, t12] fun t13 =>
 R (.tuple #[])
theorem T8 : A9 PR 172 := A7 Tryz.func172 (by kernel_rfl) rfl
theorem A66 {X : Nat → Prop} {t0 t1 t2 : Value} {R : Value → WP} {w : World} (h : A1D X t0 t1 t2 R w) : Fn PR X 172 #[t0, t1, t2] w R := C3 (args := [t0, t1, t2]) mixed Tryz.func172 (by kernel_rfl) h
def B10 (X : Nat → Prop) (t0 t1 : Value) (R : Value → WP) : WP :=
 jn (n := 3) (fun t5 t0_1 t10 =>
 B2 PR X (Instr.buildSlice 51 1 #[(0, t0_1)]) fun t26 =>
 B2 PR X (A8 .append #[51, 51] 51 [t5, t26]) fun t27 =>
 R t27) fun J1 =>
 A0 PR (A8 .len #[37] 0 [t1]) fun t9 =>
 lp (n := 3) (fun L2 t5_1 t0_2 t10_1 =>
 A0 PR (binOp .lss 3 t10_1 t9) fun t11 =>
 jn (n := 0) (
 jn (n := 2) (fun t5_2 t0_3 =>
 A0 PR (binOp .add 3 t10_1 (.int .i64 1)) fun t23 =>
 L2 t5_2 t0_3 t23) fun J3 =>
 A0 PR (Instr.indexAt 37 t1 t10_1) fun t12 =>
 A6 PR (Instr.loadAt 3 t12) fun t13 =>
 A0 PR (Instr.sliceAt 9 t0_2 none (some t13) none) fun t17 =>
 B2 PR X (Instr.buildSlice 51 1 #[(0, t17)]) fun t18 =>
 B2 PR X (A8 .append #[51, 51] 51 [t5_1, t18]) fun t19 =>
 A0 PR (Instr.sliceAt 9 t0_2 (some t13) none none) fun t22 =>
 J3 t19 t22) fun J4 =>
 C4 t11 (
 J4) (
 J1 t5_1 t0_2 t10_1)) (.slice none 0 0) t0 (.int .i64 0)
theorem B76 : A9 PR 198 := A7 Tryz.func198 (by kernel_rfl) rfl
theorem B9u {X : Nat → Prop} {t0 t1 : Value} {R : Value → WP} {w : World} (h : B10 X t0 t1 R w) : Fn PR X 198 #[t0, t1] w R := C3 (args := [t0, t1]) mixed Tryz.func198 (by kernel_rfl) h
end Go.Proofs.YtjobgnabneddjaaGreat
namespace Go.Proofs.YtjobgnabneddjaaGreat
open Go
def B25 (X : Nat → Prop) (t0 t1 : Value) (R : Value → WP) : WP :=
 B2 PR X (Instr.box 226 t0) fun t2 =>
 B2 PR X (Instr.box 9 t1) fun t3 =>
 jn (n := 2) (fun t4 t5 =>
 A0 PR (Instr.makeFunc (.func 175) #[] #[t3, t2]) fun t32 =>
 drw <|
 A6 PR (Instr.loadAt 9 t3) fun t38 =>
 L5 PR X t32 [(.int .i64 0)] fun t35 =>
 watch PR [(none, (Instr.loadAt 9 t3), t38)] <|
 B4 PR X 177 [t35] fun t36 =>
 watch PR [(none, (Instr.loadAt 9 t3), t38)] <|
 L5 PR X t32 [t36] fun t37 =>
 watch PR [(none, (Instr.loadAt 9 t3), t38)] <|
 A0 PR (binOp .add 9 t37 t38) fun t39 =>
 R (.tuple #[t39, (.int .i64 0)])) fun J1 =>
 A0 PR (Instr.fieldAt 226 t2 0) fun t8 =>
 A6 PR (Instr.loadAt 9 t8) fun t9 =>
 A0 PR (A8 .len #[9] 0 [t9]) fun t10 =>
 A0 PR (binOp .neq 3 t10 (.int .i64 4)) fun t11 =>
 gj t11 false (fun J => A0 PR (Instr.fieldAt 226 t2 1) J) fun t13 =>
 gj t11 false (fun J => A6 PR (Instr.loadAt 9 t13) J) fun t14 =>
 gj t11 false (fun J => A0 PR (A8 .len #[9] 0 [t14]) J) fun t15 =>
 gj t11 false (fun J => A0 PR (binOp .neq 3 t15 (.int .i64 4)) J) fun t16 =>
 A0 PR (do pure (if ← asBool t11 then (.bool true) else t16)) fun t17 =>
 gj t17 false (fun J => A0 PR (Instr.fieldAt 226 t2 2) J) fun t19 =>
 gj t17 false (fun J => A6 PR (Instr.loadAt 3 t19) J) fun t20 =>
 gj t17 false (fun J => A0 PR (binOp .lss 3 t20 (.int .i64 0)) J) fun t21 =>
 A0 PR (do pure (if ← asBool t17 then (.bool true) else t21)) fun t22 =>
 gj t22 false (fun J => A0 PR (Instr.fieldAt 226 t2 2) J) fun t24 =>
 gj t22 false (fun J => A6 PR (Instr.loadAt 3 t24) J) fun t25 =>
 gj t22 false (fun J => A0 PR (binOp .gtr 3 t25 (.int .i64 255)) J) fun t26 =>
 A0 PR (do pure (if ← asBool t22 then (.bool true) else t26)) fun t27 =>
 C4 t27 (
 R (.tuple #[(.string (ByteArray.mk #[])), (.int .i64 1)])) (
 A6 PR (Instr.loadAt 9 t3) fun t29 =>
 A0 PR (A8 .len #[9] 0 [t29]) fun t30 =>
 A0 PR (binOp .gtr 3 t30 (.int .i64 65515)) fun t31 =>
 C4 t31 (
 R (.tuple #[(.string (ByteArray.mk #[])), (.int .i64 4)])) (
 J1 (.string (ByteArray.mk #[])) (.int .i64 0)))
theorem B77 : A9 PR 126 := A7 Tryz.func126 (by kernel_rfl) rfl
theorem B96 {X : Nat → Prop} {t0 t1 : Value} {R : Value → WP} {w : World} (h : B25 X t0 t1 R w) : Fn PR X 126 #[t0, t1] w R := C3 (args := [t0, t1]) mixed Tryz.func126 (by kernel_rfl) h
def A86 (X : Nat → Prop) (t0 : Value) (R : Value → WP) : WP :=
 B2 PR X (Instr.box 9 t0) fun t1 =>
 B2 PR X (Instr.alloc 226 true (.tuple #[])) fun t2 =>
 A0 PR (Instr.makeFunc (.func 190) #[] #[t1]) fun t9 =>
 B2 PR X (Instr.alloc 180 true (.tuple #[])) fun t5 =>
 C0 PR X (Instr.storeAt 180 t5 t9) <|
 drw <|
 kt (n := 2) (fun t6 t7 =>
 A0 PR (Instr.makeFunc (.func 192) #[] #[t1]) fun t16 =>
 A0 PR (Instr.build 330 #[(0, t16), (1, (.int .i64 2))]) fun t17 =>
 A0 PR (Instr.makeFunc (.func 193) #[] #[t5]) fun t18 =>
 A0 PR (Instr.build 330 #[(0, t18), (1, (.int .i64 3))]) fun t19 =>
 A0 PR (Instr.makeFunc (.func 194) #[] #[t6, t1, t7]) fun t20 =>
 A0 PR (Instr.build 330 #[(0, t20), (1, (.int .i64 4))]) fun t21 =>
 A0 PR (Instr.makeFunc (.func 195) #[] #[t1, t6]) fun t22 =>
 A0 PR (Instr.build 330 #[(0, t22), (1, (.int .i64 5))]) fun t23 =>
 A0 PR (Instr.makeFunc (.func 197) #[] #[t5]) fun t24 =>
 A0 PR (Instr.build 330 #[(0, t24), (1, (.int .i64 6))]) fun t25 =>
 B2 PR X (Instr.buildSlice 375 5 #[(0, t17), (1, t19), (2, t21), (3, t23), (4, t25)]) fun t26 =>
 B4 PR X 191 [t26] fun t27 =>
 jn (n := 2) (fun t3 t4 =>
 drw <|
 A6 PR (Instr.loadAt 9 t1) fun t32 =>
 A0 PR (Instr.sliceAt 9 t32 (some (.int .i64 12)) (some (.int .i64 16)) none) fun t33 =>
 A6 PR (Instr.loadAt 9 t1) fun t34 =>
 A0 PR (Instr.sliceAt 9 t34 (some (.int .i64 16)) (some (.int .i64 20)) none) fun t35 =>
 A6 PR (Instr.loadAt 180 t5) fun t36 =>
 A6 PR (Instr.loadAt 9 t1) fun t39 =>
 A6 PR (Instr.loadAt 3 t6) fun t40 =>
 A6 PR (Instr.loadAt 3 t7) fun t41 =>
 A0 PR (Instr.sliceAt 9 t39 (some t40) (some t41) none) fun t42 =>
 L5 PR X t36 [(.int .i64 9), (.int .i64 1)] fun t37 =>
 watch PR [(none, (Instr.loadAt 3 t7), t41), (none, (Instr.loadAt 3 t6), t40), (none, (Instr.loadAt 9 t1), t39), (none, (Instr.loadAt 9 t1), t34), (none, (Instr.loadAt 9 t1), t32)] <|
 A0 PR (Instr.build 226 #[(0, t33), (1, t35), (2, t37)]) fun t38 =>
 C0 PR X (Instr.storeAt 226 t2 t38) <|
 watch PR [(none, (Instr.loadAt 3 t7), t41), (none, (Instr.loadAt 3 t6), t40), (none, (Instr.loadAt 9 t1), t39)] <|
 A6 PR (F8 [.c 226 t2, .v t42, .v (.int .i64 0)]) R) fun J1 =>
 A0 PR (binOp .neq 27 t27 (.int .i64 0)) fun t29 =>
 C4 t29 (
 A0 PR (Instr.build 226 #[]) fun t30 =>
 C0 PR X (Instr.storeAt 226 t2 t30) <|
 A6 PR (F8 [.c 226 t2, .v (.string (ByteArray.mk #[])), .v t27]) R) (
 J1 (.string (ByteArray.mk #[])) (.int .i64 0))) fun C2 =>
 A6 PR (Instr.loadAt 180 t5) fun t10_1 =>
 A6 PR (Instr.loadAt 180 t5) fun t14_1 =>
 both (L5 PR X t10_1 [(.int .i64 0), (.int .i64 1)] fun t11_5 =>
 watch PR [(none, (Instr.loadAt 180 t5), t14_1)] <|
 A0 PR (binOp .and 3 t11_5 (.int .i64 15)) fun t12_5 =>
 A0 PR (binOp .mul 3 t12_5 (.int .i64 4)) fun t13_5 =>
 both (L5 PR X t14_1 [(.int .i64 2), (.int .i64 2)] fun t15_11 =>
 both (B2 PR X (Instr.alloc 3 true (.tuple #[])) fun t6_9 =>
 B2 PR X (Instr.alloc 3 true (.tuple #[])) fun t7_9 =>
 C0 PR X (Instr.storeAt 3 t6_9 t13_5) <|
 C0 PR X (Instr.storeAt 3 t7_9 t15_11) <|
 C2 t6_9 t7_9) (both (B2 PR X (Instr.alloc 3 true (.tuple #[])) fun t7_8 =>
 B2 PR X (Instr.alloc 3 true (.tuple #[])) fun t6_8 =>
 C0 PR X (Instr.storeAt 3 t6_8 t13_5) <|
 C0 PR X (Instr.storeAt 3 t7_8 t15_11) <|
 C2 t6_8 t7_8) ((fun _ => True)))) (both (B2 PR X (Instr.alloc 3 true (.tuple #[])) fun t6_7 =>
 watch PR [(none, (Instr.loadAt 180 t5), t14_1)] <|
 both (L5 PR X t14_1 [(.int .i64 2), (.int .i64 2)] fun t15_10 =>
 B2 PR X (Instr.alloc 3 true (.tuple #[])) fun t7_7 =>
 C0 PR X (Instr.storeAt 3 t6_7 t13_5) <|
 C0 PR X (Instr.storeAt 3 t7_7 t15_10) <|
 C2 t6_7 t7_7) (both (B2 PR X (Instr.alloc 3 true (.tuple #[])) fun t7_6 =>
 watch PR [(none, (Instr.loadAt 180 t5), t14_1)] <|
 L5 PR X t14_1 [(.int .i64 2), (.int .i64 2)] fun t15_9 =>
 C0 PR X (Instr.storeAt 3 t6_7 t13_5) <|
 C0 PR X (Instr.storeAt 3 t7_6 t15_9) <|
 C2 t6_7 t7_6) ((fun _ => True)))) (both (B2 PR X (Instr.alloc 3 true (.tuple #[])) fun t7_5 =>
 watch PR [(none, (Instr.loadAt 180 t5), t14_1)] <|
 both (L5 PR X t14_1 [(.int .i64 2), (.int .i64 2)] fun t15_8 =>
 B2 PR X (Instr.alloc 3 true (.tuple #[])) fun t6_6 =>
 C0 PR X (Instr.storeAt 3 t6_6 t13_5) <|
 C0 PR X (Instr.storeAt 3 t7_5 t15_8) <|
 C2 t6_6 t7_5) (both (B2 PR X (Instr.alloc 3 true (.tuple #[])) fun t6_5 =>
 watch PR [(none, (Instr.loadAt 180 t5), t14_1)] <|
 L5 PR X t14_1 [(.int .i64 2), (.int .i64 2)] fun t15_7 =>
 C0 PR X (Instr.storeAt 3 t6_5 t13_5) <|
 C0 PR X (Instr.storeAt 3 t7_5 t15_7) <|
 C2 t6_5 t7_5) ((fun _ => True)))) ((fun _ => True))))) (both (B2 PR X (Instr.alloc 3 true (.tuple #[])) fun t6_4 =>
 watch PR [(none, (Instr.loadAt 180 t5), t14_1), (none, (Instr.loadAt 180 t5), t10_1)] <|
 both (L5 PR X t10_1 [(.int .i64 0), (.int .i64 1)] fun t11_4 =>
 watch PR [(none, (Instr.loadAt 180 t5), t14_1)] <|
 A0 PR (binOp .and 3 t11_4 (.int .i64 15)) fun t12_4 =>
 A0 PR (binOp .mul 3 t12_4 (.int .i64 4)) fun t13_4 =>
 both (L5 PR X t14_1 [(.int .i64 2), (.int .i64 2)] fun t15_6 =>
 B2 PR X (Instr.alloc 3 true (.tuple #[])) fun t7_4 =>
 C0 PR X (Instr.storeAt 3 t6_4 t13_4) <|
 C0 PR X (Instr.storeAt 3 t7_4 t15_6) <|
 C2 t6_4 t7_4) (both (B2 PR X (Instr.alloc 3 true (.tuple #[])) fun t7_3 =>
 watch PR [(none, (Instr.loadAt 180 t5), t14_1)] <|
 L5 PR X t14_1 [(.int .i64 2), (.int .i64 2)] fun t15_5 =>
 C0 PR X (Instr.storeAt 3 t6_4 t13_4) <|
 C0 PR X (Instr.storeAt 3 t7_3 t15_5) <|
 C2 t6_4 t7_3) ((fun _ => True)))) (both (B2 PR X (Instr.alloc 3 true (.tuple #[])) fun t7_2 =>
 watch PR [(none, (Instr.loadAt 180 t5), t14_1), (none, (Instr.loadAt 180 t5), t10_1)] <|
 L5 PR X t10_1 [(.int .i64 0), (.int .i64 1)] fun t11_3 =>
 watch PR [(none, (Instr.loadAt 180 t5), t14_1)] <|
 A0 PR (binOp .and 3 t11_3 (.int .i64 15)) fun t12_3 =>
 A0 PR (binOp .mul 3 t12_3 (.int .i64 4)) fun t13_3 =>
 L5 PR X t14_1 [(.int .i64 2), (.int .i64 2)] fun t15_4 =>
 C0 PR X (Instr.storeAt 3 t6_4 t13_3) <|
 C0 PR X (Instr.storeAt 3 t7_2 t15_4) <|
 C2 t6_4 t7_2) ((fun _ => True)))) (both (B2 PR X (Instr.alloc 3 true (.tuple #[])) fun t7_1 =>
 watch PR [(none, (Instr.loadAt 180 t5), t14_1), (none, (Instr.loadAt 180 t5), t10_1)] <|
 both (L5 PR X t10_1 [(.int .i64 0), (.int .i64 1)] fun t11_2 =>
 watch PR [(none, (Instr.loadAt 180 t5), t14_1)] <|
 A0 PR (binOp .and 3 t11_2 (.int .i64 15)) fun t12_2 =>
 A0 PR (binOp .mul 3 t12_2 (.int .i64 4)) fun t13_2 =>
 both (L5 PR X t14_1 [(.int .i64 2), (.int .i64 2)] fun t15_3 =>
 B2 PR X (Instr.alloc 3 true (.tuple #[])) fun t6_3 =>
 C0 PR X (Instr.storeAt 3 t6_3 t13_2) <|
 C0 PR X (Instr.storeAt 3 t7_1 t15_3) <|
 C2 t6_3 t7_1) (both (B2 PR X (Instr.alloc 3 true (.tuple #[])) fun t6_2 =>
 watch PR [(none, (Instr.loadAt 180 t5), t14_1)] <|
 L5 PR X t14_1 [(.int .i64 2), (.int .i64 2)] fun t15_2 =>
 C0 PR X (Instr.storeAt 3 t6_2 t13_2) <|
 C0 PR X (Instr.storeAt 3 t7_1 t15_2) <|
 C2 t6_2 t7_1) ((fun _ => True)))) (both (B2 PR X (Instr.alloc 3 true (.tuple #[])) fun t6_1 =>
 watch PR [(none, (Instr.loadAt 180 t5), t14_1), (none, (Instr.loadAt 180 t5), t10_1)] <|
 L5 PR X t10_1 [(.int .i64 0), (.int .i64 1)] fun t11_1 =>
 watch PR [(none, (Instr.loadAt 180 t5), t14_1)] <|
 A0 PR (binOp .and 3 t11_1 (.int .i64 15)) fun t12_1 =>
 A0 PR (binOp .mul 3 t12_1 (.int .i64 4)) fun t13_1 =>
 L5 PR X t14_1 [(.int .i64 2), (.int .i64 2)] fun t15_1 =>
 C0 PR X (Instr.storeAt 3 t6_1 t13_1) <|
 C0 PR X (Instr.storeAt 3 t7_1 t15_1) <|
 C2 t6_1 t7_1) ((fun _ => True)))) ((fun _ => True))))
theorem B4z : A9 PR 139 := A7 Tryz.func139 (by kernel_rfl) rfl
theorem B5s {X : Nat → Prop} {t0 : Value} {R : Value → WP} {w : World} (h : A86 X t0 R w) : Fn PR X 139 #[t0] w R := C3 (args := [t0]) mixed Tryz.func139 (by kernel_rfl) h
def A79 (X : Nat → Prop) (t0 t1 t2 : Value) (R : Value → WP) : WP :=
 drw <|
 A6 PR (Instr.loadAt 9 t1) fun t5 =>
 A0 PR (A8 .len #[9] 0 [t5]) fun t6 =>
 A0 PR (binOp .add 3 (.int .i64 20) t6) fun t7 =>
 A0 PR (convert 3 89 t7) fun t8 =>
 A0 PR (Instr.fieldAt 226 t2 2) fun t12 =>
 A6 PR (Instr.loadAt 3 t12) fun t13 =>
 A0 PR (convert 3 89 t13) fun t14 =>
 A0 PR (convert 3 89 t0) fun t18 =>
 A0 PR (Instr.fieldAt 226 t2 0) fun t21 =>
 A6 PR (Instr.loadAt 9 t21) fun t22 =>
 A0 PR (Instr.fieldAt 226 t2 1) fun t24 =>
 A6 PR (Instr.loadAt 9 t24) fun t25 =>
 B4 PR X 176 [t8, (.int .i64 2)] fun t9 =>
 watch PR [(none, (Instr.loadAt 9 t24), t25), (none, (Instr.loadAt 9 t21), t22), (none, (Instr.loadAt 3 t12), t13)] <|
 A0 PR (binOp .add 9 (.string (ByteArray.mk #[69, 0])) t9) fun t10 =>
 A0 PR (binOp .add 9 t10 (.string (ByteArray.mk #[0, 0, 64, 0, 64]))) fun t11 =>
 B4 PR X 176 [t14, (.int .i64 1)] fun t15 =>
 watch PR [(none, (Instr.loadAt 9 t24), t25), (none, (Instr.loadAt 9 t21), t22)] <|
 A0 PR (binOp .add 9 t11 t15) fun t16 =>
 B4 PR X 176 [t18, (.int .i64 2)] fun t19 =>
 watch PR [(none, (Instr.loadAt 9 t24), t25), (none, (Instr.loadAt 9 t21), t22)] <|
 A0 PR (binOp .add 9 t16 t19) fun t20 =>
 A0 PR (binOp .add 9 t20 t22) fun t23 =>
 A0 PR (binOp .add 9 t23 t25) fun t26 =>
 R t26
theorem A6s : A9 PR 175 := A7 Tryz.func175 (by kernel_rfl) rfl
theorem B41 {X : Nat → Prop} {t0 t1 t2 : Value} {R : Value → WP} {w : World} (h : A79 X t0 t1 t2 R w) : Fn PR X 175 #[t0, t1, t2] w R := C3 (args := [t0, t1, t2]) mixed Tryz.func175 (by kernel_rfl) h
def A4s (X : Nat → Prop) (t0 t1 t2 : Value) (R : Value → WP) : WP :=
 A6 PR (Instr.loadAt 9 t2) fun t9 =>
 B4 PR X 145 [t9, t0, t1] fun t12 =>
 A0 PR (Instr.extract t12 0) fun t13 =>
 A0 PR (Instr.extract t12 1) fun t14 =>
 A0 PR (convert 89 3 t13) fun t16 =>
 R t16
theorem l0 : A9 PR 190 := A7 Tryz.func190 (by kernel_rfl) rfl
theorem B3D {X : Nat → Prop} {t0 t1 t2 : Value} {R : Value → WP} {w : World} (h : A4s X t0 t1 t2 R w) : Fn PR X 190 #[t0, t1, t2] w R := C3 (args := [t0, t1, t2]) mixed Tryz.func190 (by kernel_rfl) h
def A9P (X : Nat → Prop) (t0 : Value) (R : Value → WP) : WP :=
 jn (n := 2) (fun t3 t8 =>
 R t3) fun J1 =>
 A0 PR (A8 .len #[375] 0 [t0]) fun t7 =>
 lp (n := 2) (fun L2 t3_1 t8_1 =>
 A0 PR (binOp .lss 3 t8_1 t7) fun t9 =>
 jn (n := 0) (
 jn (n := 1) (fun t3_2 =>
 A0 PR (binOp .add 3 t8_1 (.int .i64 1)) fun t17 =>
 L2 t3_2 t17) fun J3 =>
 A0 PR (Instr.indexAt 375 t0 t8_1) fun t10 =>
 A6 PR (Instr.loadAt 330 t10) fun t11 =>
 B2 PR X (Instr.alloc 330 true (.tuple #[])) fun t5 =>
 C0 PR X (Instr.storeAt 330 t5 t11) <|
 A0 PR (Instr.fieldAt 330 t5 0) fun t12 =>
 A6 PR (Instr.loadAt 24 t12) fun t13 =>
 L5 PR X t13 [] fun t14 =>
 C4 t14 (
 A0 PR (Instr.fieldAt 330 t5 1) fun t15 =>
 A6 PR (Instr.loadAt 27 t15) fun t16 =>
 J1 t16 t8_1) (
 J3 t3_1)) fun J4 =>
 C4 t9 (
 J4) (
 J1 t3_1 t8_1)) (.int .i64 0) (.int .i64 0)
theorem B4y : A9 PR 191 := A7 Tryz.func191 (by kernel_rfl) rfl
theorem B68 {X : Nat → Prop} {t0 : Value} {R : Value → WP} {w : World} (h : A9P X t0 R w) : Fn PR X 191 #[t0] w R := C3 (args := [t0]) mixed Tryz.func191 (by kernel_rfl) h
def A5G (X : Nat → Prop) (t0 : Value) (R : Value → WP) : WP :=
 A6 PR (Instr.loadAt 9 t0) fun t2 =>
 A0 PR (A8 .len #[9] 0 [t2]) fun t3 =>
 A0 PR (binOp .lss 3 t3 (.int .i64 20)) fun t4 =>
 R t4
theorem B1C : A9 PR 192 := A7 Tryz.func192 (by kernel_rfl) rfl
theorem B3K {X : Nat → Prop} {t0 : Value} {R : Value → WP} {w : World} (h : A5G X t0 R w) : Fn PR X 192 #[t0] w R := C3 (args := [t0]) mixed Tryz.func192 (by kernel_rfl) h
def A4y (X : Nat → Prop) (t0 : Value) (R : Value → WP) : WP :=
 A6 PR (Instr.loadAt 180 t0) fun t2 =>
 L5 PR X t2 [(.int .i64 0), (.int .i64 1)] fun t3 =>
 A0 PR (binOp .shr 3 t3 (.int .u64 4)) fun t4 =>
 A0 PR (binOp .neq 3 t4 (.int .i64 4)) fun t5 =>
 R t5
theorem B1G : A9 PR 193 := A7 Tryz.func193 (by kernel_rfl) rfl
theorem B2K {X : Nat → Prop} {t0 : Value} {R : Value → WP} {w : World} (h : A4y X t0 R w) : Fn PR X 193 #[t0] w R := C3 (args := [t0]) mixed Tryz.func193 (by kernel_rfl) h
def A4v (X : Nat → Prop) (t0 t1 t2 : Value) (R : Value → WP) : WP :=
 A6 PR (Instr.loadAt 3 t0) fun t4 =>
 A0 PR (binOp .lss 3 t4 (.int .i64 20)) fun t5 =>
 gj t5 false (fun J => A6 PR (Instr.loadAt 3 t0) J) fun t7 =>
 gj t5 false (fun J => A6 PR (Instr.loadAt 9 t1) J) fun t8 =>
 gj t5 false (fun J => A0 PR (A8 .len #[9] 0 [t8]) J) fun t9 =>
 gj t5 false (fun J => A0 PR (binOp .gtr 3 t7 t9) J) fun t10 =>
 A0 PR (do pure (if ← asBool t5 then (.bool true) else t10)) fun t11 =>
 gj t11 false (fun J => A6 PR (Instr.loadAt 3 t2) J) fun t13 =>
 gj t11 false (fun J => A6 PR (Instr.loadAt 3 t0) J) fun t14 =>
 gj t11 false (fun J => A0 PR (binOp .lss 3 t13 t14) J) fun t15 =>
 A0 PR (do pure (if ← asBool t11 then (.bool true) else t15)) fun t16 =>
 gj t16 false (fun J => A6 PR (Instr.loadAt 3 t2) J) fun t18 =>
 gj t16 false (fun J => A6 PR (Instr.loadAt 9 t1) J) fun t19 =>
 gj t16 false (fun J => A0 PR (A8 .len #[9] 0 [t19]) J) fun t20 =>
 gj t16 false (fun J => A0 PR (binOp .gtr 3 t18 t20) J) fun t21 =>
 A0 PR (do pure (if ← asBool t16 then (.bool true) else t21)) fun t22 =>
 R t22
theorem B1s : A9 PR 194 := A7 Tryz.func194 (by kernel_rfl) rfl
theorem B3B {X : Nat → Prop} {t0 t1 t2 : Value} {R : Value → WP} {w : World} (h : A4v X t0 t1 t2 R w) : Fn PR X 194 #[t0, t1, t2] w R := C3 (args := [t0, t1, t2]) mixed Tryz.func194 (by kernel_rfl) h
def A5H (X : Nat → Prop) (t0 t1 : Value) (R : Value → WP) : WP :=
 A6 PR (Instr.loadAt 9 t0) fun t3 =>
 A6 PR (Instr.loadAt 3 t1) fun t4 =>
 A0 PR (Instr.sliceAt 9 t3 none (some t4) none) fun t5 =>
 B4 PR X 196 [t5] fun t6 =>
 A0 PR (Op.unary .not t6) fun t7 =>
 R t7
theorem B1g : A9 PR 195 := A7 Tryz.func195 (by kernel_rfl) rfl
theorem B16 {X : Nat → Prop} {t0 t1 : Value} {R : Value → WP} {w : World} (h : A5H X t0 t1 R w) : Fn PR X 195 #[t0, t1] w R := C3 (args := [t0, t1]) mixed Tryz.func195 (by kernel_rfl) h
def A4l (X : Nat → Prop) (t0 : Value) (R : Value → WP) : WP :=
 A6 PR (Instr.loadAt 180 t0) fun t2 =>
 L5 PR X t2 [(.int .i64 6), (.int .i64 2)] fun t3 =>
 A0 PR (binOp .and 3 t3 (.int .i64 16383)) fun t4 =>
 A0 PR (binOp .neq 3 t4 (.int .i64 0)) fun t5 =>
 R t5
theorem B1M : A9 PR 197 := A7 Tryz.func197 (by kernel_rfl) rfl
theorem B2Y {X : Nat → Prop} {t0 : Value} {R : Value → WP} {w : World} (h : A4l X t0 R w) : Fn PR X 197 #[t0] w R := C3 (args := [t0]) mixed Tryz.func197 (by kernel_rfl) h
end Go.Proofs.YtjobgnabneddjaaGreat
namespace Go.Proofs.YtjobgnabneddjaaGreat
open Go
def B2u (X : Nat → Prop) (t0 : Value) (R : Value → WP) : WP :=
 B4 PR X 233 [t0] fun t4 =>
 A0 PR (binOp .sub 3 (.int .i64 65535) t4) fun t5 =>
 R t5
theorem B8A : A9 PR 177 := A7 Tryz.func177 (by kernel_rfl) rfl
theorem B9N {X : Nat → Prop} {t0 : Value} {R : Value → WP} {w : World} (h : B2u X t0 R w) : Fn PR X 177 #[t0] w R := C3 (args := [t0]) mixed Tryz.func177 (by kernel_rfl) h
def B1B (X : Nat → Prop) (t0 : Value) (R : Value → WP) : WP :=
 B4 PR X 233 [t0] fun t4 =>
 A0 PR (binOp .eql 3 t4 (.int .i64 65535)) fun t5 =>
 R t5
theorem B6S : A9 PR 196 := A7 Tryz.func196 (by kernel_rfl) rfl
theorem B72 {X : Nat → Prop} {t0 : Value} {R : Value → WP} {w : World} (h : B1B X t0 R w) : Fn PR X 196 #[t0] w R := C3 (args := [t0]) mixed Tryz.func196 (by kernel_rfl) h
def B03 (X : Nat → Prop) (t0 : Value) (R : Value → WP) : WP :=
 B2 PR X (Instr.alloc 89 true (.tuple #[])) fun t3 =>
 jn (n := 0) (
 jn (n := 0) (
 A6 PR (Instr.loadAt 89 t3) fun t18 =>
 A0 PR (convert 89 3 t18) fun t19 =>
 d9 (R t19)) fun J1 =>
 lp (n := 0) (fun L2 =>
 jn (n := 0) (
 A6 PR (Instr.loadAt 89 t3) fun t13 =>
 A0 PR (binOp .shr 89 t13 (.int .u64 16)) fun t14 =>
 A6 PR (Instr.loadAt 89 t3) fun t15 =>
 A0 PR (binOp .and 89 t15 (.int .u64 65535)) fun t16 =>
 A0 PR (binOp .add 89 t14 t16) fun t17 =>
 C0 PR X (Instr.storeAt 89 t3 t17) <|
 L2) fun J3 =>
 A6 PR (Instr.loadAt 89 t3) fun t11 =>
 A0 PR (binOp .leq 89 t11 (.int .u64 65535)) fun t12 =>
 C4 t12 (
 J1) (
 J3)) ) fun J4 =>
 B4 PR X 265 [t0] fun t6 =>
 rng (N := 1) PR X (fun t7 K5 =>
 bgn <|
 A6 PR (Instr.loadAt 89 t3) fun t8 =>
 A0 PR (binOp .add 89 t8 t7) fun t10 =>
 C0 PR (fun _ => False) (Instr.storeAt 89 t3 t10) <|
 K5 none) t6 (fun j => match j with | none => (J4) | some (.exit i) => (match Nat.beq i 0 with | true => (J4) | false => (G2)) | some .ret => (d9 (R (.int .i64 0))) | some _ => G2)
theorem A90 : A9 PR 233 := A7 Tryz.func233 (by kernel_rfl) rfl
theorem B8L {X : Nat → Prop} {t0 : Value} {R : Value → WP} {w : World} (h : B03 X t0 R w) : Fn PR X 233 #[t0] w R := C3 (args := [t0]) mixed Tryz.func233 (by kernel_rfl) h
def B0F (X : Nat → Prop) (t0 : Value) (R : Value → WP) : WP :=
 B2 PR X (Instr.box 9 t0) fun t1 =>
 A0 PR (Instr.makeFunc (.func 285) #[] #[t1]) fun t3 =>
 R t3
theorem B5E : A9 PR 265 := A7 Tryz.func265 (by kernel_rfl) rfl
theorem B6Y {X : Nat → Prop} {t0 : Value} {R : Value → WP} {w : World} (h : B0F X t0 R w) : Fn PR X 265 #[t0] w R := C3 (args := [t0]) mixed Tryz.func265 (by kernel_rfl) h
def A5N (X : Nat → Prop) (t0 t1 : Value) (R : Value → WP) : WP :=
 jn (n := 0) (
 lp (n := 1) (fun L1 t3 =>
 jn (n := 0) (
 jn (n := 0) (
 A0 PR (binOp .add 3 t3 (.int .i64 2)) fun t17 =>
 L1 t17) fun J2 =>
 A6 PR (Instr.loadAt 9 t1) fun t19 =>
 B4 PR X 145 [t19, t3, (.int .i64 2)] fun t21 =>
 A0 PR (Instr.extract t21 0) fun t22 =>
 A0 PR (Instr.extract t21 1) fun t23 =>
 L5 PR X t0 [t22] fun t26 =>
 A0 PR (Op.unary .not t26) fun t27 =>
 C4 t27 (
 R (.tuple #[])) (
 J2)) fun J3 =>
 A6 PR (Instr.loadAt 9 t1) fun t13 =>
 A0 PR (A8 .len #[9] 0 [t13]) fun t14 =>
 A0 PR (binOp .lss 3 t3 t14) fun t15 =>
 C4 t15 (
 J3) (
 R (.tuple #[]))) (.int .i64 0)) fun J4 =>
 A6 PR (Instr.loadAt 9 t1) fun t6 =>
 A0 PR (A8 .len #[9] 0 [t6]) fun t7 =>
 A0 PR (binOp .rem 3 t7 (.int .i64 2)) fun t8 =>
 A0 PR (binOp .eql 3 t8 (.int .i64 1)) fun t9 =>
 C4 t9 (
 A6 PR (Instr.loadAt 9 t1) fun t10 =>
 A0 PR (binOp .add 9 t10 (.string (ByteArray.mk #[0]))) fun t11 =>
 C0 PR X (Instr.storeAt 9 t1 t11) <|
 J4) (
 J4)
theorem B1m : A9 PR 285 := A7 Tryz.func285 (by kernel_rfl) rfl
theorem B2U {X : Nat → Prop} {t0 t1 : Value} {R : Value → WP} {w : World} (h : A5N X t0 t1 R w) : Fn PR X 285 #[t0, t1] w R := C3 (args := [t0, t1]) mixed Tryz.func285 (by kernel_rfl) h
theorem B18 {X : Nat → Prop} {t0 t1 : Value} {K : Value → WP} {w : World} (h : Fn PR X 285 #[t0, t1] w K) : A00 PR X 285 [t0, t1] K w := ⟨B1m, h⟩
end Go.Proofs.YtjobgnabneddjaaGreat
namespace Go.Proofs.YtjobgnabneddjaaGreat
open Go
abbrev C1e (b : Nat) : Value := .func (.func 285) #[] #[.pointer (some ⟨b, 0, none⟩)]
theorem C36 (w : World) (s : ByteArray) : Fn PR B8 265 #[.string s] w (Rn [] w (fun b v => v = C1e b) fun b => [.pt b (.cells #[.string s] 9)]) := by
 refine B6Y (TW.go (κ := false) (S := []) ?_)
 unfold B0F
 (have zz:=trivial;repeat((first|clear zz|with_reducible first|refine A3 ?_|refine A5 fun _=>?_|refine A4 fun _=>?_);try simp(disch:=first|omega|assumption|((repeat(first|exact A1|exact uH|apply A2|apply uT));first|done|fail)|(simp;first|done|omega|fail))[]))
 rename_i b
 exact j1 b rfl (by simp)
def B5f (s : ByteArray) (i : Nat) : List Value := [.int .u64 (r5 s (2 * i) 2 : Nat)]
def U4 (s : ByteArray) : Nat := (s.size + 1) / 2
def pad (s : ByteArray) : ByteArray := if s.size % 2 = 1 then s ++ ByteArray.mk #[0] else s
theorem C4P (s : ByteArray) : (pad s).size = 2 * U4 s := by
 unfold pad U4; split
 ·rw [ByteArray.size_append, show (ByteArray.mk #[0]).size = 1 from rfl]; omega
 ·omega
theorem B5C (s t : ByteArray) (i : Nat) : F6 (s ++ t) i = if i < s.size then F6 s i else F6 t (i - s.size) := by
 unfold F6
 rw [ByteArray.data_append, Array.getD_eq_getD_getElem?, Array.getElem?_append, Array.getD_eq_getD_getElem?, Array.getD_eq_getD_getElem?]
 simp only [ByteArray.size]
 split <;> rfl
theorem B9S (s : ByteArray) (i : Nat) : F6 (pad s) i = F6 s i := by
 unfold pad; split
 ·rw [B5C]; split
  ·rfl
  ·rename_i h
   have h1 : F6 s i = 0 := by unfold F6; rw [Array.getD_eq_getD_getElem?, Array.getElem?_eq_none (by simp only [ByteArray.size] at h; omega)]; rfl
   rw [h1]; unfold F6
   by_cases h2 : i - s.size = 0
   ·rw [h2]; rfl
   ·rw [Array.getD_eq_getD_getElem?, Array.getElem?_eq_none (by simp; omega)]; rfl
 ·rfl
theorem C5c (s : ByteArray) (a n : Nat) : r5 (pad s) a n = r5 s a n := by
 induction n with
 | zero => rfl
 | succ n ih => simp only [r5, ih, B9S]
theorem C3w (b : Nat) (s : ByteArray) (hs : s.size < 2 ^ 60) : A5A (C1e b) [.pt b (.cells #[.string s] 9)] (fun _ _ => True) ((List.range (U4 s)).map (B5f s)) := by
 refine ⟨_, _, _, rfl, fun l J E hJ hE stJ stE hy w0 h0 => ?_⟩
 refine B18 (B2U (TW.at (κ := true) ?_ (hJ _ _ _ h0).1))
 unfold A5N
 have hp := C4P s
 have hnw : U4 s ≤ s.size := by unfold U4; omega
 have key : ∀ Lp : WP, TW true (B5 [Res.pt b (.cells #[.string s] 9)]) w0 [.pt b (.cells #[.string (pad s)] 9)] Lp → (if s.size % 2 = 1 then TW true (B5 [Res.pt b (.cells #[.string s] 9)]) w0 [.pt b (.cells #[.string (s ++ ByteArray.mk #[0])] 9)] Lp else TW true (B5 [Res.pt b (.cells #[.string s] 9)]) w0 [.pt b (.cells #[.string s] 9)] Lp) := by
  intro Lp h; unfold pad at h; split <;> simp_all
 have hrem : ((s.size : Int).tmod 2 = 1) = (s.size % 2 = 1) := by
  rw [Int.tmod_eq_emod_of_nonneg (by omega)]; exact propext (by omega)
 have hadd : s.size + (ByteArray.mk #[0]).size ≤ 9223372036854775807 := by rw [show (ByteArray.mk #[0]).size = 1 from rfl]; omega
 (have zz:=trivial;repeat((first|clear zz|with_reducible first|refine A3 ?_|refine A5 fun _=>?_|refine A4 fun _=>?_);try simp(disch:=first|omega|assumption|((repeat(first|exact A1|exact uH|apply A2|apply uT));first|done|fail)|(simp;first|done|omega|fail))[B2N, U6, hrem]))
 refine key _ ?_
 clear key
 refine C4d (fun i => i) (fun _ => [.pt b (.cells #[.string (pad s)] 9)]) (fun i => i ≤ U4 s) (fun i => U4 s - i) (fun i : Nat => .int .i64 (2 * (i : Int))) 0 hJ stJ h0 (Nat.zero_le _) fun i a hi hJi _ L hL => ?_
 by_cases hlt : i < U4 s
 ·have h2 : 2 * (i : Int) < (pad s).size := by omega
  (have zz:=trivial;repeat((first|clear zz|with_reducible first|refine A3 ?_|refine A5 fun _=>?_|refine A4 fun _=>?_);try simp(disch:=first|omega|assumption|((repeat(first|exact A1|exact uH|apply A2|apply uT));first|done|fail)|(simp;first|done|omega|fail))[h2]))
  refine C1 S2 (fun w' _ => A2f w' (pad s) (by omega) _ _) ?_
  have hg : A2G (pad s) (2 * (i : Int)) 2 = true := by simp only [A2G, decide_eq_true_eq]; omega
  have hv : A5j (pad s) (2 * (i : Int)) 2 = (r5 s (2 * i) 2 : Nat) := by
   unfold A5j; rw [if_pos hg, C5c]; congr 2
  rw [hv, hg]
  (have zz:=trivial;repeat((first|clear zz|with_reducible first|refine A3 ?_|refine A5 fun _=>?_|refine A4 fun _=>?_);try simp(disch:=first|omega|assumption|((repeat(first|exact A1|exact uH|apply A2|apply uT));first|done|fail)|(simp;first|done|omega|fail))[]))
  refine A7b hJ hE stJ hy hJi (by simpa using hlt) (by simp [B5f]) (fun w3 h => ?_) (fun w3 h => ?_)
  ·(have zz:=trivial;repeat((first|clear zz|with_reducible first|refine A3 ?_|refine A5 fun _=>?_|refine A4 fun _=>?_);try simp(disch:=first|omega|assumption|((repeat(first|exact A1|exact uH|apply A2|apply uT));first|done|fail)|(simp;first|done|omega|fail))[]))
   intro w' hw'
   have := hL (i + 1) w' hlt (by omega) (stJ _ _ _ _ _ h hw')
   simpa [Int.mul_add] using this
  ·(have zz:=trivial;repeat((first|clear zz|with_reducible first|refine A3 ?_|refine A5 fun _=>?_|refine A4 fun _=>?_);try simp(disch:=first|omega|assumption|((repeat(first|exact A1|exact uH|apply A2|apply uT));first|done|fail)|(simp;first|done|omega|fail))[]))
   exact A4K stE h
 ·have h2 : ¬ 2 * (i : Int) < (pad s).size := by omega
  obtain rfl : i = U4 s := by omega
  (have zz:=trivial;repeat((first|clear zz|with_reducible first|refine A3 ?_|refine A5 fun _=>?_|refine A4 fun _=>?_);try simp(disch:=first|omega|assumption|((repeat(first|exact A1|exact uH|apply A2|apply uT));first|done|fail)|(simp;first|done|omega|fail))[h2]))
  exact A4B stJ (by simpa using hJi)
def A7l (s : ByteArray) : Nat → Nat
 | 0 => 0
 | i + 1 => A7l s i + r5 s (2 * i) 2
def fld (n : Nat) : Nat := if n = 0 then 0 else (n - 1) % 65535 + 1
def A0F (s : ByteArray) : Nat := fld (A7l s (U4 s))
theorem C3l (n : Nat) : fld (n / 65536 + n % 65536) = fld n := by
 unfold fld
 have h := Nat.div_add_mod n 65536
 by_cases h0 : n = 0
 ·subst h0; rfl
 ·rw [if_neg (by omega), if_neg h0]; omega
theorem C2B {n : Nat} (h : n ≤ 65535) : fld n = n := by unfold fld; split <;> omega
theorem C1F (n : Nat) : fld n ≤ 65535 := by unfold fld; split <;> omega
theorem B8e (s : ByteArray) (i : Nat) : A7l s i ≤ i * 65535 := by
 induction i with
 | zero => simp [A7l]
 | succ i ih => have := A9d s (2 * i) 2; simp only [A7l]; omega
theorem C3Z (n : Nat) (h : n < 2 ^ 64) : IntKind.u64.wrap ((n % 2 ^ IntKind.u64.bits &&& 65535 % 2 ^ IntKind.u64.bits : Nat) : Int) = ((n % 65536 : Nat) : Int) := by
 rw [show (2 : Nat) ^ IntKind.u64.bits = 2 ^ 64 from rfl, Nat.mod_eq_of_lt h, show 65535 % 2 ^ 64 = 2 ^ 16 - 1 from rfl, Nat.and_two_pow_sub_one_eq_mod]
 exact A1v (by omega) (by omega)
theorem B8k (w : World) (s : ByteArray) (hs : s.size < 2 ^ 40) : Fn PR B8 233 #[.string s] w (fun v w' => v = .int .i64 (A0F s : Nat) ∧ C7 [] w w') := by
 refine Fn.pure (B8L (TW.go (κ := false) (S := []) ?_))
 unfold B03
 (have zz:=trivial;repeat((first|clear zz|with_reducible first|refine A3 ?_|refine A5 fun _=>?_|refine A4 fun _=>?_);try simp(disch:=first|omega|assumption|((repeat(first|exact A1|exact uH|apply A2|apply uT));first|done|fail)|(simp;first|done|omega|fail))[]))
 rename_i bn
 refine H2 B5E (fun w' _ => C36 w' s) ?_
 rintro b v rfl
 have hnw : U4 s ≤ 2 ^ 39 := by unfold U4; omega
 refine A2E (C3w b s (by omega)) (by simp [B5f]) (fun _ (_ : Unit) => True) (fun i _ => [.pt bn (.cells #[.int .u64 ((A7l s i : Nat) : Int)] 89)]) (fun _ (_ : Unit) => False) (fun _ => []) () trivial ?_ ?_ ?_ ?_
 ·intros; trivial
 ·rintro i hi _ F _ K' hK _
  have hi' : i < U4 s := by simpa using hi
  have h1 := B8e s i
  have h2 := A9d s (2 * i) 2
  simp only [List.getElem_map, List.getElem_range, B5f, VF.app]
  (have zz:=trivial;repeat((first|clear zz|with_reducible first|refine A3 ?_|refine A5 fun _=>?_|refine A4 fun _=>?_);try simp(disch:=first|omega|assumption|((repeat(first|exact A1|exact uH|apply A2|apply uT));first|done|fail)|(simp;first|done|omega|fail))[]))
  refine TW.eqH ?_ (hK () trivial)
  simp [A7l]
 ·rintro _ _
  (have zz:=trivial;repeat((first|clear zz|with_reducible first|refine A3 ?_|refine A5 fun _=>?_|refine A4 fun _=>?_);try simp(disch:=first|omega|assumption|((repeat(first|exact A1|exact uH|apply A2|apply uT));first|done|fail)|(simp;first|done|omega|fail))[]))
  refine C9V (fun n : Nat => [.pt bn (.cells #[.int .u64 (n : Int)] 89)]) (fun n => fld n = A0F s ∧ n < 2 ^ 63) (fun n => n) _ ⟨by simp [A0F], by have := B8e s (U4 s); simp; omega⟩ ?_
  rintro n ⟨h1, h2⟩ L hL
  by_cases h3 : n ≤ 65535
  ·have h4 : (n : Int) ≤ 65535 := by omega
   (have zz:=trivial;repeat((first|clear zz|with_reducible first|refine A3 ?_|refine A5 fun _=>?_|refine A4 fun _=>?_);try simp(disch:=first|omega|assumption|((repeat(first|exact A1|exact uH|apply A2|apply uT));first|done|fail)|(simp;first|done|omega|fail))[h4]))
   rw [C2B h3] at h1
   exact B0 (by rw [h1])
  ·have h4 : ¬ (n : Int) ≤ 65535 := by omega
   have e1 : (n : Int).fdiv (2 ^ min 16 IntKind.u64.bits) = (n / 65536 : Nat) := by rw [show (2 : Int) ^ min 16 IntKind.u64.bits = 65536 from rfl, Int.fdiv_eq_ediv_of_nonneg _ (by omega)]; omega
   (have zz:=trivial;repeat((first|clear zz|with_reducible first|refine A3 ?_|refine A5 fun _=>?_|refine A4 fun _=>?_);try simp(disch:=first|omega|assumption|((repeat(first|exact A1|exact uH|apply A2|apply uT));first|done|fail)|(simp;first|done|omega|fail))[h4]))
   refine TW.eqH ?_ (hL (n / 65536 + n % 65536) ⟨by rw [C3l]; exact h1, by omega⟩ (by omega))
   rw [e1, C3Z n (by omega), A1v (by omega) (by omega)]; simp
 ·rintro _ _ h; exact h.elim
def B3r (s : ByteArray) : Int := 65535 - A0F s
theorem C7C (w : World) (s : ByteArray) (hs : s.size < 2 ^ 40) : Fn PR B8 177 #[.string s] w (fun v w' => v = .int .i64 (B3r s) ∧ C7 [] w w') := by
 refine Fn.pure (B9N (TW.go (κ := false) (S := []) ?_))
 unfold B2u
 refine C1 A90 (fun w' _ => B8k w' s hs) ?_
 have := C1F (A7l s (U4 s))
 have h2 : ((A0F s : Nat) : Int) ≤ 65535 := by unfold A0F; omega
 (have zz:=trivial;repeat((first|clear zz|with_reducible first|refine A3 ?_|refine A5 fun _=>?_|refine A4 fun _=>?_);try simp(disch:=first|omega|assumption|((repeat(first|exact A1|exact uH|apply A2|apply uT));first|done|fail)|(simp;first|done|omega|fail))[]))
 exact B0 rfl
theorem C6C (w : World) (s : ByteArray) (hs : s.size < 2 ^ 40) : Fn PR B8 196 #[.string s] w (fun v w' => v = .bool (decide (A0F s = 65535)) ∧ C7 [] w w') := by
 refine Fn.pure (B72 (TW.go (κ := false) (S := []) ?_))
 unfold B1B
 refine C1 A90 (fun w' _ => B8k w' s hs) ?_
 (have zz:=trivial;repeat((first|clear zz|with_reducible first|refine A3 ?_|refine A5 fun _=>?_|refine A4 fun _=>?_);try simp(disch:=first|omega|assumption|((repeat(first|exact A1|exact uH|apply A2|apply uT));first|done|fail)|(simp;first|done|omega|fail))[]))
 exact B0 (by simp; omega)
end Go.Proofs.YtjobgnabneddjaaGreat
namespace Go.Proofs.YtjobgnabneddjaaGreat
open Go
def gv (s : ByteArray) (a n : Nat) : Nat := if a + n ≤ s.size then r5 s a n else 0
theorem A6B (s : ByteArray) (a n : Nat) (h1 : 1 ≤ n) (h8 : n ≤ 8) : A5j s a n = gv s a n := by
 unfold A5j gv
 by_cases h : a + n ≤ s.size
 ·rw [if_pos (by simp only [A2G, decide_eq_true_eq]; omega), if_pos h]; simp
 ·rw [if_neg (by simp only [A2G, decide_eq_true_eq]; omega), if_neg h]; rfl
theorem B3F (s : ByteArray) (a : Nat) : gv s a 1 < 256 := by
 unfold gv; split
 ·exact A9d s a 1
 ·omega
theorem A2p (s : ByteArray) (a : Nat) : gv s a 2 < 65536 := by
 unfold gv; split
 ·exact A9d s a 2
 ·omega
theorem A4J (w : World) (s : ByteArray) (hs : s.size < 2 ^ 63) (b a n : Nat) (h1 : 1 ≤ n) (h2 : n ≤ 2) (hc : w.cell? ⟨b, 0, none⟩ = some (.string s)) :
  Fn PR B8 190 #[.int .i64 (a : Int), .int .i64 (n : Int), .pointer (some ⟨b, 0, none⟩)] w (fun v w' => v = .int .i64 (gv s a n : Nat) ∧ C7 [] w w') := by
 refine Fn.pure (B3D (TW.go (κ := false) (S := []) ?_))
 unfold A4s
 (have zz:=trivial;repeat((first|clear zz|with_reducible first|refine A3 ?_|refine A5 fun _=>?_|refine A4 fun _=>?_|refine D6 fun _=>?_|refine D3 (hK:=fun _=>?_)|refine D7 (hK:=fun _=>?_)|refine D8 (hK:=fun _=>?_)|refine D5 (hK:=fun _=>?_)|refine D4 (hK:=fun _=>?_));try simp(disch:=first|omega|assumption|((repeat(first|exact A1|exact uH|apply A2|apply uT));first|done|fail)|(simp;first|done|omega|fail))[hc]))
 refine C1 S2 (fun w' _ => A2f w' s (by omega) _ _) ?_
 rw [A6B s a n h1 (by omega)]
 have hlt : gv s a n < 65536 := by
  obtain rfl | rfl : n = 1 ∨ n = 2 := by omega
  ·have := B3F s a; omega
  ·exact A2p s a
 (have zz:=trivial;repeat((first|clear zz|with_reducible first|refine A3 ?_|refine A5 fun _=>?_|refine A4 fun _=>?_|refine D6 fun _=>?_|refine D3 (hK:=fun _=>?_)|refine D7 (hK:=fun _=>?_)|refine D8 (hK:=fun _=>?_)|refine D5 (hK:=fun _=>?_)|refine D4 (hK:=fun _=>?_));try simp(disch:=first|omega|assumption|((repeat(first|exact A1|exact uH|apply A2|apply uT));first|done|fail)|(simp;first|done|omega|fail))[]))
 exact B0 rfl
theorem C6G (w : World) (s : ByteArray) (hs : s.size < 2 ^ 63) (b : Nat) (hc : w.cell? ⟨b, 0, none⟩ = some (.string s)) :
  Fn PR B8 190 #[.int .i64 0, .int .i64 1, .pointer (some ⟨b, 0, none⟩)] w (fun v w' => v = .int .i64 (gv s 0 1 : Nat) ∧ C7 [] w w') := A4J w s hs b 0 1 (by omega) (by omega) hc
theorem C5K (w : World) (s : ByteArray) (hs : s.size < 2 ^ 63) (b : Nat) (hc : w.cell? ⟨b, 0, none⟩ = some (.string s)) :
  Fn PR B8 190 #[.int .i64 2, .int .i64 2, .pointer (some ⟨b, 0, none⟩)] w (fun v w' => v = .int .i64 (gv s 2 2 : Nat) ∧ C7 [] w w') := A4J w s hs b 2 2 (by omega) (by omega) hc
theorem C53 (w : World) (s : ByteArray) (hs : s.size < 2 ^ 63) (b : Nat) (hc : w.cell? ⟨b, 0, none⟩ = some (.string s)) :
  Fn PR B8 190 #[.int .i64 9, .int .i64 1, .pointer (some ⟨b, 0, none⟩)] w (fun v w' => v = .int .i64 (gv s 9 1 : Nat) ∧ C7 [] w w') := A4J w s hs b 9 1 (by omega) (by omega) hc
def B5c (x : Value × Int × Bool) : List Value := [x.1, .int .i64 x.2.1]
def A3u (l : List (Value × Int × Bool)) : Int := match l.find? (·.2.2) with | some x => x.2.1 | none => 0
theorem B7j {l : List (Value × Int × Bool)} (h : ∀ i (hi : i < l.length), l[i].2.2 = false) : A3u l = 0 := by
 have : l.find? (·.2.2) = none := by
  rw [List.find?_eq_none]; intro x hx; obtain ⟨i, hi, rfl⟩ := List.getElem_of_mem hx; simp [h i hi]
 simp [A3u, this]
theorem B7r {l : List (Value × Int × Bool)} {i : Nat} (hi : i < l.length) (hp : l[i].2.2 = true) (h : ∀ j (hj : j < i), (l[j]'(by omega)).2.2 = false) : A3u l = l[i].2.1 := by
 have : l.find? (·.2.2) = some l[i] := by
  rw [List.find?_eq_some_iff_getElem]
  exact ⟨hp, i, hi, rfl, fun j hj => by simp [h j hj]⟩
 simp [A3u, this]
theorem C3M (w : World) (v : Value) (l : List (Value × Int × Bool)) (hl : l.length < 1000) (hv : G1 w v l.length (l.flatMap B5c))
  (hg : ∀ i (hi : i < l.length), (∀ j (hj : j < i), (l[j]'(by omega)).2.2 = false) → ∃ f cap, l[i].1 = .func (.func f) #[] cap ∧ A9 PR f ∧ ∀ w', KS false [] w w' → Fn PR B8 f cap w' (fun v w'' => v = .bool l[i].2.2 ∧ C7 [] w' w'')) :
  Fn PR B8 191 #[v] w (fun u w' => u = .int .i64 (A3u l) ∧ C7 [] w w') := by
 refine Fn.pure (B68 (TW.go (κ := false) (S := []) ?_))
 unfold A9P
 obtain ⟨a, c, rfl, hrow⟩ := hv.form
 (have zz:=trivial;repeat((first|clear zz|with_reducible first|refine A3 ?_|refine A5 fun _=>?_|refine A4 fun _=>?_|refine D6 fun _=>?_|refine D3 (hK:=fun _=>?_)|refine D7 (hK:=fun _=>?_)|refine D8 (hK:=fun _=>?_)|refine D5 (hK:=fun _=>?_)|refine D4 (hK:=fun _=>?_));try simp(disch:=first|omega|assumption|((repeat(first|exact A1|exact uH|apply A2|apply uT));first|done|fail)|(simp;first|done|omega|fail))[]))
 refine A2V (α := Unit) l.length (fun _ _ => .int .i64 0) (fun _ _ => []) (fun i _ => ∀ j (hj : j < i), ∀ (h : j < l.length), l[j].2.2 = false) () (by intro j hj; omega) ?_
 rintro i _ hi hpre L hL
 by_cases hlt : i < l.length
 ·obtain ⟨b, o, rfl, hr⟩ := hrow (by omega)
  have hx : l[i]? = some l[i] := List.getElem?_eq_getElem hlt
  have hrn := hr.at (f := B5c) (k := 2) (fun _ => rfl) hx
  have hpre' : ∀ j (hj : j < i), (l[j]'(by omega)).2.2 = false := fun j hj => hpre j hj (by omega)
  obtain ⟨f, cap, he, hent, hcall⟩ := hg i hlt hpre'
  rw [B5c, he] at hrn
  (have zz:=trivial;repeat((first|clear zz|with_reducible first|refine A3 ?_|refine A5 fun _=>?_|refine A4 fun _=>?_|refine D6 fun _=>?_|refine D3 (hK:=fun _=>?_)|refine D7 (hK:=fun _=>?_)|refine D8 (hK:=fun _=>?_)|refine D5 (hK:=fun _=>?_)|refine D4 (hK:=fun _=>?_));try simp(disch:=first|omega|assumption|((repeat(first|exact A1|exact uH|apply A2|apply uT));first|done|fail)|(simp;first|done|omega|fail))[hlt, hrn]))
  refine B3p hent (φ := fun v => v = .bool l[i].2.2) (fun w' hw' => by simpa using hcall w' hw'.ks) ?_
  rintro _ rfl
  cases hb : l[i].2.2 with
  | true =>
   (have zz:=trivial;repeat((first|clear zz|with_reducible first|refine A3 ?_|refine A5 fun _=>?_|refine A4 fun _=>?_|refine D6 fun _=>?_|refine D3 (hK:=fun _=>?_)|refine D7 (hK:=fun _=>?_)|refine D8 (hK:=fun _=>?_)|refine D5 (hK:=fun _=>?_)|refine D4 (hK:=fun _=>?_));try simp(disch:=first|omega|assumption|((repeat(first|exact A1|exact uH|apply A2|apply uT));first|done|fail)|(simp;first|done|omega|fail))[]))
   exact B0 (by rw [B7r hlt hb hpre'])
  | false =>
   (have zz:=trivial;repeat((first|clear zz|with_reducible first|refine A3 ?_|refine A5 fun _=>?_|refine A4 fun _=>?_|refine D6 fun _=>?_|refine D3 (hK:=fun _=>?_)|refine D7 (hK:=fun _=>?_)|refine D8 (hK:=fun _=>?_)|refine D5 (hK:=fun _=>?_)|refine D4 (hK:=fun _=>?_));try simp(disch:=first|omega|assumption|((repeat(first|exact A1|exact uH|apply A2|apply uT));first|done|fail)|(simp;first|done|omega|fail))[]))
   refine Sels.tw .nil (hL hlt () ?_)
   intro j hj h
   by_cases hji : j = i
   ·subst hji; exact hb
   ·exact hpre j (by omega) h
 ·obtain rfl : i = l.length := by omega
  (have zz:=trivial;repeat((first|clear zz|with_reducible first|refine A3 ?_|refine A5 fun _=>?_|refine A4 fun _=>?_|refine D6 fun _=>?_|refine D3 (hK:=fun _=>?_)|refine D7 (hK:=fun _=>?_)|refine D8 (hK:=fun _=>?_)|refine D5 (hK:=fun _=>?_)|refine D4 (hK:=fun _=>?_));try simp(disch:=first|omega|assumption|((repeat(first|exact A1|exact uH|apply A2|apply uT));first|done|fail)|(simp;first|done|omega|fail))[]))
  exact B0 (by rw [B7j fun j hj => hpre j hj hj])
structure HeadV where
 src : ByteArray
 dst : ByteArray
 proto : Nat
 rest : ByteArray
 e : Nat
abbrev L9 : ByteArray := ByteArray.mk #[]
def HeadV.err (e : Nat) : HeadV := ⟨L9, L9, 0, L9, e⟩
def HeadV.val (h : HeadV) : Value := .tuple #[.agg #[.string h.src, .string h.dst, .int .i64 h.proto], .string h.rest, .int .i64 h.e]
def M2 (s : ByteArray) : Nat := gv s 0 1 % 16 * 4
def B1u (s : ByteArray) : Nat := if s.size < 20 then 2 else if gv s 0 1 / 16 ≠ 4 then 3 else if M2 s < 20 ∨ s.size < M2 s ∨ gv s 2 2 < M2 s ∨ s.size < gv s 2 2 then 4
 else if A0F (s.extract 0 (M2 s)) ≠ 65535 then 5 else if gv s 6 2 % 16384 ≠ 0 then 6 else 0
def A0L (s : ByteArray) : HeadV := if B1u s = 0 then ⟨s.extract 12 16, s.extract 16 20, gv s 9 1, s.extract (M2 s) (gv s 2 2), 0⟩ else .err (B1u s)
theorem C88 (n : Nat) (h : n < 256) : IntKind.i64.wrap ((n % 2 ^ IntKind.i64.bits &&& 15 % 2 ^ IntKind.i64.bits : Nat) : Int) = ((n % 16 : Nat) : Int) := by
 rw [show (2 : Nat) ^ IntKind.i64.bits = 2 ^ 64 from rfl, Nat.mod_eq_of_lt (by omega), show 15 % 2 ^ 64 = 2 ^ 4 - 1 from rfl, Nat.and_two_pow_sub_one_eq_mod]
 exact W5 (by omega) (by omega)
theorem C8U (n : Nat) (h : n < 65536) : IntKind.i64.wrap ((n % 2 ^ IntKind.i64.bits &&& 16383 % 2 ^ IntKind.i64.bits : Nat) : Int) = ((n % 16384 : Nat) : Int) := by
 rw [show (2 : Nat) ^ IntKind.i64.bits = 2 ^ 64 from rfl, Nat.mod_eq_of_lt (by omega), show 16383 % 2 ^ 64 = 2 ^ 14 - 1 from rfl, Nat.and_two_pow_sub_one_eq_mod]
 exact W5 (by omega) (by omega)
section
variable (w : World) (s : ByteArray) (hs : s.size < 2 ^ 63) (b1 b5 b6 b7 : Nat) (h1 : w.cell? ⟨b1, 0, none⟩ = some (.string s)) (h5 : w.cell? ⟨b5, 0, none⟩ = some (.func (.func 190) #[] #[.pointer (some ⟨b1, 0, none⟩)]))
 (h6 : w.cell? ⟨b6, 0, none⟩ = some (.int .i64 (M2 s : Nat))) (h7 : w.cell? ⟨b7, 0, none⟩ = some (.int .i64 (gv s 2 2 : Nat)))
include h1
theorem C9f : Fn PR B8 192 #[.pointer (some ⟨b1, 0, none⟩)] w (fun v w' => v = .bool (decide (s.size < 20)) ∧ C7 [] w w') := by
 refine Fn.pure (B3K (TW.go (κ := false) (S := []) ?_))
 unfold A5G
 (have zz:=trivial;repeat((first|clear zz|with_reducible first|refine A3 ?_|refine A5 fun _=>?_|refine A4 fun _=>?_|refine D6 fun _=>?_|refine D3 (hK:=fun _=>?_)|refine D7 (hK:=fun _=>?_)|refine D8 (hK:=fun _=>?_)|refine D5 (hK:=fun _=>?_)|refine D4 (hK:=fun _=>?_));try simp(disch:=first|omega|assumption|((repeat(first|exact A1|exact uH|apply A2|apply uT));first|done|fail)|(simp;first|done|omega|fail))[h1]))
 exact B0 (by simp; omega)
include hs h5
theorem D0K : Fn PR B8 193 #[.pointer (some ⟨b5, 0, none⟩)] w (fun v w' => v = .bool (decide (gv s 0 1 / 16 ≠ 4)) ∧ C7 [] w w') := by
 refine Fn.pure (B2K (TW.go (κ := false) (S := []) ?_))
 unfold A4y
 (have zz:=trivial;repeat((first|clear zz|with_reducible first|refine A3 ?_|refine A5 fun _=>?_|refine A4 fun _=>?_|refine D6 fun _=>?_|refine D3 (hK:=fun _=>?_)|refine D7 (hK:=fun _=>?_)|refine D8 (hK:=fun _=>?_)|refine D5 (hK:=fun _=>?_)|refine D4 (hK:=fun _=>?_));try simp(disch:=first|omega|assumption|((repeat(first|exact A1|exact uH|apply A2|apply uT));first|done|fail)|(simp;first|done|omega|fail))[h1, h5]))
 refine C1 l0 (fun w' hw' => A4J w' s hs b1 0 1 (by omega) (by omega) (hw'.ks.cell (by simp) h1)) ?_
 have e1 : ((gv s 0 1 : Nat) : Int).fdiv (2 ^ min 4 IntKind.i64.bits) = (gv s 0 1 / 16 : Nat) := by rw [show (2 : Int) ^ min 4 IntKind.i64.bits = 16 from rfl, Int.fdiv_eq_ediv_of_nonneg _ (by omega)]; omega
 (have zz:=trivial;repeat((first|clear zz|with_reducible first|refine A3 ?_|refine A5 fun _=>?_|refine A4 fun _=>?_|refine D6 fun _=>?_|refine D3 (hK:=fun _=>?_)|refine D7 (hK:=fun _=>?_)|refine D8 (hK:=fun _=>?_)|refine D5 (hK:=fun _=>?_)|refine D4 (hK:=fun _=>?_));try simp(disch:=first|omega|assumption|((repeat(first|exact A1|exact uH|apply A2|apply uT));first|done|fail)|(simp;first|done|omega|fail))[]))
 rw [e1]
 exact B0 (by simp; omega)
theorem C8a : Fn PR B8 197 #[.pointer (some ⟨b5, 0, none⟩)] w (fun v w' => v = .bool (decide (gv s 6 2 % 16384 ≠ 0)) ∧ C7 [] w w') := by
 refine Fn.pure (B2Y (TW.go (κ := false) (S := []) ?_))
 unfold A4l
 (have zz:=trivial;repeat((first|clear zz|with_reducible first|refine A3 ?_|refine A5 fun _=>?_|refine A4 fun _=>?_|refine D6 fun _=>?_|refine D3 (hK:=fun _=>?_)|refine D7 (hK:=fun _=>?_)|refine D8 (hK:=fun _=>?_)|refine D5 (hK:=fun _=>?_)|refine D4 (hK:=fun _=>?_));try simp(disch:=first|omega|assumption|((repeat(first|exact A1|exact uH|apply A2|apply uT));first|done|fail)|(simp;first|done|omega|fail))[h1, h5]))
 refine C1 l0 (fun w' hw' => A4J w' s hs b1 6 2 (by omega) (by omega) (hw'.ks.cell (by simp) h1)) ?_
 have := A2p s 6
 (have zz:=trivial;repeat((first|clear zz|with_reducible first|refine A3 ?_|refine A5 fun _=>?_|refine A4 fun _=>?_|refine D6 fun _=>?_|refine D3 (hK:=fun _=>?_)|refine D7 (hK:=fun _=>?_)|refine D8 (hK:=fun _=>?_)|refine D5 (hK:=fun _=>?_)|refine D4 (hK:=fun _=>?_));try simp(disch:=first|omega|assumption|((repeat(first|exact A1|exact uH|apply A2|apply uT));first|done|fail)|(simp;first|done|omega|fail))[]))
 rw [C8U _ this]
 exact B0 (by simp; omega)
omit h5
include h6
omit hs in
theorem C9u (hl : M2 s ≤ s.size) : Fn PR B8 195 #[.pointer (some ⟨b1, 0, none⟩), .pointer (some ⟨b6, 0, none⟩)] w (fun v w' => v = .bool (decide (A0F (s.extract 0 (M2 s)) ≠ 65535)) ∧ C7 [] w w') := by
 refine Fn.pure (B16 (TW.go (κ := false) (S := []) ?_))
 unfold A5H
 have hl' : ((M2 s : Nat) : Int) ≤ s.size := by omega
 have hl60 : M2 s ≤ 60 := by unfold M2; omega
 (have zz:=trivial;repeat((first|clear zz|with_reducible first|refine A3 ?_|refine A5 fun _=>?_|refine A4 fun _=>?_|refine D6 fun _=>?_|refine D3 (hK:=fun _=>?_)|refine D7 (hK:=fun _=>?_)|refine D8 (hK:=fun _=>?_)|refine D5 (hK:=fun _=>?_)|refine D4 (hK:=fun _=>?_));try simp(disch:=first|omega|assumption|((repeat(first|exact A1|exact uH|apply A2|apply uT));first|done|fail)|(simp;first|done|omega|fail))[h1, h6]))
 refine C1 B6S (fun w' hw' => C6C w' _ (by simp [ByteArray.size_extract]; omega)) ?_
 (have zz:=trivial;repeat((first|clear zz|with_reducible first|refine A3 ?_|refine A5 fun _=>?_|refine A4 fun _=>?_|refine D6 fun _=>?_|refine D3 (hK:=fun _=>?_)|refine D7 (hK:=fun _=>?_)|refine D8 (hK:=fun _=>?_)|refine D5 (hK:=fun _=>?_)|refine D4 (hK:=fun _=>?_));try simp(disch:=first|omega|assumption|((repeat(first|exact A1|exact uH|apply A2|apply uT));first|done|fail)|(simp;first|done|omega|fail))[]))
 exact B0 (by simp)
include h7
theorem C9K : Fn PR B8 194 #[.pointer (some ⟨b6, 0, none⟩), .pointer (some ⟨b1, 0, none⟩), .pointer (some ⟨b7, 0, none⟩)] w
  (fun v w' => v = .bool (decide (M2 s < 20 ∨ s.size < M2 s ∨ gv s 2 2 < M2 s ∨ s.size < gv s 2 2)) ∧ C7 [] w w') := by
 have hs_ := hs
 refine Fn.pure (B3B (TW.go (κ := false) (S := []) ?_))
 unfold A4v
 by_cases g1 : M2 s < 20
 ·have g1' : ((M2 s : Nat) : Int) < 20 := by omega
  (have zz:=trivial;repeat((first|clear zz|with_reducible first|refine A3 ?_|refine A5 fun _=>?_|refine A4 fun _=>?_|refine D6 fun _=>?_|refine D3 (hK:=fun _=>?_)|refine D7 (hK:=fun _=>?_)|refine D8 (hK:=fun _=>?_)|refine D5 (hK:=fun _=>?_)|refine D4 (hK:=fun _=>?_));try simp(disch:=first|omega|assumption|((repeat(first|exact A1|exact uH|apply A2|apply uT));first|done|fail)|(simp;first|done|omega|fail))[h1, h6, h7, g1, g1']))
  exact B0 (by simp [g1])
 have g1' : ¬ ((M2 s : Nat) : Int) < 20 := by omega
 by_cases g2 : s.size < M2 s
 ·have g2' : ((s.size : Nat) : Int) < M2 s := by omega
  (have zz:=trivial;repeat((first|clear zz|with_reducible first|refine A3 ?_|refine A5 fun _=>?_|refine A4 fun _=>?_|refine D6 fun _=>?_|refine D3 (hK:=fun _=>?_)|refine D7 (hK:=fun _=>?_)|refine D8 (hK:=fun _=>?_)|refine D5 (hK:=fun _=>?_)|refine D4 (hK:=fun _=>?_));try simp(disch:=first|omega|assumption|((repeat(first|exact A1|exact uH|apply A2|apply uT));first|done|fail)|(simp;first|done|omega|fail))[h1, h6, h7, g1, g1', g2, g2']))
  exact B0 (by simp [g2])
 have g2' : ¬ ((s.size : Nat) : Int) < M2 s := by omega
 by_cases g3 : gv s 2 2 < M2 s
 ·have g3' : ((gv s 2 2 : Nat) : Int) < M2 s := by omega
  (have zz:=trivial;repeat((first|clear zz|with_reducible first|refine A3 ?_|refine A5 fun _=>?_|refine A4 fun _=>?_|refine D6 fun _=>?_|refine D3 (hK:=fun _=>?_)|refine D7 (hK:=fun _=>?_)|refine D8 (hK:=fun _=>?_)|refine D5 (hK:=fun _=>?_)|refine D4 (hK:=fun _=>?_));try simp(disch:=first|omega|assumption|((repeat(first|exact A1|exact uH|apply A2|apply uT));first|done|fail)|(simp;first|done|omega|fail))[h1, h6, h7, g1, g1', g2, g2', g3, g3']))
  exact B0 (by simp [g3])
 have g3' : ¬ ((gv s 2 2 : Nat) : Int) < M2 s := by omega
 (have zz:=trivial;repeat((first|clear zz|with_reducible first|refine A3 ?_|refine A5 fun _=>?_|refine A4 fun _=>?_|refine D6 fun _=>?_|refine D3 (hK:=fun _=>?_)|refine D7 (hK:=fun _=>?_)|refine D8 (hK:=fun _=>?_)|refine D5 (hK:=fun _=>?_)|refine D4 (hK:=fun _=>?_));try simp(disch:=first|omega|assumption|((repeat(first|exact A1|exact uH|apply A2|apply uT));first|done|fail)|(simp;first|done|omega|fail))[h1, h6, h7, g1, g1', g2, g2', g3, g3']))
 exact B0 (by simp [g1, g2, g3])
end
theorem B8E (w : World) (s : ByteArray) (hs : s.size < 2 ^ 63) : Fn PR B8 139 #[.string s] w (fun v w' => v = (A0L s).val ∧ C7 [] w w') := by
 refine Fn.pure (B5s (TW.go (κ := false) (S := []) ?_))
 unfold A86
 (have zz:=trivial;repeat((first|clear zz|with_reducible first|refine A3 ?_|refine A5 fun _=>?_|refine A4 fun _=>?_|refine D6 fun _=>?_|refine D3 (hK:=fun _=>?_)|refine D7 (hK:=fun _=>?_)|refine D8 (hK:=fun _=>?_)|refine D5 (hK:=fun _=>?_)|refine D4 (hK:=fun _=>?_));try simp(disch:=first|omega|assumption|((repeat(first|exact A1|exact uH|apply A2|apply uT));first|done|fail)|(simp;first|done|omega|fail))[]))
 rename_i b1 b2 b5
 refine C9E (α := Nat × Nat) (fun _ => True) (fun x => [.pt x.1 (.cells #[.int .i64 (M2 s : Nat)] 3), .pt x.2 (.cells #[.int .i64 (gv s 2 2 : Nat)] 3),
  .pt b5 (.cells #[.func (.func 190) #[] #[.pointer (some ⟨b1, 0, none⟩)]] 180), .pt b2 (.cells #[.string L9, .string L9, .int .i64 0] 226), .pt b1 (.cells #[.string s] 9)])
  (fun x => .pointer (some ⟨x.1, 0, none⟩)) (fun x => .pointer (some ⟨x.2, 0, none⟩)) ?_ ?_
 ·rintro ⟨b6, b7⟩ _
  simp only
  (have zz:=trivial;repeat((first|clear zz|with_reducible first|refine A3 ?_|refine A5 fun _=>?_|refine A4 fun _=>?_|refine D6 fun _=>?_|refine D3 (hK:=fun _=>?_)|refine D7 (hK:=fun _=>?_)|refine D8 (hK:=fun _=>?_)|refine D5 (hK:=fun _=>?_)|refine D4 (hK:=fun _=>?_));try simp(disch:=first|omega|assumption|((repeat(first|exact A1|exact uH|apply A2|apply uT));first|done|fail)|(simp;first|done|omega|fail))[]))
  rename_i bl
  refine C1 (u := .int .i64 (B1u s : Nat)) B4y (fun w' hw' => ?_) ?_
  ·have h1 := hw'.cell1 (b := b1) (by (repeat constructor))
   have h5 := hw'.cell1 (b := b5) (by (repeat constructor))
   have h6 := hw'.cell1 (b := b6) (by (repeat constructor))
   have h7 := hw'.cell1 (b := b7) (by (repeat constructor))
   have hk : ∀ {w2 : World} {b : Nat} {v : Value}, KS false [] w' w2 → w'.cell? ⟨b, 0, none⟩ = some v → w2.cell? ⟨b, 0, none⟩ = some v := fun h e => h.cell (by simp) e
   have hE : A3u [(.func (.func 192) #[] #[.pointer (some ⟨b1, 0, none⟩)], 2, decide (s.size < 20)), (.func (.func 193) #[] #[.pointer (some ⟨b5, 0, none⟩)], 3, decide (gv s 0 1 / 16 ≠ 4)),
    (.func (.func 194) #[] #[.pointer (some ⟨b6, 0, none⟩), .pointer (some ⟨b1, 0, none⟩), .pointer (some ⟨b7, 0, none⟩)], 4, decide (M2 s < 20 ∨ s.size < M2 s ∨ gv s 2 2 < M2 s ∨ s.size < gv s 2 2)),
    (.func (.func 195) #[] #[.pointer (some ⟨b1, 0, none⟩), .pointer (some ⟨b6, 0, none⟩)], 5, decide (A0F (s.extract 0 (M2 s)) ≠ 65535)), (.func (.func 197) #[] #[.pointer (some ⟨b5, 0, none⟩)], 6, decide (gv s 6 2 % 16384 ≠ 0))] = (B1u s : Nat) := by
    unfold A3u B1u
    by_cases c1 : s.size < 20
    ·simp [c1]
    by_cases c2 : gv s 0 1 / 16 ≠ 4
    ·simp [c1, c2]
    by_cases c3 : M2 s < 20 ∨ s.size < M2 s ∨ gv s 2 2 < M2 s ∨ s.size < gv s 2 2
    ·simp [c1, c2, c3]
    by_cases c4 : A0F (s.extract 0 (M2 s)) ≠ 65535
    ·simp [c1, c2, c3, c4]
    by_cases c5 : gv s 6 2 % 16384 ≠ 0
    ·simp [c1, c2, c3, c4, c5]
    ·simp [c1, c2, c3, c4, c5]
   rw [← hE]
   refine C3M w' _ _ (by simp) ?_ ?_
   ·have := P6.own (κ := false) (S := []) (w0 := w) (e := 330) (k := 2) (q := 5) (v := .slice (some ⟨bl, 0, none⟩) 5 5) (by (repeat constructor)) w' hw'
    simpa [B5c] using this
   ·intro i hi hpre
    have hi' : i = 0 ∨ i = 1 ∨ i = 2 ∨ i = 3 ∨ i = 4 := by simp at hi; omega
    rcases hi' with rfl | rfl | rfl | rfl | rfl
    ·exact ⟨_, _, rfl, B1C, fun w2 h => C9f w2 s b1 (hk h h1)⟩
    ·exact ⟨_, _, rfl, B1G, fun w2 h => D0K w2 s hs b1 b5 (hk h h1) (hk h h5)⟩
    ·exact ⟨_, _, rfl, B1s, fun w2 h => C9K w2 s hs b1 b6 b7 (hk h h1) (hk h h6) (hk h h7)⟩
    ·have h2 := hpre 2 (by omega)
     simp only [List.getElem_cons_succ, List.getElem_cons_zero, decide_eq_false_iff_not] at h2
     exact ⟨_, _, rfl, B1g, fun w2 h => C9u w2 s b1 b6 (hk h h1) (hk h h6) (by omega)⟩
    ·exact ⟨_, _, rfl, B1M, fun w2 h => C8a w2 s hs b1 b5 (hk h h1) (hk h h5)⟩
  ·by_cases he : B1u s = 0
   ·have hE := he
    unfold B1u at hE
    by_cases c1 : s.size < 20
    ·simp [c1] at hE
    by_cases c2 : gv s 0 1 / 16 ≠ 4
    ·simp [c1, c2] at hE
    by_cases c3 : M2 s < 20 ∨ s.size < M2 s ∨ gv s 2 2 < M2 s ∨ s.size < gv s 2 2
    ·simp [c1, c2, c3] at hE
    clear hE
    have hg91 := B3F s 9
    (have zz:=trivial;repeat((first|clear zz|with_reducible first|refine A3 ?_|refine A5 fun _=>?_|refine A4 fun _=>?_|refine D6 fun _=>?_|refine D3 (hK:=fun _=>?_)|refine D7 (hK:=fun _=>?_)|refine D8 (hK:=fun _=>?_)|refine D5 (hK:=fun _=>?_)|refine D4 (hK:=fun _=>?_));try simp(disch:=first|omega|assumption|((repeat(first|exact A1|exact uH|apply A2|apply uT));first|done|fail)|(simp;first|done|omega|fail))[he]))
    refine C1 l0 (fun w' hw' => C53 w' s hs b1 (hw'.cell1 (by (repeat constructor)))) ?_
    (have zz:=trivial;repeat((first|clear zz|with_reducible first|refine A3 ?_|refine A5 fun _=>?_|refine A4 fun _=>?_|refine D6 fun _=>?_|refine D3 (hK:=fun _=>?_)|refine D7 (hK:=fun _=>?_)|refine D8 (hK:=fun _=>?_)|refine D5 (hK:=fun _=>?_)|refine D4 (hK:=fun _=>?_));try simp(disch:=first|omega|assumption|((repeat(first|exact A1|exact uH|apply A2|apply uT));first|done|fail)|(simp;first|done|omega|fail))[]))
    exact B0 (by simp [A0L, he, HeadV.val])
   ·(have zz:=trivial;repeat((first|clear zz|with_reducible first|refine A3 ?_|refine A5 fun _=>?_|refine A4 fun _=>?_|refine D6 fun _=>?_|refine D3 (hK:=fun _=>?_)|refine D7 (hK:=fun _=>?_)|refine D8 (hK:=fun _=>?_)|refine D5 (hK:=fun _=>?_)|refine D4 (hK:=fun _=>?_));try simp(disch:=first|omega|assumption|((repeat(first|exact A1|exact uH|apply A2|apply uT));first|done|fail)|(simp;first|done|omega|fail))[he]))
    exact B0 (by simp [A0L, he, HeadV.val, HeadV.err])
 ·intro J hJ
  have hl := B3F s 0
  have e15 := C88 _ hl
  have em : ((gv s 0 1 : Nat) : Int) % 16 * 4 = (M2 s : Nat) := by simp [M2]
  have hJ' := fun b6 b7 => hJ (b6, b7) trivial
  simp only at hJ'
  clear hJ
  iterate 16 all_goals (try (first
   | exact fun _ _ => trivial
   | with_reducible refine And.intro ?_ ?_
   | (with_reducible apply C1 l0); (first | with_reducible exact fun w' hw' => C6G w' s hs b1 (hw'.cell1 (by ((repeat (first | exact A1 | exact Up.here | exact Sel.here | apply A2 | apply Up.there | apply Sel.there)); first | done | fail))) | with_reducible exact fun w' hw' => C5K w' s hs b1 (hw'.cell1 (by ((repeat (first | exact A1 | exact Up.here | exact Sel.here | apply A2 | apply Up.there | apply Sel.there)); first | done | fail))))
   | with_reducible refine A4 fun _ => ?_
   | simp(disch:=first|omega|assumption|((repeat(first|exact A1|exact uH|apply A2|apply uT));first|done|fail)|(simp;first|done|omega|fail))[e15, em]
   | with_reducible exact Sels.tw (by ((repeat (first | exact Sels.nil | (apply Sels.cons; · ((repeat (first | exact A1 | exact Up.here | exact Sel.here | apply A2 | apply Up.there | apply Sel.there)); first | done | fail)))); first | done | fail)) (hJ' _ _)))
  all_goals trace_state
def A7y (src dst : ByteArray) (proto : Int) (n : Nat) (own : Int) : ByteArray :=
 ByteArray.mk #[69, 0] ++ F2 (20 + n) 2 ++ ByteArray.mk #[0, 0, 64, 0, 64] ++ F2 proto 1 ++ F2 own 2 ++ src ++ dst
theorem B9g (w : World) (src dst rest : ByteArray) (proto own : Int) (b1 b2 : Nat) (h1 : w.cell? ⟨b1, 0, none⟩ = some (.string rest)) (h2 : w.cell? ⟨b2, 0, none⟩ = some (.string src)) (h3 : w.cell? ⟨b2, 1, none⟩ = some (.string dst))
  (h4 : w.cell? ⟨b2, 2, none⟩ = some (.int .i64 proto)) (hr : rest.size ≤ 65515) (hs : src.size = 4) (hd : dst.size = 4) (hp0 : 0 ≤ proto) (hp : proto ≤ 255) (ho0 : 0 ≤ own) (ho : own ≤ 65535) :
  Fn PR B8 175 #[.int .i64 own, .pointer (some ⟨b1, 0, none⟩), .pointer (some ⟨b2, 0, none⟩)] w (fun v w' => v = .string (A7y src dst proto rest.size own) ∧ C7 [] w w') := by
 refine Fn.pure (B41 (TW.go (κ := false) (S := []) ?_))
 unfold A79
 (have zz:=trivial;repeat((first|clear zz|with_reducible first|refine A3 ?_|refine A5 fun _=>?_|refine A4 fun _=>?_|refine D6 fun _=>?_|refine D3 (hK:=fun _=>?_)|refine D7 (hK:=fun _=>?_)|refine D8 (hK:=fun _=>?_)|refine D5 (hK:=fun _=>?_)|refine D4 (hK:=fun _=>?_));try simp(disch:=first|omega|assumption|((repeat(first|exact A1|exact uH|apply A2|apply uT));first|done|fail)|(simp;first|done|omega|fail))[h1, h2, h3, h4]))
 refine C1 G7 (fun w' hw' => V7 w' _ _) ?_
 (have zz:=trivial;repeat((first|clear zz|with_reducible first|refine A3 ?_|refine A5 fun _=>?_|refine A4 fun _=>?_|refine D6 fun _=>?_|refine D3 (hK:=fun _=>?_)|refine D7 (hK:=fun _=>?_)|refine D8 (hK:=fun _=>?_)|refine D5 (hK:=fun _=>?_)|refine D4 (hK:=fun _=>?_));try simp(disch:=first|omega|assumption|((repeat(first|exact A1|exact uH|apply A2|apply uT));first|done|fail)|(simp;first|done|omega|fail))[h1, h2, h3, h4, U6]))
 refine C1 G7 (fun w' hw' => V7 w' _ _) ?_
 (have zz:=trivial;repeat((first|clear zz|with_reducible first|refine A3 ?_|refine A5 fun _=>?_|refine A4 fun _=>?_|refine D6 fun _=>?_|refine D3 (hK:=fun _=>?_)|refine D7 (hK:=fun _=>?_)|refine D8 (hK:=fun _=>?_)|refine D5 (hK:=fun _=>?_)|refine D4 (hK:=fun _=>?_));try simp(disch:=first|omega|assumption|((repeat(first|exact A1|exact uH|apply A2|apply uT));first|done|fail)|(simp;first|done|omega|fail))[h1, h2, h3, h4, U6]))
 refine C1 G7 (fun w' hw' => V7 w' _ _) ?_
 (have zz:=trivial;repeat((first|clear zz|with_reducible first|refine A3 ?_|refine A5 fun _=>?_|refine A4 fun _=>?_|refine D6 fun _=>?_|refine D3 (hK:=fun _=>?_)|refine D7 (hK:=fun _=>?_)|refine D8 (hK:=fun _=>?_)|refine D5 (hK:=fun _=>?_)|refine D4 (hK:=fun _=>?_));try simp(disch:=first|omega|assumption|((repeat(first|exact A1|exact uH|apply A2|apply uT));first|done|fail)|(simp;first|done|omega|fail))[h1, h2, h3, h4, U6, hs, hd]))
 exact B0 rfl
def A7u (src dst rest : ByteArray) (proto : Int) : ByteArray × Nat :=
 if src.size ≠ 4 ∨ dst.size ≠ 4 ∨ proto < 0 ∨ 255 < proto then (L9, 1) else if 65515 < rest.size then (L9, 4) else (A7y src dst proto rest.size (B3r (A7y src dst proto rest.size 0)) ++ rest, 0)
theorem B4V {src dst : ByteArray} {proto own : Int} {n : Nat} (hs : src.size = 4) (hd : dst.size = 4) : (A7y src dst proto n own).size = 20 := by simp [A7y, hs, hd]
theorem C5p (s : ByteArray) : 0 ≤ B3r s ∧ B3r s ≤ 65535 := by
 have := C1F (A7l s (U4 s)); unfold B3r A0F; omega
theorem C1p (w : World) (src dst rest : ByteArray) (proto : Int) (hrs : rest.size < 2 ^ 40) :
  Fn PR B8 126 #[.agg #[.string src, .string dst, .int .i64 proto], .string rest] w (fun v w' => v = .tuple #[.string (A7u src dst rest proto).1, .int .i64 (A7u src dst rest proto).2] ∧ C7 [] w w') := by
 refine Fn.pure (B96 (TW.go (κ := false) (S := []) ?_))
 unfold B25
 by_cases c1 : src.size = 4
 case neg =>
  have c1' : ¬ (src.size : Int) = 4 := by omega
  (have zz:=trivial;repeat((first|clear zz|with_reducible first|refine A3 ?_|refine A5 fun _=>?_|refine A4 fun _=>?_|refine D6 fun _=>?_|refine D3 (hK:=fun _=>?_)|refine D7 (hK:=fun _=>?_)|refine D8 (hK:=fun _=>?_)|refine D5 (hK:=fun _=>?_)|refine D4 (hK:=fun _=>?_));try simp(disch:=first|omega|assumption|((repeat(first|exact A1|exact uH|apply A2|apply uT));first|done|fail)|(simp;first|done|omega|fail))[c1'])); exact B0 (by simp [A7u, c1])
 by_cases c2 : dst.size = 4
 case neg =>
  have c2' : ¬ (dst.size : Int) = 4 := by omega
  (have zz:=trivial;repeat((first|clear zz|with_reducible first|refine A3 ?_|refine A5 fun _=>?_|refine A4 fun _=>?_|refine D6 fun _=>?_|refine D3 (hK:=fun _=>?_)|refine D7 (hK:=fun _=>?_)|refine D8 (hK:=fun _=>?_)|refine D5 (hK:=fun _=>?_)|refine D4 (hK:=fun _=>?_));try simp(disch:=first|omega|assumption|((repeat(first|exact A1|exact uH|apply A2|apply uT));first|done|fail)|(simp;first|done|omega|fail))[c1, c2'])); exact B0 (by simp [A7u, c2])
 by_cases c3 : proto < 0
 ·(have zz:=trivial;repeat((first|clear zz|with_reducible first|refine A3 ?_|refine A5 fun _=>?_|refine A4 fun _=>?_|refine D6 fun _=>?_|refine D3 (hK:=fun _=>?_)|refine D7 (hK:=fun _=>?_)|refine D8 (hK:=fun _=>?_)|refine D5 (hK:=fun _=>?_)|refine D4 (hK:=fun _=>?_));try simp(disch:=first|omega|assumption|((repeat(first|exact A1|exact uH|apply A2|apply uT));first|done|fail)|(simp;first|done|omega|fail))[c1, c2, c3])); exact B0 (by simp [A7u, c3])
 by_cases c4 : 255 < proto
 ·(have zz:=trivial;repeat((first|clear zz|with_reducible first|refine A3 ?_|refine A5 fun _=>?_|refine A4 fun _=>?_|refine D6 fun _=>?_|refine D3 (hK:=fun _=>?_)|refine D7 (hK:=fun _=>?_)|refine D8 (hK:=fun _=>?_)|refine D5 (hK:=fun _=>?_)|refine D4 (hK:=fun _=>?_));try simp(disch:=first|omega|assumption|((repeat(first|exact A1|exact uH|apply A2|apply uT));first|done|fail)|(simp;first|done|omega|fail))[c1, c2, c3, c4])); exact B0 (by simp [A7u, c4])
 by_cases c5 : 65515 < rest.size
 ·have c5' : 65515 < (rest.size : Int) := by omega
  (have zz:=trivial;repeat((first|clear zz|with_reducible first|refine A3 ?_|refine A5 fun _=>?_|refine A4 fun _=>?_|refine D6 fun _=>?_|refine D3 (hK:=fun _=>?_)|refine D7 (hK:=fun _=>?_)|refine D8 (hK:=fun _=>?_)|refine D5 (hK:=fun _=>?_)|refine D4 (hK:=fun _=>?_));try simp(disch:=first|omega|assumption|((repeat(first|exact A1|exact uH|apply A2|apply uT));first|done|fail)|(simp;first|done|omega|fail))[c1, c2, c3, c4, c5'])); exact B0 (by simp [A7u, c1, c2, c3, c4, c5])
 have c5' : ¬ 65515 < (rest.size : Int) := by omega
 (have zz:=trivial;repeat((first|clear zz|with_reducible first|refine A3 ?_|refine A5 fun _=>?_|refine A4 fun _=>?_|refine D6 fun _=>?_|refine D3 (hK:=fun _=>?_)|refine D7 (hK:=fun _=>?_)|refine D8 (hK:=fun _=>?_)|refine D5 (hK:=fun _=>?_)|refine D4 (hK:=fun _=>?_));try simp(disch:=first|omega|assumption|((repeat(first|exact A1|exact uH|apply A2|apply uT));first|done|fail)|(simp;first|done|omega|fail))[c1, c2, c3, c4, c5']))
 rename_i bh br
 have key : ∀ w', LW false [] w [.pt br (.cells #[.string rest] 9), .pt bh (.cells #[.string src, .string dst, .int .i64 proto] 226)] w' → ∀ own : Int, 0 ≤ own → own ≤ 65535 → _ :=
  fun w' hw' own h0 h1 => B9g w' src dst rest proto own br bh (hw'.cell1 (by (repeat constructor))) (hw'.cell (by (repeat constructor)) (by rfl)) (hw'.cell (by (repeat constructor)) (by rfl)) (hw'.cell (by (repeat constructor)) (by rfl)) (by omega) c1 c2 (by omega) (by omega) h0 h1
 refine C1 A6s (fun w' hw' => key w' hw' 0 (by omega) (by omega)) ?_
 (have zz:=trivial;repeat((first|clear zz|with_reducible first|refine A3 ?_|refine A5 fun _=>?_|refine A4 fun _=>?_|refine D6 fun _=>?_|refine D3 (hK:=fun _=>?_)|refine D7 (hK:=fun _=>?_)|refine D8 (hK:=fun _=>?_)|refine D5 (hK:=fun _=>?_)|refine D4 (hK:=fun _=>?_));try simp(disch:=first|omega|assumption|((repeat(first|exact A1|exact uH|apply A2|apply uT));first|done|fail)|(simp;first|done|omega|fail))[]))
 have hz : (A7y src dst proto rest.size 0).size = 20 := B4V c1 c2
 have hv := C5p (A7y src dst proto rest.size 0)
 refine C1 B8A (fun w' hw' => C7C w' _ (by omega)) ?_
 (have zz:=trivial;repeat((first|clear zz|with_reducible first|refine A3 ?_|refine A5 fun _=>?_|refine A4 fun _=>?_|refine D6 fun _=>?_|refine D3 (hK:=fun _=>?_)|refine D7 (hK:=fun _=>?_)|refine D8 (hK:=fun _=>?_)|refine D5 (hK:=fun _=>?_)|refine D4 (hK:=fun _=>?_));try simp(disch:=first|omega|assumption|((repeat(first|exact A1|exact uH|apply A2|apply uT));first|done|fail)|(simp;first|done|omega|fail))[]))
 refine C1 A6s (fun w' hw' => key w' hw' _ hv.1 hv.2) ?_
 have hz2 : (A7y src dst proto rest.size (B3r (A7y src dst proto rest.size 0))).size = 20 := B4V c1 c2
 (have zz:=trivial;repeat((first|clear zz|with_reducible first|refine A3 ?_|refine A5 fun _=>?_|refine A4 fun _=>?_|refine D6 fun _=>?_|refine D3 (hK:=fun _=>?_)|refine D7 (hK:=fun _=>?_)|refine D8 (hK:=fun _=>?_)|refine D5 (hK:=fun _=>?_)|refine D4 (hK:=fun _=>?_));try simp(disch:=first|omega|assumption|((repeat(first|exact A1|exact uH|apply A2|apply uT));first|done|fail)|(simp;first|done|omega|fail))[U6]))
 exact B0 (by simp [A7u, c1, c2, c3, c4, c5])
end Go.Proofs.YtjobgnabneddjaaGreat
namespace Go.Proofs.YtjobgnabneddjaaGreat
open Go
def A7Q : List Nat → ByteArray → List ByteArray
 | [], s => [s]
 | n :: ns, s => s.extract 0 n :: A7Q ns (s.extract n s.size)
theorem C66 (w : World) (v : Value) (ns : List Nat) (s : ByteArray) (hn : ns.length < 100) (hv : G1 w v ns.length (ns.map fun n : Nat => Value.int .i64 (n : Int))) (hs : ns.sum ≤ s.size) (hs2 : s.size < 2 ^ 63) :
  Fn PR B8 198 #[.string s, v] w (Rn [] w (fun v u => u = v) fun v => [.own 9 1 v (ns.length + 1) ((A7Q ns s).map .string)]) := by
 refine B9u (TW.go (κ := false) (S := []) ?_)
 unfold B10
 obtain ⟨a, c, rfl, hrow⟩ := hv.form
 (have zz:=trivial;repeat((first|clear zz|with_reducible first|refine A3 ?_|refine A5 fun _=>?_|refine A4 fun _=>?_|refine D6 fun _=>?_|refine D3 (hK:=fun _=>?_)|refine D7 (hK:=fun _=>?_)|refine D8 (hK:=fun _=>?_)|refine D5 (hK:=fun _=>?_)|refine D4 (hK:=fun _=>?_));try simp(disch:=first|omega|assumption|((repeat(first|exact A1|exact uH|apply A2|apply uT));first|done|fail)|(simp;first|done|omega|fail))[]))
 refine k9 9 1 ?_
 refine C7f (α := Value × ByteArray × List ByteArray) ns.length (fun _ x => x.1) (fun _ x => .string x.2.1) (fun i x => [.own 9 1 x.1 i (x.2.2.map .string)])
  (fun i x => A7Q ns s = x.2.2 ++ A7Q (ns.drop i) x.2.1 ∧ (ns.drop i).sum ≤ x.2.1.size ∧ x.2.1.size ≤ s.size) (.slice none 0 0, s, []) ⟨by simp, by simpa using hs, Nat.le_refl _⟩ ?_
 rintro i ⟨v, r, d⟩ hi ⟨h1, h2, h3⟩ L hL
 simp only at h1 h2 h3 hL ⊢
 by_cases hlt : i < ns.length
 ·obtain ⟨b, o, rfl, hr⟩ := hrow (by omega)
  have hx : ns[i]? = some ns[i] := List.getElem?_eq_getElem hlt
  have hc := hr.one hx
  rw [List.drop_eq_getElem_cons hlt] at h1 h2
  simp only [List.sum_cons, A7Q] at h1 h2
  have hle : ((ns[i] : Nat) : Int) ≤ r.size := by omega
  (have zz:=trivial;repeat((first|clear zz|with_reducible first|refine A3 ?_|refine A5 fun _=>?_|refine A4 fun _=>?_|refine D6 fun _=>?_|refine D3 (hK:=fun _=>?_)|refine D7 (hK:=fun _=>?_)|refine D8 (hK:=fun _=>?_)|refine D5 (hK:=fun _=>?_)|refine D4 (hK:=fun _=>?_));try simp(disch:=first|omega|assumption|((repeat(first|exact A1|exact uH|apply A2|apply uT));first|done|fail)|(simp;first|done|omega|fail))[hlt, hc]))
  refine u5 (by (repeat constructor)) (P6.own (by (repeat constructor))) (by decide) (by simp) (by simp) (by simp only [maxLen]; omega) (by omega) fun a' c' => ?_
  (have zz:=trivial;repeat((first|clear zz|with_reducible first|refine A3 ?_|refine A5 fun _=>?_|refine A4 fun _=>?_|refine D6 fun _=>?_|refine D3 (hK:=fun _=>?_)|refine D7 (hK:=fun _=>?_)|refine D8 (hK:=fun _=>?_)|refine D5 (hK:=fun _=>?_)|refine D4 (hK:=fun _=>?_));try simp(disch:=first|omega|assumption|((repeat(first|exact A1|exact uH|apply A2|apply uT));first|done|fail)|(simp;first|done|omega|fail))[hlt, hle]))
  have := hL hlt (.slice a' (i + 1) c', r.extract ns[i] r.size, d ++ [r.extract 0 ns[i]]) ⟨by rw [h1]; simp, by rw [ByteArray.size_extract]; omega, by rw [ByteArray.size_extract]; omega⟩
  simp only [List.map_append, List.map_cons, List.map_nil] at this
  exact Sels.tw (by (repeat' constructor)) this
 ·obtain rfl : i = ns.length := by omega
  (have zz:=trivial;repeat((first|clear zz|with_reducible first|refine A3 ?_|refine A5 fun _=>?_|refine A4 fun _=>?_|refine D6 fun _=>?_|refine D3 (hK:=fun _=>?_)|refine D7 (hK:=fun _=>?_)|refine D8 (hK:=fun _=>?_)|refine D5 (hK:=fun _=>?_)|refine D4 (hK:=fun _=>?_));try simp(disch:=first|omega|assumption|((repeat(first|exact A1|exact uH|apply A2|apply uT));first|done|fail)|(simp;first|done|omega|fail))[]))
  refine u5 (by (repeat constructor)) (P6.own (by (repeat constructor))) (by decide) (by simp) (by simp) (by simp only [maxLen]; omega) (by omega) fun a' c' => ?_
  simp only [List.drop_length, A7Q] at h1
  rw [h1]
  exact j1 _ rfl (by simp)
def B3S (s : ByteArray) : Nat := if s.size < 40 then 2 else if gv s 0 1 / 16 ≠ 6 then 3 else if s.size - 40 < gv s 4 2 then 4 else 0
def p9 (s : ByteArray) : HeadV := if B3S s = 0 then ⟨s.extract 8 24, s.extract 24 40, gv s 6 1, s.extract 40 (40 + gv s 4 2), 0⟩ else .err (B3S s)
theorem A57 (s : ByteArray) (a b i : Nat) (hb : b ≤ s.size) (hi : i < b - a) : F6 (s.extract a b) i = F6 s (a + i) := by
 unfold F6
 rw [Array.getD_eq_getD_getElem?, Array.getD_eq_getD_getElem?, ByteArray.data_extract, Array.getElem?_extract]
 rw [if_pos (by simp only [ByteArray.size] at hb; omega)]
theorem B8F (s : ByteArray) (a b i n : Nat) (hb : b ≤ s.size) (hn : i + n ≤ b - a) : r5 (s.extract a b) i n = r5 s (a + i) n := by
 induction n with
 | zero => rfl
 | succ n ih => simp only [r5]; rw [ih (by omega), A57 s a b _ hb (by omega), Nat.add_assoc]
theorem B9F {s : ByteArray} {a n : Nat} (h : a + n ≤ s.size) : gv s a n = r5 s a n := if_pos h
theorem B9r (s : ByteArray) (a b i n : Nat) (hb : b ≤ s.size) (hn : i + n ≤ b - a) (hab : a ≤ b) : gv (s.extract a b) i n = gv s (a + i) n := by
 rw [B9F (by rw [ByteArray.size_extract]; omega), B9F (by omega), B8F s a b i n hb hn]
theorem C1H {s : ByteArray} {a : Nat} (h : a < s.size) : gv s a 1 = F6 s a := by rw [B9F (by omega)]; simp [r5]
theorem B1v (s : ByteArray) (a b c d : Nat) (hb : b ≤ s.size) (hd : a + d ≤ b) : (s.extract a b).extract c d = s.extract (a + c) (a + d) := by
 apply ByteArray.ext
 rw [ByteArray.data_extract, ByteArray.data_extract, ByteArray.data_extract, Array.extract_extract]
 congr 1; omega
def C2p (s : ByteArray) : Nat → List Nat → List ByteArray
 | a, [] => [s.extract a s.size]
 | a, n :: ns => s.extract a (a + n) :: C2p s (a + n) ns
theorem C6T (s : ByteArray) (ns : List Nat) : ∀ a, a + ns.sum ≤ s.size → A7Q ns (s.extract a s.size) = C2p s a ns := by
 induction ns with
 | nil => intro a _; rfl
 | cons n ns ih =>
  intro a h
  simp only [List.sum_cons] at h
  simp only [A7Q, C2p]
  rw [B1v _ _ _ _ _ (by omega) (by omega), B1v _ _ _ _ _ (by omega) (by rw [ByteArray.size_extract]; omega), ByteArray.size_extract, Nat.add_zero]
  rw [show a + (min s.size s.size - a) = s.size from by omega, ih _ (by omega)]
theorem B7z (s : ByteArray) : s.extract 0 s.size = s := by
 apply ByteArray.ext; rw [ByteArray.data_extract]; exact Array.extract_size ..
theorem B93 {s : ByteArray} (h : 40 ≤ s.size) : A7Q [4, 2, 1, 1, 16, 16] s = [s.extract 0 4, s.extract 4 6, s.extract 6 7, s.extract 7 8, s.extract 8 24, s.extract 24 40, s.extract 40 s.size] := by
 have := C6T s [4, 2, 1, 1, 16, 16] 0 (by simp; omega)
 rw [B7z] at this; rw [this]; rfl
theorem B8D (w : World) (s : ByteArray) (hs : s.size < 2 ^ 63) : Fn PR B8 142 #[.string s] w (fun v w' => v = (p9 s).val ∧ C7 [] w w') := by
 refine Fn.pure (B59 (TW.go (κ := false) (S := []) ?_))
 unfold B0J
 by_cases c1 : s.size < 40
 ·have c1' : (s.size : Int) < 40 := by omega
  (have zz:=trivial;repeat((first|clear zz|with_reducible first|refine A3 ?_|refine A5 fun _=>?_|refine A4 fun _=>?_|refine D6 fun _=>?_|refine D3 (hK:=fun _=>?_)|refine D7 (hK:=fun _=>?_)|refine D8 (hK:=fun _=>?_)|refine D5 (hK:=fun _=>?_)|refine D4 (hK:=fun _=>?_));try simp(disch:=first|omega|assumption|((repeat(first|exact A1|exact uH|apply A2|apply uT));first|done|fail)|(simp;first|done|omega|fail))[c1'])); exact B0 (by simp [p9, B3S, c1, HeadV.val, HeadV.err])
 have c1' : ¬ (s.size : Int) < 40 := by omega
 obtain ⟨by0, hb0, hb1⟩ := A0T (s := s) (i := 0) (by omega)
 have hg0 : gv s 0 1 = F6 s 0 := C1H (by omega)
 have e1 : ((by0.toNat : Nat) : Int).fdiv (2 ^ min 4 IntKind.u8.bits) = (gv s 0 1 / 16 : Nat) := by rw [show (2 : Int) ^ min 4 IntKind.u8.bits = 16 from rfl, Int.fdiv_eq_ediv_of_nonneg _ (by omega), hb1, hg0]; omega
 have hb0' : s[(0 : Int).toNat]? = some by0 := hb0
 by_cases c2 : gv s 0 1 / 16 = 6
 case neg =>
  have c2' : ¬ ((gv s 0 1 / 16 : Nat) : Int) = 6 := by omega
  (have zz:=trivial;repeat((first|clear zz|with_reducible first|refine A3 ?_|refine A5 fun _=>?_|refine A4 fun _=>?_|refine D6 fun _=>?_|refine D3 (hK:=fun _=>?_)|refine D7 (hK:=fun _=>?_)|refine D8 (hK:=fun _=>?_)|refine D5 (hK:=fun _=>?_)|refine D4 (hK:=fun _=>?_));try simp(disch:=first|omega|assumption|((repeat(first|exact A1|exact uH|apply A2|apply uT));first|done|fail)|(simp;first|done|omega|fail))[c1', a6]))
  rw [e1, if_neg c2']
  (have zz:=trivial;repeat((first|clear zz|with_reducible first|refine A3 ?_|refine A5 fun _=>?_|refine A4 fun _=>?_|refine D6 fun _=>?_|refine D3 (hK:=fun _=>?_)|refine D7 (hK:=fun _=>?_)|refine D8 (hK:=fun _=>?_)|refine D5 (hK:=fun _=>?_)|refine D4 (hK:=fun _=>?_));try simp(disch:=first|omega|assumption|((repeat(first|exact A1|exact uH|apply A2|apply uT));first|done|fail)|(simp;first|done|omega|fail))[])); exact B0 (by simp [p9, B3S, c1, c2, HeadV.val, HeadV.err])
 have c2' : ((gv s 0 1 / 16 : Nat) : Int) = 6 := by omega
 (have zz:=trivial;repeat((first|clear zz|with_reducible first|refine A3 ?_|refine A5 fun _=>?_|refine A4 fun _=>?_|refine D6 fun _=>?_|refine D3 (hK:=fun _=>?_)|refine D7 (hK:=fun _=>?_)|refine D8 (hK:=fun _=>?_)|refine D5 (hK:=fun _=>?_)|refine D4 (hK:=fun _=>?_));try simp(disch:=first|omega|assumption|((repeat(first|exact A1|exact uH|apply A2|apply uT));first|done|fail)|(simp;first|done|omega|fail))[c1', a6]))
 rw [e1, if_pos c2']
 (have zz:=trivial;repeat((first|clear zz|with_reducible first|refine A3 ?_|refine A5 fun _=>?_|refine A4 fun _=>?_|refine D6 fun _=>?_|refine D3 (hK:=fun _=>?_)|refine D7 (hK:=fun _=>?_)|refine D8 (hK:=fun _=>?_)|refine D5 (hK:=fun _=>?_)|refine D4 (hK:=fun _=>?_));try simp(disch:=first|omega|assumption|((repeat(first|exact A1|exact uH|apply A2|apply uT));first|done|fail)|(simp;first|done|omega|fail))[]))
 rename_i bh bl
 refine H2 B76 (fun w' hw' => C66 w' _ [4, 2, 1, 1, 16, 16] s (by simp) ?_ (by simp; omega) (by omega)) ?_
 ·have := P6.own (κ := false) (S := []) (w0 := w) (e := 3) (k := 1) (q := 6) (v := .slice (some ⟨bl, 0, none⟩) 6 6) (by (repeat constructor)) w' hw'
  simpa using this
 rintro v _ rfl
 rw [B93 (by omega)]
 simp only [List.length_cons, List.length_nil, List.map_cons, List.map_nil, List.cons_append, List.nil_append]
 refine s9 (by (repeat constructor)) (by omega) fun g c hv => ?_
 subst hv
 (have zz:=trivial;repeat((first|clear zz|with_reducible first|refine A3 ?_|refine A5 fun _=>?_|refine A4 fun _=>?_|refine D6 fun _=>?_|refine D3 (hK:=fun _=>?_)|refine D7 (hK:=fun _=>?_)|refine D8 (hK:=fun _=>?_)|refine D5 (hK:=fun _=>?_)|refine D4 (hK:=fun _=>?_));try simp(disch:=first|omega|assumption|((repeat(first|exact A1|exact uH|apply A2|apply uT));first|done|fail)|(simp;first|done|omega|fail))[]))
 refine C1 S2 (fun w' _ => A2f w' _ (by simp; omega) _ _) ?_
 have hgv := A6B (s.extract 4 6) 0 2 (by omega) (by omega)
 rw [B9r s 4 6 0 2 (by omega) (by omega) (by omega)] at hgv
 simp only [Int.natCast_zero, Int.cast_ofNat_Int] at hgv
 have hlt := A2p s 4
 rw [hgv]
 (have zz:=trivial;repeat((first|clear zz|with_reducible first|refine A3 ?_|refine A5 fun _=>?_|refine A4 fun _=>?_|refine D6 fun _=>?_|refine D3 (hK:=fun _=>?_)|refine D7 (hK:=fun _=>?_)|refine D8 (hK:=fun _=>?_)|refine D5 (hK:=fun _=>?_)|refine D4 (hK:=fun _=>?_));try simp(disch:=first|omega|assumption|((repeat(first|exact A1|exact uH|apply A2|apply uT));first|done|fail)|(simp;first|done|omega|fail))[]))
 refine D2d (fun c3 => ?_) (fun c3 => ?_)
 ·(have zz:=trivial;repeat((first|clear zz|with_reducible first|refine A3 ?_|refine A5 fun _=>?_|refine A4 fun _=>?_|refine D6 fun _=>?_|refine D3 (hK:=fun _=>?_)|refine D7 (hK:=fun _=>?_)|refine D8 (hK:=fun _=>?_)|refine D5 (hK:=fun _=>?_)|refine D4 (hK:=fun _=>?_));try simp(disch:=first|omega|assumption|((repeat(first|exact A1|exact uH|apply A2|apply uT));first|done|fail)|(simp;first|done|omega|fail))[]))
  exact B0 (by simp [p9, B3S, c1, c2, c3, HeadV.val, HeadV.err])
 ·obtain ⟨by6, hb6, hb6'⟩ := A0T (s := s.extract 6 7) (i := 0) (by simp; omega)
  have hp : F6 (s.extract 6 7) 0 = gv s 6 1 := by rw [A57 s 6 7 0 (by omega) (by omega), C1H (by omega)]
  have hb6'' : (s.extract 6 7)[(0 : Int).toNat]? = some by6 := hb6
  have hle : ((gv s 4 2 : Nat) : Int) ≤ (s.extract 40 s.size).size := by rw [ByteArray.size_extract]; omega
  (have zz:=trivial;repeat((first|clear zz|with_reducible first|refine A3 ?_|refine A5 fun _=>?_|refine A4 fun _=>?_|refine D6 fun _=>?_|refine D3 (hK:=fun _=>?_)|refine D7 (hK:=fun _=>?_)|refine D8 (hK:=fun _=>?_)|refine D5 (hK:=fun _=>?_)|refine D4 (hK:=fun _=>?_));try simp(disch:=first|omega|assumption|((repeat(first|exact A1|exact uH|apply A2|apply uT));first|done|fail)|(simp;first|done|omega|fail))[a6]))
  have h6 := B3F s 6
  have w6 : IntKind.i64.wrap (gv s 6 1 : Nat) = (gv s 6 1 : Nat) := W5 (by omega) (by omega)
  rw [hb6', hp]
  exact B0 (by rw [B1v s 40 s.size 0 _ (by omega) (by omega)]; simp [p9, B3S, c1, c2, c3, HeadV.val, w6])
theorem A2D : liesAt PR PR.depth 305 (2 / PR.cellsOf 305) 0 303 1 = true := by kernel_rfl
theorem A5E (w : World) (b : Nat) (a : Option Addr) (v : Value) (q : Nat) (xs : List Value) (x n : Int) (ha : a = none ∨ a = some ⟨b, 0, none⟩) (hx0 : 0 ≤ x) (hx : x < 2 ^ 62) (hs : q < 2 ^ 39)
  (hw : LW false (B5 (Bd b 305 a v q xs)) w (Bd b 305 a v q xs) w) : Fn PR B8 172 #[.pointer (some ⟨b, 0, none⟩), .int .i64 x, .int .i64 n] w
   (Rn (B5 (Bd b 305 a v q xs)) w (fun (_ : Value) u => u = .tuple #[]) fun v' => Bd b 305 (some ⟨b, 0, none⟩) v' (q + (F2 x n).size) (xs ++ F5 (F2 x n))) := by
 refine A66 (TW.goH (κ := false) (S := B5 (Bd b 305 a v q xs)) ?_ hw)
 unfold A1D
 (have zz:=trivial;repeat((first|clear zz|with_reducible first|refine A3 ?_|refine A5 fun _=>?_|refine A4 fun _=>?_|refine D6 fun _=>?_|refine D3 (hK:=fun _=>?_)|refine D7 (hK:=fun _=>?_)|refine D8 (hK:=fun _=>?_)|refine D5 (hK:=fun _=>?_)|refine D4 (hK:=fun _=>?_));try simp(disch:=first|omega|assumption|((repeat(first|exact A1|exact uH|apply A2|apply uT));first|done|fail)|(simp;first|done|omega|fail))[]))
 refine C1 G7 (fun w' _ => V7 w' _ _) ?_
 have hp : (F2 x n).size ≤ 8 := by
  by_cases h : 1 ≤ n ∧ n ≤ 8
  ·rw [C11 h.1 h.2]; omega
  ·simp [F2, h]
 refine B2P (Hc := Bd b 305 a v q xs) (Hk := []) M1 (by rfl) (fun w' hw' => v7 w' b _ a v q xs _ ha A2D (by omega) hw'.self) ?_
 rintro v' _ rfl
 (have zz:=trivial;repeat((first|clear zz|with_reducible first|refine A3 ?_|refine A5 fun _=>?_|refine A4 fun _=>?_|refine D6 fun _=>?_|refine D3 (hK:=fun _=>?_)|refine D7 (hK:=fun _=>?_)|refine D8 (hK:=fun _=>?_)|refine D5 (hK:=fun _=>?_)|refine D4 (hK:=fun _=>?_));try simp(disch:=first|omega|assumption|((repeat(first|exact A1|exact uH|apply A2|apply uT));first|done|fail)|(simp;first|done|omega|fail))[]))
 exact B1 v' rfl (by simp only [Bd]; (repeat' constructor))
def B1U (src dst rest : ByteArray) (proto : Int) : ByteArray := F2 1610612736 4 ++ F2 rest.size 2 ++ F2 proto 1 ++ F2 64 1 ++ src ++ dst ++ rest
def B31 (rest : ByteArray) : Nat → Nat | 0 => 8 | 1 => 24 | 2 => 40 | _ => 40 + rest.size
def B3Y (src dst rest : ByteArray) (proto : Int) : Nat → ByteArray
 | 0 => F2 1610612736 4 ++ F2 rest.size 2 ++ F2 proto 1 ++ F2 64 1
 | 1 => F2 1610612736 4 ++ F2 rest.size 2 ++ F2 proto 1 ++ F2 64 1 ++ src
 | 2 => F2 1610612736 4 ++ F2 rest.size 2 ++ F2 proto 1 ++ F2 64 1 ++ src ++ dst
 | _ => B1U src dst rest proto
def A7F (src dst rest : ByteArray) (proto : Int) : ByteArray × Nat :=
 if src.size ≠ 16 ∨ dst.size ≠ 16 ∨ proto < 0 ∨ 255 < proto then (L9, 1) else if 65535 < rest.size then (L9, 4) else (B1U src dst rest proto, 0)
theorem C2k (w : World) (src dst rest : ByteArray) (proto : Int) (hrs : rest.size < 2 ^ 40) :
  Fn PR B8 125 #[.agg #[.string src, .string dst, .int .i64 proto], .string rest] w (fun v w' => v = .tuple #[.string (A7F src dst rest proto).1, .int .i64 (A7F src dst rest proto).2] ∧ C7 [] w w') := by
 refine Fn.pure (C0K (TW.go (κ := false) (S := []) ?_))
 unfold B2M
 by_cases c1 : src.size = 16
 case neg =>
  have c1' : ¬ (src.size : Int) = 16 := by omega
  (have zz:=trivial;repeat((first|clear zz|with_reducible first|refine A3 ?_|refine A5 fun _=>?_|refine A4 fun _=>?_|refine D6 fun _=>?_|refine D3 (hK:=fun _=>?_)|refine D7 (hK:=fun _=>?_)|refine D8 (hK:=fun _=>?_)|refine D5 (hK:=fun _=>?_)|refine D4 (hK:=fun _=>?_));try simp(disch:=first|omega|assumption|((repeat(first|exact A1|exact uH|apply A2|apply uT));first|done|fail)|(simp;first|done|omega|fail))[c1'])); exact B0 (by simp [A7F, c1])
 by_cases c2 : dst.size = 16
 case neg =>
  have c2' : ¬ (dst.size : Int) = 16 := by omega
  (have zz:=trivial;repeat((first|clear zz|with_reducible first|refine A3 ?_|refine A5 fun _=>?_|refine A4 fun _=>?_|refine D6 fun _=>?_|refine D3 (hK:=fun _=>?_)|refine D7 (hK:=fun _=>?_)|refine D8 (hK:=fun _=>?_)|refine D5 (hK:=fun _=>?_)|refine D4 (hK:=fun _=>?_));try simp(disch:=first|omega|assumption|((repeat(first|exact A1|exact uH|apply A2|apply uT));first|done|fail)|(simp;first|done|omega|fail))[c1, c2'])); exact B0 (by simp [A7F, c2])
 by_cases c3 : proto < 0
 ·(have zz:=trivial;repeat((first|clear zz|with_reducible first|refine A3 ?_|refine A5 fun _=>?_|refine A4 fun _=>?_|refine D6 fun _=>?_|refine D3 (hK:=fun _=>?_)|refine D7 (hK:=fun _=>?_)|refine D8 (hK:=fun _=>?_)|refine D5 (hK:=fun _=>?_)|refine D4 (hK:=fun _=>?_));try simp(disch:=first|omega|assumption|((repeat(first|exact A1|exact uH|apply A2|apply uT));first|done|fail)|(simp;first|done|omega|fail))[c1, c2, c3])); exact B0 (by simp [A7F, c3])
 by_cases c4 : 255 < proto
 ·(have zz:=trivial;repeat((first|clear zz|with_reducible first|refine A3 ?_|refine A5 fun _=>?_|refine A4 fun _=>?_|refine D6 fun _=>?_|refine D3 (hK:=fun _=>?_)|refine D7 (hK:=fun _=>?_)|refine D8 (hK:=fun _=>?_)|refine D5 (hK:=fun _=>?_)|refine D4 (hK:=fun _=>?_));try simp(disch:=first|omega|assumption|((repeat(first|exact A1|exact uH|apply A2|apply uT));first|done|fail)|(simp;first|done|omega|fail))[c1, c2, c3, c4])); exact B0 (by simp [A7F, c4])
 by_cases c5 : 65535 < rest.size
 ·have c5' : 65535 < (rest.size : Int) := by omega
  (have zz:=trivial;repeat((first|clear zz|with_reducible first|refine A3 ?_|refine A5 fun _=>?_|refine A4 fun _=>?_|refine D6 fun _=>?_|refine D3 (hK:=fun _=>?_)|refine D7 (hK:=fun _=>?_)|refine D8 (hK:=fun _=>?_)|refine D5 (hK:=fun _=>?_)|refine D4 (hK:=fun _=>?_));try simp(disch:=first|omega|assumption|((repeat(first|exact A1|exact uH|apply A2|apply uT));first|done|fail)|(simp;first|done|omega|fail))[c1, c2, c3, c4, c5'])); exact B0 (by simp [A7F, c1, c2, c3, c4, c5])
 have c5' : ¬ 65535 < (rest.size : Int) := by omega
 (have zz:=trivial;repeat((first|clear zz|with_reducible first|refine A3 ?_|refine A5 fun _=>?_|refine A4 fun _=>?_|refine D6 fun _=>?_|refine D3 (hK:=fun _=>?_)|refine D7 (hK:=fun _=>?_)|refine D8 (hK:=fun _=>?_)|refine D5 (hK:=fun _=>?_)|refine D4 (hK:=fun _=>?_));try simp(disch:=first|omega|assumption|((repeat(first|exact A1|exact uH|apply A2|apply uT));first|done|fail)|(simp;first|done|omega|fail))[c1, c2, c3, c4, c5']))
 rename_i bh bw
 refine k9 5 1 ?_
 refine C6 T8 (fun w' _ hs => A5E w' bw none (.slice none 0 0) 0 [] 1610612736 4 (Or.inl rfl) (by omega) (by omega) (by omega) hs) (by (repeat' constructor)) ?_
 rintro v1 _ rfl
 (have zz:=trivial;repeat((first|clear zz|with_reducible first|refine A3 ?_|refine A5 fun _=>?_|refine A4 fun _=>?_|refine D6 fun _=>?_|refine D3 (hK:=fun _=>?_)|refine D7 (hK:=fun _=>?_)|refine D8 (hK:=fun _=>?_)|refine D5 (hK:=fun _=>?_)|refine D4 (hK:=fun _=>?_));try simp(disch:=first|omega|assumption|((repeat(first|exact A1|exact uH|apply A2|apply uT));first|done|fail)|(simp;first|done|omega|fail))[]))
 refine C6 T8 (fun w' _ hs => A5E w' bw _ v1 4 _ rest.size 2 (Or.inr rfl) (by omega) (by omega) (by omega) hs) (by (repeat' constructor)) ?_
 rintro v2 _ rfl
 (have zz:=trivial;repeat((first|clear zz|with_reducible first|refine A3 ?_|refine A5 fun _=>?_|refine A4 fun _=>?_|refine D6 fun _=>?_|refine D3 (hK:=fun _=>?_)|refine D7 (hK:=fun _=>?_)|refine D8 (hK:=fun _=>?_)|refine D5 (hK:=fun _=>?_)|refine D4 (hK:=fun _=>?_));try simp(disch:=first|omega|assumption|((repeat(first|exact A1|exact uH|apply A2|apply uT));first|done|fail)|(simp;first|done|omega|fail))[]))
 refine C6 T8 (fun w' _ hs => A5E w' bw _ v2 6 _ proto 1 (Or.inr rfl) (by omega) (by omega) (by omega) hs) (by (repeat' constructor)) ?_
 rintro v3 _ rfl
 (have zz:=trivial;repeat((first|clear zz|with_reducible first|refine A3 ?_|refine A5 fun _=>?_|refine A4 fun _=>?_|refine D6 fun _=>?_|refine D3 (hK:=fun _=>?_)|refine D7 (hK:=fun _=>?_)|refine D8 (hK:=fun _=>?_)|refine D5 (hK:=fun _=>?_)|refine D4 (hK:=fun _=>?_));try simp(disch:=first|omega|assumption|((repeat(first|exact A1|exact uH|apply A2|apply uT));first|done|fail)|(simp;first|done|omega|fail))[]))
 refine C6 T8 (fun w' _ hs => A5E w' bw _ v3 7 _ 64 1 (Or.inr rfl) (by omega) (by omega) (by omega) hs) (by (repeat' constructor)) ?_
 rintro v4 _ rfl
 (have zz:=trivial;repeat((first|clear zz|with_reducible first|refine A3 ?_|refine A5 fun _=>?_|refine A4 fun _=>?_|refine D6 fun _=>?_|refine D3 (hK:=fun _=>?_)|refine D7 (hK:=fun _=>?_)|refine D8 (hK:=fun _=>?_)|refine D5 (hK:=fun _=>?_)|refine D4 (hK:=fun _=>?_));try simp(disch:=first|omega|assumption|((repeat(first|exact A1|exact uH|apply A2|apply uT));first|done|fail)|(simp;first|done|omega|fail))[]))
 rename_i bl
 refine A0U (α := Value) 3 (fun i v => [.own 9 1 (.slice (some ⟨bl, 0, none⟩) 3 3) 3 [.string src, .string dst, .string rest], .pt bw (.cells #[.pointer (some ⟨bw, 0, none⟩), v] 305),
  .own 5 1 v (B31 rest i) (F5 (B3Y src dst rest proto i)), .pt bh (.cells #[.string src, .string dst, .int .i64 proto] 224)]) (fun _ _ => True) v4 trivial ?_ (by simp [B31, B3Y, A1K])
 rintro i v hi _ L hL
 obtain rfl | rfl | rfl | rfl : i = 0 ∨ i = 1 ∨ i = 2 ∨ i = 3 := by omega
 ·have hL' := fun v' => hL (by omega) v' trivial
  simp only [B31, B3Y, A1K, List.append_assoc] at hL' ⊢
  (have zz:=trivial;repeat((first|clear zz|with_reducible first|refine A3 ?_|refine A5 fun _=>?_|refine A4 fun _=>?_|refine D6 fun _=>?_|refine D3 (hK:=fun _=>?_)|refine D7 (hK:=fun _=>?_)|refine D8 (hK:=fun _=>?_)|refine D5 (hK:=fun _=>?_)|refine D4 (hK:=fun _=>?_));try simp(disch:=first|omega|assumption|((repeat(first|exact A1|exact uH|apply A2|apply uT));first|done|fail)|(simp;first|done|omega|fail))[]))
  refine C6 M1 (fun w' _ hs => v7 w' bw _ _ v 8 _ src (Or.inr rfl) A2D (by omega) hs) (by (repeat' constructor)) ?_
  rintro v' _ rfl
  (have zz:=trivial;repeat((first|clear zz|with_reducible first|refine A3 ?_|refine A5 fun _=>?_|refine A4 fun _=>?_|refine D6 fun _=>?_|refine D3 (hK:=fun _=>?_)|refine D7 (hK:=fun _=>?_)|refine D8 (hK:=fun _=>?_)|refine D5 (hK:=fun _=>?_)|refine D4 (hK:=fun _=>?_));try simp(disch:=first|omega|assumption|((repeat(first|exact A1|exact uH|apply A2|apply uT));first|done|fail)|(simp;first|done|omega|fail))[c1]))
  exact Sels.tw (by (repeat' constructor)) (hL' v')
 ·have hL' := fun v' => hL (by omega) v' trivial
  simp only [B31, B3Y, A1K, List.append_assoc] at hL' ⊢
  (have zz:=trivial;repeat((first|clear zz|with_reducible first|refine A3 ?_|refine A5 fun _=>?_|refine A4 fun _=>?_|refine D6 fun _=>?_|refine D3 (hK:=fun _=>?_)|refine D7 (hK:=fun _=>?_)|refine D8 (hK:=fun _=>?_)|refine D5 (hK:=fun _=>?_)|refine D4 (hK:=fun _=>?_));try simp(disch:=first|omega|assumption|((repeat(first|exact A1|exact uH|apply A2|apply uT));first|done|fail)|(simp;first|done|omega|fail))[]))
  refine C6 M1 (fun w' _ hs => v7 w' bw _ _ v 24 _ dst (Or.inr rfl) A2D (by omega) hs) (by (repeat' constructor)) ?_
  rintro v' _ rfl
  (have zz:=trivial;repeat((first|clear zz|with_reducible first|refine A3 ?_|refine A5 fun _=>?_|refine A4 fun _=>?_|refine D6 fun _=>?_|refine D3 (hK:=fun _=>?_)|refine D7 (hK:=fun _=>?_)|refine D8 (hK:=fun _=>?_)|refine D5 (hK:=fun _=>?_)|refine D4 (hK:=fun _=>?_));try simp(disch:=first|omega|assumption|((repeat(first|exact A1|exact uH|apply A2|apply uT));first|done|fail)|(simp;first|done|omega|fail))[c2]))
  exact Sels.tw (by (repeat' constructor)) (hL' v')
 ·have hL' := fun v' => hL (by omega) v' trivial
  simp only [B31, B3Y, B1U, A1K, List.append_assoc] at hL' ⊢
  (have zz:=trivial;repeat((first|clear zz|with_reducible first|refine A3 ?_|refine A5 fun _=>?_|refine A4 fun _=>?_|refine D6 fun _=>?_|refine D3 (hK:=fun _=>?_)|refine D7 (hK:=fun _=>?_)|refine D8 (hK:=fun _=>?_)|refine D5 (hK:=fun _=>?_)|refine D4 (hK:=fun _=>?_));try simp(disch:=first|omega|assumption|((repeat(first|exact A1|exact uH|apply A2|apply uT));first|done|fail)|(simp;first|done|omega|fail))[]))
  refine C6 M1 (fun w' _ hs => v7 w' bw _ _ v 40 _ rest (Or.inr rfl) A2D (by omega) hs) (by (repeat' constructor)) ?_
  rintro v' _ rfl
  (have zz:=trivial;repeat((first|clear zz|with_reducible first|refine A3 ?_|refine A5 fun _=>?_|refine A4 fun _=>?_|refine D6 fun _=>?_|refine D3 (hK:=fun _=>?_)|refine D7 (hK:=fun _=>?_)|refine D8 (hK:=fun _=>?_)|refine D5 (hK:=fun _=>?_)|refine D4 (hK:=fun _=>?_));try simp(disch:=first|omega|assumption|((repeat(first|exact A1|exact uH|apply A2|apply uT));first|done|fail)|(simp;first|done|omega|fail))[]))
  exact Sels.tw (by (repeat' constructor)) (hL' v')
 ·simp only [B31, B3Y]
  (have zz:=trivial;repeat((first|clear zz|with_reducible first|refine A3 ?_|refine A5 fun _=>?_|refine A4 fun _=>?_|refine D6 fun _=>?_|refine D3 (hK:=fun _=>?_)|refine D7 (hK:=fun _=>?_)|refine D8 (hK:=fun _=>?_)|refine D5 (hK:=fun _=>?_)|refine D4 (hK:=fun _=>?_));try simp(disch:=first|omega|assumption|((repeat(first|exact A1|exact uH|apply A2|apply uT));first|done|fail)|(simp;first|done|omega|fail))[]))
  have hz : (B1U src dst rest proto).size = 40 + rest.size := by simp [B1U, c1, c2]
  refine C6 A24 (fun w' _ hs => C1f w' bw _ _ v (40 + rest.size) (F5 (B1U src dst rest proto)) (B1U src dst rest proto) hz.symm rfl (by omega) (by omega) hs) (by (repeat' constructor)) ?_
  rintro _ _ rfl
  (have zz:=trivial;repeat((first|clear zz|with_reducible first|refine A3 ?_|refine A5 fun _=>?_|refine A4 fun _=>?_|refine D6 fun _=>?_|refine D3 (hK:=fun _=>?_)|refine D7 (hK:=fun _=>?_)|refine D8 (hK:=fun _=>?_)|refine D5 (hK:=fun _=>?_)|refine D4 (hK:=fun _=>?_));try simp(disch:=first|omega|assumption|((repeat(first|exact A1|exact uH|apply A2|apply uT));first|done|fail)|(simp;first|done|omega|fail))[]))
  exact B0 (by simp [A7F, c1, c2, c3, c4, c5])
end Go.Proofs.YtjobgnabneddjaaGreat
namespace Go.Proofs.YtjobgnabneddjaaGreat
open Go
theorem B5e {κ : Bool} {X : Nat → Prop} {S : List Nat} {w0 : World} {H : List Res} {K : Value → WP} {g u : Value} {name : String} {args : List Value} {f : FuncId} {args' : Array Value} (hr : ∀ w, (callMethod g name args.toArray).run PR w = .ok (.enter f args') w)
  (hf : ∀ w, LW κ S w0 H w → Fn PR B8 f args' w (fun v w' => v = u ∧ C7 [] w w')) (hK : TW κ S w0 H (K u)) : TW κ S w0 H (inv PR X g name args K) := fun w hw =>
 ⟨f, args', hr w, (hf w hw).use fun v w' ⟨h1, h2⟩ hsk => by subst h1; exact hK w' (hw.ext (h2.ks fun _ => hsk))⟩
theorem C0C {P : Program} {t : TypeId} {n m : Nat} {z : Value} {ms : Array (String × TypeId)} {e : Nat} (h : TI P t (.interface ms) n m z) : EqV P (e + 1) t .nilIface .nilIface true := by
 intro w
 simp only [Op.equalIn, Sem.run_bind, h.run_und, Result.andThen_ok]; rfl
theorem B99 {P : Program} {t : TypeId} {n m : Nat} {z : Value} {ms : Array (String × TypeId)} {e : Nat} (h : TI P t (.interface ms) n m z) (u : TypeId) (v : Value) : EqV P (e + 1) t (.iface u v) .nilIface false := by
 intro w
 simp only [Op.equalIn, Sem.run_bind, h.run_und, Result.andThen_ok]; rfl
theorem B81 {t : TypeId} {op : BinOp} {x y : Operand} {g : Value} {r : Bool} {K : Value → WP} (hg : (eqGuard .eql t x y g .nilIface) = pure ()) (he : EqV PR 10000 t g .nilIface r) : A6 PR (H8 .eql t x y g .nilIface) K = K (.bool r) := by
 funext w
 refine S9 ?_ K
 have := he w
 simp [H8, hg, binOp, Op.equal, Op.maxDepth, this]
theorem A1x {x : Operand} {c : Value} {K : Value → WP} : A6 PR (H8 .eql 250 x (.const c) .nilIface .nilIface) K = K (.bool true) := B81 (op := .eql) (by cases x <;> rfl) (C0C (e := 9999) B5g)
theorem A1u {x y : Operand} {K : Value → WP} {u : TypeId} {v : Value} : A6 PR (H8 .eql 250 x y (.iface u v) .nilIface) K = K (.bool false) := B81 (op := .eql) (by rfl) (B99 (e := 9999) B5g u v)
abbrev B6s : Value := .iface 333 (.agg #[])
abbrev B57 : Value := .iface 334 (.agg #[])
def m5 : List (Int × Value) := [(6, B6s), (17, B57)]
theorem B4v (w : World) : Fn PR B8 144 #[] w (Rn [] w (fun r v => v = .map (some r)) fun r => [.pt r (p5 (Value.int .i64) m5)]) := by
 refine B3a (TW.go (κ := false) (S := []) ?_)
 unfold A6w
 refine B82 (Value.int .i64) fun r => ?_
 (have zz:=trivial;repeat((first|clear zz|with_reducible first|refine A3 ?_|refine A5 fun _=>?_|refine A4 fun _=>?_);try simp(disch:=first|omega|assumption|((repeat(first|exact A1|exact uH|apply A2|apply uT));first|done|fail)|(simp;first|done|omega|fail))[]))
 refine B1w B5m (KeyT.int K3) (k := 6) (by (repeat constructor)) ?_
 (have zz:=trivial;repeat((first|clear zz|with_reducible first|refine A3 ?_|refine A5 fun _=>?_|refine A4 fun _=>?_);try simp(disch:=first|omega|assumption|((repeat(first|exact A1|exact uH|apply A2|apply uT));first|done|fail)|(simp;first|done|omega|fail))[]))
 refine B1w B5m (KeyT.int K3) (k := 17) (by (repeat constructor)) ?_
 exact j1 r rfl (by simp [j9, m5])
def A9v (s : ByteArray) : Nat × Nat := if s.size < 20 then (0, 2) else if F6 s 12 / 16 * 4 < 20 ∨ s.size < F6 s 12 / 16 * 4 then (0, 8) else (F6 s 13, 0)
def A9W (s : ByteArray) : Nat × Nat := if s.size < 8 then (0, 2) else if gv s 4 2 < 8 ∨ s.size < gv s 4 2 then (0, 4) else (0, 0)
theorem B70 (w : World) (s : ByteArray) (hs : s.size < 2 ^ 40) : Fn PR B8 339 #[.agg #[], .string s] w (fun v w' => v = .tuple #[.int .i64 (A9v s).1, .int .i64 (A9v s).2] ∧ C7 [] w w') := by
 refine Fn.pure (B0m (TW.go (κ := false) (S := []) ?_))
 unfold A28
 by_cases c1 : s.size < 20
 ·have c1' : (s.size : Int) < 20 := by omega
  (have zz:=trivial;repeat((first|clear zz|with_reducible first|refine A3 ?_|refine A5 fun _=>?_|refine A4 fun _=>?_);try simp(disch:=first|omega|assumption|((repeat(first|exact A1|exact uH|apply A2|apply uT));first|done|fail)|(simp;first|done|omega|fail))[c1'])); exact B0 (by simp [A9v, c1])
 have c1' : ¬ (s.size : Int) < 20 := by omega
 obtain ⟨by0, hb0, hb1⟩ := A0T (s := s) (i := 12) (by omega)
 obtain ⟨by1, hb2, hb3⟩ := A0T (s := s) (i := 13) (by omega)
 have hb0' : s[(12 : Int).toNat]? = some by0 := hb0
 have hb2' : s[(13 : Int).toNat]? = some by1 := hb2
 have hl0 := A0Z s 12
 have hl1 := A0Z s 13
 have e1 : ((by0.toNat : Nat) : Int).fdiv (2 ^ min 4 IntKind.u8.bits) = (F6 s 12 / 16 : Nat) := by rw [show (2 : Int) ^ min 4 IntKind.u8.bits = 16 from rfl, Int.fdiv_eq_ediv_of_nonneg _ (by omega), hb1]; omega
 have e2 : IntKind.i64.wrap (by1.toNat : Nat) = (F6 s 13 : Nat) := by rw [W5 (by omega) (by omega), hb3]
 have l1 : ∀ n : Nat, ((n * 4 : Nat) : Int) = (n : Int) * 4 := by omega
 by_cases c2 : F6 s 12 / 16 * 4 < 20
 ·have c2' : ((F6 s 12 : Nat) : Int) / 16 * 4 < 20 := by omega
  (have zz:=trivial;repeat((first|clear zz|with_reducible first|refine A3 ?_|refine A5 fun _=>?_|refine A4 fun _=>?_);try simp(disch:=first|omega|assumption|((repeat(first|exact A1|exact uH|apply A2|apply uT));first|done|fail)|(simp;first|done|omega|fail))[c1', a6]))
  rw [e1]
  (have zz:=trivial;repeat((first|clear zz|with_reducible first|refine A3 ?_|refine A5 fun _=>?_|refine A4 fun _=>?_);try simp(disch:=first|omega|assumption|((repeat(first|exact A1|exact uH|apply A2|apply uT));first|done|fail)|(simp;first|done|omega|fail))[c2']))
  exact B0 (by simp [A9v, c1, c2])
 have c2' : ¬ ((F6 s 12 : Nat) : Int) / 16 * 4 < 20 := by omega
 by_cases c3 : s.size < F6 s 12 / 16 * 4
 ·have c3' : (s.size : Int) < ((F6 s 12 : Nat) : Int) / 16 * 4 := by omega
  (have zz:=trivial;repeat((first|clear zz|with_reducible first|refine A3 ?_|refine A5 fun _=>?_|refine A4 fun _=>?_);try simp(disch:=first|omega|assumption|((repeat(first|exact A1|exact uH|apply A2|apply uT));first|done|fail)|(simp;first|done|omega|fail))[c1', a6]))
  rw [e1]
  (have zz:=trivial;repeat((first|clear zz|with_reducible first|refine A3 ?_|refine A5 fun _=>?_|refine A4 fun _=>?_);try simp(disch:=first|omega|assumption|((repeat(first|exact A1|exact uH|apply A2|apply uT));first|done|fail)|(simp;first|done|omega|fail))[c2', c3']))
  exact B0 (by simp [A9v, c1, c2, c3])
 have c3' : ¬ (s.size : Int) < ((F6 s 12 : Nat) : Int) / 16 * 4 := by omega
 (have zz:=trivial;repeat((first|clear zz|with_reducible first|refine A3 ?_|refine A5 fun _=>?_|refine A4 fun _=>?_);try simp(disch:=first|omega|assumption|((repeat(first|exact A1|exact uH|apply A2|apply uT));first|done|fail)|(simp;first|done|omega|fail))[c1', a6]))
 rw [e1]
 (have zz:=trivial;repeat((first|clear zz|with_reducible first|refine A3 ?_|refine A5 fun _=>?_|refine A4 fun _=>?_);try simp(disch:=first|omega|assumption|((repeat(first|exact A1|exact uH|apply A2|apply uT));first|done|fail)|(simp;first|done|omega|fail))[c2', c3', a6, e2]))
 exact B0 (by simp [A9v, c1, c2, c3, hb3])
def z1 : ByteArray := ByteArray.mk #[0]
def A4H (f : Int) : ByteArray × Nat := if f < 0 ∨ 255 < f then (L9, 1) else (B1P z1 8 ++ ByteArray.mk #[80] ++ F2 f 1 ++ B1P z1 6, 0)
def A5Z (f : Int) : ByteArray × Nat := if f ≠ 0 then (L9, 1) else (ByteArray.mk #[0, 8, 0, 0], 0)
theorem C9b (w : World) : Fn PR B8 341 #[.string (ByteArray.mk #[0]), .int .i64 8] w (fun v w' => v = .string (B1P z1 8) ∧ C7 [] w w') := B4Z w z1 8 (by omega) (by decide)
theorem C9j (w : World) : Fn PR B8 341 #[.string (ByteArray.mk #[0]), .int .i64 6] w (fun v w' => v = .string (B1P z1 6) ∧ C7 [] w w') := B4Z w z1 6 (by omega) (by decide)
theorem r9 (c : Nat) : (B1P z1 c).size = c := by
 have : ∀ (l : List UInt8) (n : Nat), (Lib.repeatL l n).length = n * l.length := by
  intro l n
  induction n with
  | zero => simp [Lib.repeatL]
  | succ n ih => simp [Lib.repeatL, ih, Nat.add_mul, Nat.add_comm]
 show (Lib.repeatL z1.data.toList c).toArray.size = c
 rw [List.size_toArray, this]; simp [z1]
theorem C0x (w : World) (f : Int) : Fn PR B8 340 #[.agg #[], .int .i64 f] w (fun v w' => v = .tuple #[.string (A4H f).1, .int .i64 (A4H f).2] ∧ C7 [] w w') := by
 refine Fn.pure (B22 (TW.go (κ := false) (S := []) ?_))
 unfold A5F
 by_cases c1 : f < 0
 ·(have zz:=trivial;repeat((first|clear zz|with_reducible first|refine A3 ?_|refine A5 fun _=>?_|refine A4 fun _=>?_);try simp(disch:=first|omega|assumption|((repeat(first|exact A1|exact uH|apply A2|apply uT));first|done|fail)|(simp;first|done|omega|fail))[c1])); exact B0 (by simp [A4H, c1])
 by_cases c2 : 255 < f
 ·(have zz:=trivial;repeat((first|clear zz|with_reducible first|refine A3 ?_|refine A5 fun _=>?_|refine A4 fun _=>?_);try simp(disch:=first|omega|assumption|((repeat(first|exact A1|exact uH|apply A2|apply uT));first|done|fail)|(simp;first|done|omega|fail))[c1, c2])); exact B0 (by simp [A4H, c2])
 (have zz:=trivial;repeat((first|clear zz|with_reducible first|refine A3 ?_|refine A5 fun _=>?_|refine A4 fun _=>?_);try simp(disch:=first|omega|assumption|((repeat(first|exact A1|exact uH|apply A2|apply uT));first|done|fail)|(simp;first|done|omega|fail))[c1, c2]))
 have h8 := r9 8
 have h6 := r9 6
 refine C1 A2b (fun w' hw' => C9b w') ?_
 (have zz:=trivial;repeat((first|clear zz|with_reducible first|refine A3 ?_|refine A5 fun _=>?_|refine A4 fun _=>?_);try simp(disch:=first|omega|assumption|((repeat(first|exact A1|exact uH|apply A2|apply uT));first|done|fail)|(simp;first|done|omega|fail))[c1, c2, U6]))
 refine C1 G7 (fun w' hw' => V7 w' _ _) ?_
 (have zz:=trivial;repeat((first|clear zz|with_reducible first|refine A3 ?_|refine A5 fun _=>?_|refine A4 fun _=>?_);try simp(disch:=first|omega|assumption|((repeat(first|exact A1|exact uH|apply A2|apply uT));first|done|fail)|(simp;first|done|omega|fail))[c1, c2, U6]))
 refine C1 A2b (fun w' hw' => C9j w') ?_
 (have zz:=trivial;repeat((first|clear zz|with_reducible first|refine A3 ?_|refine A5 fun _=>?_|refine A4 fun _=>?_);try simp(disch:=first|omega|assumption|((repeat(first|exact A1|exact uH|apply A2|apply uT));first|done|fail)|(simp;first|done|omega|fail))[c1, c2, U6]))
 exact B0 (by simp [A4H, c1, c2])
theorem B7q (w : World) (s : ByteArray) (hs : s.size < 2 ^ 40) : Fn PR B8 351 #[.agg #[], .string s] w (fun v w' => v = .tuple #[.int .i64 (A9W s).1, .int .i64 (A9W s).2] ∧ C7 [] w w') := by
 refine Fn.pure (B0q (TW.go (κ := false) (S := []) ?_))
 unfold A3A
 by_cases c1 : s.size < 8
 ·have c1' : (s.size : Int) < 8 := by omega
  (have zz:=trivial;repeat((first|clear zz|with_reducible first|refine A3 ?_|refine A5 fun _=>?_|refine A4 fun _=>?_);try simp(disch:=first|omega|assumption|((repeat(first|exact A1|exact uH|apply A2|apply uT));first|done|fail)|(simp;first|done|omega|fail))[c1'])); exact B0 (by simp [A9W, c1])
 have c1' : ¬ (s.size : Int) < 8 := by omega
 (have zz:=trivial;repeat((first|clear zz|with_reducible first|refine A3 ?_|refine A5 fun _=>?_|refine A4 fun _=>?_);try simp(disch:=first|omega|assumption|((repeat(first|exact A1|exact uH|apply A2|apply uT));first|done|fail)|(simp;first|done|omega|fail))[c1']))
 refine C1 S2 (fun w' _ => A2f w' s (by omega) _ _) ?_
 have e1 := A6B s 4 2 (by omega) (by omega)
 have e1' : A5j s 4 2 = gv s 4 2 := e1
 have hg := A2p s 4
 by_cases c2 : gv s 4 2 < 8
 ·have c2' : ((gv s 4 2 : Nat) : Int) < 8 := by omega
  (have zz:=trivial;repeat((first|clear zz|with_reducible first|refine A3 ?_|refine A5 fun _=>?_|refine A4 fun _=>?_);try simp(disch:=first|omega|assumption|((repeat(first|exact A1|exact uH|apply A2|apply uT));first|done|fail)|(simp;first|done|omega|fail))[e1', c2, c2']))
  exact B0 (by simp [A9W, c1, c2])
 have c2' : ¬ ((gv s 4 2 : Nat) : Int) < 8 := by omega
 by_cases c3 : s.size < gv s 4 2
 ·have c3' : ((s.size : Nat) : Int) < gv s 4 2 := by omega
  (have zz:=trivial;repeat((first|clear zz|with_reducible first|refine A3 ?_|refine A5 fun _=>?_|refine A4 fun _=>?_);try simp(disch:=first|omega|assumption|((repeat(first|exact A1|exact uH|apply A2|apply uT));first|done|fail)|(simp;first|done|omega|fail))[e1', c2, c2', c3, c3']))
  exact B0 (by simp [A9W, c1, c2, c3])
 have c3' : ¬ ((s.size : Nat) : Int) < gv s 4 2 := by omega
 (have zz:=trivial;repeat((first|clear zz|with_reducible first|refine A3 ?_|refine A5 fun _=>?_|refine A4 fun _=>?_);try simp(disch:=first|omega|assumption|((repeat(first|exact A1|exact uH|apply A2|apply uT));first|done|fail)|(simp;first|done|omega|fail))[e1', c2, c2', c3, c3']))
 exact B0 (by simp [A9W, c1, c2, c3])
theorem C1m (w : World) (f : Int) : Fn PR B8 352 #[.agg #[], .int .i64 f] w (fun v w' => v = .tuple #[.string (A5Z f).1, .int .i64 (A5Z f).2] ∧ C7 [] w w') := by
 refine Fn.pure (B2s (TW.go (κ := false) (S := []) ?_))
 unfold A41
 by_cases c1 : f = 0
 ·(have zz:=trivial;repeat((first|clear zz|with_reducible first|refine A3 ?_|refine A5 fun _=>?_|refine A4 fun _=>?_);try simp(disch:=first|omega|assumption|((repeat(first|exact A1|exact uH|apply A2|apply uT));first|done|fail)|(simp;first|done|omega|fail))[c1])); exact B0 (by simp [A5Z, c1])
 ·(have zz:=trivial;repeat((first|clear zz|with_reducible first|refine A3 ?_|refine A5 fun _=>?_|refine A4 fun _=>?_);try simp(disch:=first|omega|assumption|((repeat(first|exact A1|exact uH|apply A2|apply uT));first|done|fail)|(simp;first|done|omega|fail))[c1])); exact B0 (by simp [A5Z, c1])
def A2m (number : Int) (s : ByteArray) : Nat × Nat := if number = 6 then A9v s else if number = 17 then A9W s else (0, 7)
def Z6 (number : Int) (s : ByteArray) : Nat × Nat × Nat × Nat := if (A2m number s).2 ≠ 0 then (0, 0, 0, (A2m number s).2) else (gv s 0 2, gv s 2 2, (A2m number s).1, 0)
def Z6.val (x : Nat × Nat × Nat × Nat) : Value := .tuple #[.agg #[.int .i64 x.1, .int .i64 x.2.1, .int .i64 x.2.2.1], .int .i64 x.2.2.2]
theorem B24 (w : World) (s : ByteArray) : (callMethod B6s "gangplank/port.parse" [Value.string s].toArray).run PR w = .ok (.enter 339 #[.agg #[], .string s]) w := by kernel_rfl
theorem B19 (w : World) (s : ByteArray) : (callMethod B57 "gangplank/port.parse" [Value.string s].toArray).run PR w = .ok (.enter 351 #[.agg #[], .string s]) w := by kernel_rfl
theorem B5Y (w : World) (f : Int) : (callMethod B6s "gangplank/port.put" [Value.int .i64 f].toArray).run PR w = .ok (.enter 340 #[.agg #[], .int .i64 f]) w := by kernel_rfl
theorem B5J (w : World) (f : Int) : (callMethod B57 "gangplank/port.put" [Value.int .i64 f].toArray).run PR w = .ok (.enter 352 #[.agg #[], .int .i64 f]) w := by kernel_rfl
theorem B7c (w : World) (s : ByteArray) (hs : s.size < 2 ^ 40) (number : Int) : Fn PR B8 87 #[.int .i64 number, .string s] w (fun v w' => v = Z6.val (Z6 number s) ∧ C7 [] w w') := by
 refine Fn.pure (B48 (TW.go (κ := false) (S := []) ?_))
 unfold A8C
 (have zz:=trivial;repeat((first|clear zz|with_reducible first|refine A3 ?_|refine A5 fun _=>?_|refine A4 fun _=>?_);try simp(disch:=first|omega|assumption|((repeat(first|exact A1|exact uH|apply A2|apply uT));first|done|fail)|(simp;first|done|omega|fail))[]))
 refine H2 A4z (fun w' _ => B4v w') ?_
 rintro r v rfl
 (have zz:=trivial;repeat((first|clear zz|with_reducible first|refine A3 ?_|refine A5 fun _=>?_|refine A4 fun _=>?_);try simp(disch:=first|omega|assumption|((repeat(first|exact A1|exact uH|apply A2|apply uT));first|done|fail)|(simp;first|done|omega|fail))[]))
 rw [B1W B5m B5g (KeyT.int K3) (l := m5) (by (repeat constructor))]
 have p7 : ∀ {f1 : Nat} {b : Nat}, True := fun {_ _} => trivial
 have hg0 := A2p s 0
 have hg2 := A2p s 2
 have e1 : A5j s 0 2 = gv s 0 2 := A6B s 0 2 (by omega) (by omega)
 have e2 : A5j s 2 2 = gv s 2 2 := A6B s 2 2 (by omega) (by omega)
 by_cases c1 : number = 6
 ·rw [show (l9 number m5).getD .nilIface = B6s by subst c1; rfl]
  (have zz:=trivial;repeat((first|clear zz|with_reducible first|refine A3 ?_|refine A5 fun _=>?_|refine A4 fun _=>?_);try simp(disch:=first|omega|assumption|((repeat(first|exact A1|exact uH|apply A2|apply uT));first|done|fail)|(simp;first|done|omega|fail))[A1x, A1u]))
  refine B5e (fun w => B24 w s) (fun w' hw' => B70 w' s hs) ?_
  by_cases c2 : (A9v s).2 = 0
  ·(have zz:=trivial;repeat((first|clear zz|with_reducible first|refine A3 ?_|refine A5 fun _=>?_|refine A4 fun _=>?_);try simp(disch:=first|omega|assumption|((repeat(first|exact A1|exact uH|apply A2|apply uT));first|done|fail)|(simp;first|done|omega|fail))[c2]))
   refine C1 S2 (fun w' _ => A2f w' s (by omega) _ _) ?_
   (have zz:=trivial;repeat((first|clear zz|with_reducible first|refine A3 ?_|refine A5 fun _=>?_|refine A4 fun _=>?_);try simp(disch:=first|omega|assumption|((repeat(first|exact A1|exact uH|apply A2|apply uT));first|done|fail)|(simp;first|done|omega|fail))[e1]))
   refine C1 S2 (fun w' _ => A2f w' s (by omega) _ _) ?_
   (have zz:=trivial;repeat((first|clear zz|with_reducible first|refine A3 ?_|refine A5 fun _=>?_|refine A4 fun _=>?_);try simp(disch:=first|omega|assumption|((repeat(first|exact A1|exact uH|apply A2|apply uT));first|done|fail)|(simp;first|done|omega|fail))[e1, e2]))
   exact B0 (by simp [Z6, A2m, Z6.val, c1, c2])
  ·(have zz:=trivial;repeat((first|clear zz|with_reducible first|refine A3 ?_|refine A5 fun _=>?_|refine A4 fun _=>?_);try simp(disch:=first|omega|assumption|((repeat(first|exact A1|exact uH|apply A2|apply uT));first|done|fail)|(simp;first|done|omega|fail))[c2]))
   exact B0 (by simp [Z6, A2m, Z6.val, c1, c2])
 by_cases c1' : number = 17
 ·rw [show (l9 number m5).getD .nilIface = B57 by subst c1'; rfl]
  (have zz:=trivial;repeat((first|clear zz|with_reducible first|refine A3 ?_|refine A5 fun _=>?_|refine A4 fun _=>?_);try simp(disch:=first|omega|assumption|((repeat(first|exact A1|exact uH|apply A2|apply uT));first|done|fail)|(simp;first|done|omega|fail))[A1x, A1u]))
  refine B5e (fun w => B19 w s) (fun w' hw' => B7q w' s hs) ?_
  by_cases c2 : (A9W s).2 = 0
  ·(have zz:=trivial;repeat((first|clear zz|with_reducible first|refine A3 ?_|refine A5 fun _=>?_|refine A4 fun _=>?_);try simp(disch:=first|omega|assumption|((repeat(first|exact A1|exact uH|apply A2|apply uT));first|done|fail)|(simp;first|done|omega|fail))[c2]))
   refine C1 S2 (fun w' _ => A2f w' s (by omega) _ _) ?_
   (have zz:=trivial;repeat((first|clear zz|with_reducible first|refine A3 ?_|refine A5 fun _=>?_|refine A4 fun _=>?_);try simp(disch:=first|omega|assumption|((repeat(first|exact A1|exact uH|apply A2|apply uT));first|done|fail)|(simp;first|done|omega|fail))[e1]))
   refine C1 S2 (fun w' _ => A2f w' s (by omega) _ _) ?_
   (have zz:=trivial;repeat((first|clear zz|with_reducible first|refine A3 ?_|refine A5 fun _=>?_|refine A4 fun _=>?_);try simp(disch:=first|omega|assumption|((repeat(first|exact A1|exact uH|apply A2|apply uT));first|done|fail)|(simp;first|done|omega|fail))[e1, e2]))
   exact B0 (by simp [Z6, A2m, Z6.val, c1', c2])
  ·(have zz:=trivial;repeat((first|clear zz|with_reducible first|refine A3 ?_|refine A5 fun _=>?_|refine A4 fun _=>?_);try simp(disch:=first|omega|assumption|((repeat(first|exact A1|exact uH|apply A2|apply uT));first|done|fail)|(simp;first|done|omega|fail))[c2]))
   exact B0 (by simp [Z6, A2m, Z6.val, c1', c2])
 ·rw [show (l9 number m5).getD .nilIface = .nilIface by simp [l9, m5, c1, c1']]
  (have zz:=trivial;repeat((first|clear zz|with_reducible first|refine A3 ?_|refine A5 fun _=>?_|refine A4 fun _=>?_);try simp(disch:=first|omega|assumption|((repeat(first|exact A1|exact uH|apply A2|apply uT));first|done|fail)|(simp;first|done|omega|fail))[A1x, A1u]))
  exact B0 (by simp [Z6, A2m, Z6.val, c1, c1'])
theorem s6 (s : ByteArray) : s ++ L9 = s := by apply ByteArray.ext; rw [ByteArray.data_append]; simp
theorem u9 (s : ByteArray) : L9 ++ s = s := by apply ByteArray.ext; rw [ByteArray.data_append]; simp
def T5 (x : Int) : ByteArray := if 0 ≤ x ∧ x ≤ 65535 then F2 x 2 else L9
def T9 (x y : Int) : Bool := decide (0 ≤ x ∧ x ≤ 65535 ∧ 0 ≤ y ∧ y ≤ 65535)
theorem B6m (w : World) (x y z : Int) : Fn PR B8 171 #[.agg #[.int .i64 x, .int .i64 y, .int .i64 z]] w (fun v w' => v = .tuple #[.string (T5 x ++ T5 y), .bool (T9 x y)] ∧ C7 [] w w') := by
 refine Fn.pure (B46 (TW.go (κ := false) (S := []) ?_))
 unfold A8Q
 by_cases c1 : 0 ≤ x ∧ x ≤ 65535
 ·have c1' := c1.1; have c1'' := c1.2
  (have zz:=trivial;repeat((first|clear zz|with_reducible first|refine A3 ?_|refine A5 fun _=>?_|refine A4 fun _=>?_);try simp(disch:=first|omega|assumption|((repeat(first|exact A1|exact uH|apply A2|apply uT));first|done|fail)|(simp;first|done|omega|fail))[c1', c1'']))
  refine C1 G7 (fun w' hw' => V7 w' _ _) ?_
  by_cases c2 : 0 ≤ y ∧ y ≤ 65535
  ·have c2' := c2.1; have c2'' := c2.2
   (have zz:=trivial;repeat((first|clear zz|with_reducible first|refine A3 ?_|refine A5 fun _=>?_|refine A4 fun _=>?_);try simp(disch:=first|omega|assumption|((repeat(first|exact A1|exact uH|apply A2|apply uT));first|done|fail)|(simp;first|done|omega|fail))[c1', c1'', c2', c2'']))
   refine C1 G7 (fun w' hw' => V7 w' _ _) ?_
   (have zz:=trivial;repeat((first|clear zz|with_reducible first|refine A3 ?_|refine A5 fun _=>?_|refine A4 fun _=>?_);try simp(disch:=first|omega|assumption|((repeat(first|exact A1|exact uH|apply A2|apply uT));first|done|fail)|(simp;first|done|omega|fail))[c1', c1'', c2', c2'', U6]))
   exact B0 (by simp [s6, u9, T5, T9, c1, c2])
  ·by_cases c3 : 0 ≤ y
   ·have c4 : ¬ y ≤ 65535 := fun h => c2 ⟨c3, h⟩
    (have zz:=trivial;repeat((first|clear zz|with_reducible first|refine A3 ?_|refine A5 fun _=>?_|refine A4 fun _=>?_);try simp(disch:=first|omega|assumption|((repeat(first|exact A1|exact uH|apply A2|apply uT));first|done|fail)|(simp;first|done|omega|fail))[c1', c1'', c3, c4]))
    exact B0 (by simp [s6, u9, T5, T9, c1, c3, c4])
   ·(have zz:=trivial;repeat((first|clear zz|with_reducible first|refine A3 ?_|refine A5 fun _=>?_|refine A4 fun _=>?_);try simp(disch:=first|omega|assumption|((repeat(first|exact A1|exact uH|apply A2|apply uT));first|done|fail)|(simp;first|done|omega|fail))[c1', c1'', c3]))
    exact B0 (by simp [s6, u9, T5, T9, c1, c3])
 ·have hn : T5 x = L9 := by simp [T5, c1]
  have ho : T9 x y = false := by simp only [T9, decide_eq_false_iff_not]; exact fun h => c1 ⟨h.1, h.2.1⟩
  rw [hn, ho]
  have key : ∀ bx, TW false [] w [.pt bx (.cells #[.int .i64 x, .int .i64 y, .int .i64 z] 148)] = TW false [] w [.pt bx (.cells #[.int .i64 x, .int .i64 y, .int .i64 z] 148)] := fun _ => rfl
  by_cases c0 : 0 ≤ x
  ·have c0' : ¬ x ≤ 65535 := fun h => c1 ⟨c0, h⟩
   by_cases c2 : 0 ≤ y ∧ y ≤ 65535
   ·have c2' := c2.1; have c2'' := c2.2
    (have zz:=trivial;repeat((first|clear zz|with_reducible first|refine A3 ?_|refine A5 fun _=>?_|refine A4 fun _=>?_);try simp(disch:=first|omega|assumption|((repeat(first|exact A1|exact uH|apply A2|apply uT));first|done|fail)|(simp;first|done|omega|fail))[c0, c0', c2', c2'']))
    refine C1 G7 (fun w' hw' => V7 w' _ _) ?_
    (have zz:=trivial;repeat((first|clear zz|with_reducible first|refine A3 ?_|refine A5 fun _=>?_|refine A4 fun _=>?_);try simp(disch:=first|omega|assumption|((repeat(first|exact A1|exact uH|apply A2|apply uT));first|done|fail)|(simp;first|done|omega|fail))[c0, c0', c2', c2'', U6]))
    exact B0 (by simp [s6, u9, T5, c2])
   ·by_cases c3 : 0 ≤ y
    ·have c4 : ¬ y ≤ 65535 := fun h => c2 ⟨c3, h⟩
     (have zz:=trivial;repeat((first|clear zz|with_reducible first|refine A3 ?_|refine A5 fun _=>?_|refine A4 fun _=>?_);try simp(disch:=first|omega|assumption|((repeat(first|exact A1|exact uH|apply A2|apply uT));first|done|fail)|(simp;first|done|omega|fail))[c0, c0', c3, c4]))
     exact B0 (by simp [s6, u9, T5, c3, c4])
    ·(have zz:=trivial;repeat((first|clear zz|with_reducible first|refine A3 ?_|refine A5 fun _=>?_|refine A4 fun _=>?_);try simp(disch:=first|omega|assumption|((repeat(first|exact A1|exact uH|apply A2|apply uT));first|done|fail)|(simp;first|done|omega|fail))[c0, c0', c3]))
     exact B0 (by simp [s6, u9, T5, c3])
  ·by_cases c2 : 0 ≤ y ∧ y ≤ 65535
   ·have c2' := c2.1; have c2'' := c2.2
    (have zz:=trivial;repeat((first|clear zz|with_reducible first|refine A3 ?_|refine A5 fun _=>?_|refine A4 fun _=>?_);try simp(disch:=first|omega|assumption|((repeat(first|exact A1|exact uH|apply A2|apply uT));first|done|fail)|(simp;first|done|omega|fail))[c0, c2', c2'']))
    refine C1 G7 (fun w' hw' => V7 w' _ _) ?_
    (have zz:=trivial;repeat((first|clear zz|with_reducible first|refine A3 ?_|refine A5 fun _=>?_|refine A4 fun _=>?_);try simp(disch:=first|omega|assumption|((repeat(first|exact A1|exact uH|apply A2|apply uT));first|done|fail)|(simp;first|done|omega|fail))[c0, c2', c2'', U6]))
    exact B0 (by simp [s6, u9, T5, c2])
   ·by_cases c3 : 0 ≤ y
    ·have c4 : ¬ y ≤ 65535 := fun h => c2 ⟨c3, h⟩
     (have zz:=trivial;repeat((first|clear zz|with_reducible first|refine A3 ?_|refine A5 fun _=>?_|refine A4 fun _=>?_);try simp(disch:=first|omega|assumption|((repeat(first|exact A1|exact uH|apply A2|apply uT));first|done|fail)|(simp;first|done|omega|fail))[c0, c3, c4]))
     exact B0 (by simp [s6, u9, T5, c3, c4])
    ·(have zz:=trivial;repeat((first|clear zz|with_reducible first|refine A3 ?_|refine A5 fun _=>?_|refine A4 fun _=>?_);try simp(disch:=first|omega|assumption|((repeat(first|exact A1|exact uH|apply A2|apply uT));first|done|fail)|(simp;first|done|omega|fail))[c0, c3]))
     exact B0 (by simp [s6, u9, T5, c3])
def A3q (number f : Int) : ByteArray × Nat := if number = 6 then A4H f else if number = 17 then A5Z f else (L9, 7)
def W6 (number x y f : Int) : ByteArray × Nat := if number ≠ 6 ∧ number ≠ 17 then (L9, 7) else if T9 x y = false ∨ (A3q number f).2 ≠ 0 then (L9, 1) else (F2 x 2 ++ F2 y 2 ++ (A3q number f).1, 0)
theorem B6q {x y : Int} (h : T9 x y = true) : T5 x ++ T5 y = F2 x 2 ++ F2 y 2 := by
 simp only [T9, decide_eq_true_eq] at h
 unfold T5; rw [if_pos (by omega), if_pos (by omega)]
theorem A7P (w : World) (number x y f : Int) : Fn PR B8 124 #[.int .i64 number, .agg #[.int .i64 x, .int .i64 y, .int .i64 f]] w (fun v w' => v = .tuple #[.string (W6 number x y f).1, .int .i64 (W6 number x y f).2] ∧ C7 [] w w') := by
 refine Fn.pure (B78 (TW.go (κ := false) (S := []) ?_))
 unfold B08
 (have zz:=trivial;repeat((first|clear zz|with_reducible first|refine A3 ?_|refine A5 fun _=>?_|refine A4 fun _=>?_);try simp(disch:=first|omega|assumption|((repeat(first|exact A1|exact uH|apply A2|apply uT));first|done|fail)|(simp;first|done|omega|fail))[]))
 refine H2 A4z (fun w' _ => B4v w') ?_
 rintro r v rfl
 (have zz:=trivial;repeat((first|clear zz|with_reducible first|refine A3 ?_|refine A5 fun _=>?_|refine A4 fun _=>?_);try simp(disch:=first|omega|assumption|((repeat(first|exact A1|exact uH|apply A2|apply uT));first|done|fail)|(simp;first|done|omega|fail))[]))
 rw [B1W B5m B5g (KeyT.int K3) (l := m5) (by (repeat constructor))]
 by_cases c1 : number = 6
 ·rw [show (l9 number m5).getD .nilIface = B6s by subst c1; rfl]
  (have zz:=trivial;repeat((first|clear zz|with_reducible first|refine A3 ?_|refine A5 fun _=>?_|refine A4 fun _=>?_);try simp(disch:=first|omega|assumption|((repeat(first|exact A1|exact uH|apply A2|apply uT));first|done|fail)|(simp;first|done|omega|fail))[A1x, A1u]))
  refine C1 A6W (fun w' hw' => B6m w' _ _ _) ?_
  (have zz:=trivial;repeat((first|clear zz|with_reducible first|refine A3 ?_|refine A5 fun _=>?_|refine A4 fun _=>?_);try simp(disch:=first|omega|assumption|((repeat(first|exact A1|exact uH|apply A2|apply uT));first|done|fail)|(simp;first|done|omega|fail))[]))
  refine B5e (fun w => B5Y w f) (fun w' hw' => C0x w' f) ?_
  cases c3 : T9 x y with
  | false => (have zz:=trivial;repeat((first|clear zz|with_reducible first|refine A3 ?_|refine A5 fun _=>?_|refine A4 fun _=>?_);try simp(disch:=first|omega|assumption|((repeat(first|exact A1|exact uH|apply A2|apply uT));first|done|fail)|(simp;first|done|omega|fail))[c3])); exact B0 (by simp [W6, c1, c3])
  | true =>
   have hp := B6q c3
   by_cases c2 : (A4H f).2 = 0
   ·have hz : (T5 x).size + (T5 y).size + (A4H f).1.size < 2 ^ 30 := by
     have := congrArg ByteArray.size hp
     simp at this
     have h6 := r9 6
     have h8 := r9 8
     have : (A4H f).1.size ≤ 100 := by unfold A4H; split <;> simp [h6, h8]
     omega
    (have zz:=trivial;repeat((first|clear zz|with_reducible first|refine A3 ?_|refine A5 fun _=>?_|refine A4 fun _=>?_);try simp(disch:=first|omega|assumption|((repeat(first|exact A1|exact uH|apply A2|apply uT));first|done|fail)|(simp;first|done|omega|fail))[c2, c3, U6]))
    exact B0 (by simp [W6, A3q, c1, c2, c3, hp])
   ·(have zz:=trivial;repeat((first|clear zz|with_reducible first|refine A3 ?_|refine A5 fun _=>?_|refine A4 fun _=>?_);try simp(disch:=first|omega|assumption|((repeat(first|exact A1|exact uH|apply A2|apply uT));first|done|fail)|(simp;first|done|omega|fail))[c2, c3]))
    exact B0 (by simp [W6, A3q, c1, c2, c3])
 by_cases c1' : number = 17
 ·rw [show (l9 number m5).getD .nilIface = B57 by subst c1'; rfl]
  (have zz:=trivial;repeat((first|clear zz|with_reducible first|refine A3 ?_|refine A5 fun _=>?_|refine A4 fun _=>?_);try simp(disch:=first|omega|assumption|((repeat(first|exact A1|exact uH|apply A2|apply uT));first|done|fail)|(simp;first|done|omega|fail))[A1x, A1u]))
  refine C1 A6W (fun w' hw' => B6m w' _ _ _) ?_
  (have zz:=trivial;repeat((first|clear zz|with_reducible first|refine A3 ?_|refine A5 fun _=>?_|refine A4 fun _=>?_);try simp(disch:=first|omega|assumption|((repeat(first|exact A1|exact uH|apply A2|apply uT));first|done|fail)|(simp;first|done|omega|fail))[]))
  refine B5e (fun w => B5J w f) (fun w' hw' => C1m w' f) ?_
  cases c3 : T9 x y with
  | false => (have zz:=trivial;repeat((first|clear zz|with_reducible first|refine A3 ?_|refine A5 fun _=>?_|refine A4 fun _=>?_);try simp(disch:=first|omega|assumption|((repeat(first|exact A1|exact uH|apply A2|apply uT));first|done|fail)|(simp;first|done|omega|fail))[c3])); exact B0 (by simp [W6, c1', c3])
  | true =>
   have hp := B6q c3
   by_cases c2 : (A5Z f).2 = 0
   ·have hz : (T5 x).size + (T5 y).size + (A5Z f).1.size < 2 ^ 30 := by
     have := congrArg ByteArray.size hp
     simp at this
     have : (A5Z f).1.size ≤ 100 := by unfold A5Z; split <;> simp
     omega
    (have zz:=trivial;repeat((first|clear zz|with_reducible first|refine A3 ?_|refine A5 fun _=>?_|refine A4 fun _=>?_);try simp(disch:=first|omega|assumption|((repeat(first|exact A1|exact uH|apply A2|apply uT));first|done|fail)|(simp;first|done|omega|fail))[c2, c3, U6]))
    exact B0 (by simp [W6, A3q, c1', c2, c3, hp])
   ·(have zz:=trivial;repeat((first|clear zz|with_reducible first|refine A3 ?_|refine A5 fun _=>?_|refine A4 fun _=>?_);try simp(disch:=first|omega|assumption|((repeat(first|exact A1|exact uH|apply A2|apply uT));first|done|fail)|(simp;first|done|omega|fail))[c2, c3]))
    exact B0 (by simp [W6, A3q, c1', c2, c3])
 ·rw [show (l9 number m5).getD .nilIface = .nilIface by simp [l9, m5, c1, c1']]
  (have zz:=trivial;repeat((first|clear zz|with_reducible first|refine A3 ?_|refine A5 fun _=>?_|refine A4 fun _=>?_);try simp(disch:=first|omega|assumption|((repeat(first|exact A1|exact uH|apply A2|apply uT));first|done|fail)|(simp;first|done|omega|fail))[A1x, A1u]))
  exact B0 (by simp [W6, c1, c1'])
end Go.Proofs.YtjobgnabneddjaaGreat
