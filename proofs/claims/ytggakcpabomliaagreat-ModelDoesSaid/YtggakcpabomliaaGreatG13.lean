/- The proof of a given statement, a part of it (Map ShIp6 ShIp4 ShSum Sum Ip4 Ip6 Port). No condition but what each lemma says. -/
import Derived.MapKept
import Derived.Test.YtggakcpabomliaaGreatG12
set_option linter.unusedVariables false
set_option linter.unusedSimpArgs false
namespace Go.Proofs.YtggakcpabomliaaGreat
open Go
section
variable {κ : Type} [DecidableEq κ]
def W2 (enc : κ → Value) : List (κ × Value) → Nat → List MapEntry
 | [], _ => []
 | p :: l, i => ⟨enc p.1, p.2, i⟩ :: W2 enc l (i + 1)
def n8 (enc : κ → Value) (l : List (κ × Value)) : Obj := .map (W2 enc l 0).toArray l.length
def A2n (k : κ) : List (κ × Value) → Nat → Option (Nat × Value)
 | [], _ => none
 | p :: l, i => if k = p.1 then some (i, p.2) else A2n k l (i + 1)
def m0 (k : κ) : List (κ × Value) → Option Value
 | [] => none
 | p :: l => if k = p.1 then some p.2 else m0 k l
def l9 (k : κ) (v : Value) : List (κ × Value) → List (κ × Value)
 | [] => [(k, v)]
 | p :: l => if k = p.1 then (k, v) :: l else p :: l9 k v l
theorem C0m (k k' : κ) (v : Value) (l : List (κ × Value)) : m0 k' (l9 k v l) = if k' = k then some v else m0 k' l := by
 induction l with
 | nil => simp [l9, m0]
 | cons p l ih =>
  simp only [l9]
  by_cases h : k = p.1
  ·rw [if_pos h]; simp only [m0]
   by_cases h' : k' = k
   ·rw [if_pos h', if_pos h']
   ·rw [if_neg h', if_neg h', if_neg (by rw [← h]; exact h')]
  ·rw [if_neg h]; simp only [m0, ih]
   by_cases h' : k' = p.1
   ·rw [if_pos h', if_pos h', if_neg (by rw [h']; exact fun e => h e.symm)]
   ·rw [if_neg h', if_neg h']
theorem B9W (k : κ) (l : List (κ × Value)) (i : Nat) : (A2n k l i).map (·.2) = m0 k l := by
 induction l generalizing i with
 | nil => rfl
 | cons p l ih => simp only [A2n, m0]; split <;> simp [ih]
@[simp] theorem D0A {α : Type} (enc : α → Value) (l : List (α × Value)) (i : Nat) : (W2 enc l i).length = l.length := by
 induction l generalizing i with
 | nil => rfl
 | cons p l ih => simp [W2, ih]
theorem B68 {α : Type} (enc : α → Value) (l m : List (α × Value)) (i : Nat) : W2 enc (l ++ m) i = W2 enc l i ++ W2 enc m (i + l.length) := by
 induction l generalizing i with
 | nil => simp [W2]
 | cons p l ih => simp only [List.cons_append, W2, ih, List.length_cons]; congr 3; omega
theorem C0j (k : κ) (v : Value) (l : List (κ × Value)) (j : Nat) (h : A2n k l j = none) : l9 k v l = l ++ [(k, v)] := by
 induction l generalizing j with
 | nil => rfl
 | cons p l ih =>
  simp only [A2n] at h
  split at h
  ·cases h
  ·rename_i hn; simp only [l9, if_neg hn, List.cons_append, ih _ h]
theorem C1N (enc : κ → Value) (k : κ) (v : Value) (l : List (κ × Value)) : ∀ (j n : Nat) (u : Value), A2n k l j = some (n, u) → j ≤ n ∧ n < j + l.length ∧ ((W2 enc l j)[n - j]?).map (·.key) = some (enc k) ∧
  W2 enc (l9 k v l) j = (W2 enc l j).modify (n - j) (fun e => { e with key := enc k, val := v }) := by
 induction l with
 | nil => intro j n u h; cases h
 | cons p l ih =>
  intro j n u h
  simp only [A2n] at h
  split at h
  ·rename_i hk; cases h
   refine ⟨Nat.le_refl _, by simp, by simp [W2, hk], ?_⟩
   simp only [l9, if_pos hk, W2, Nat.sub_self, List.modify_zero_cons]
  ·rename_i hn
   obtain ⟨h1, h2, h3, h4⟩ := ih _ _ _ h
   have e : n - j = n - (j + 1) + 1 := by omega
   refine ⟨by omega, by simp only [List.length_cons]; omega, by rw [e]; simpa [W2] using h3, ?_⟩
   simp only [l9, if_neg hn, W2, e, List.modify_succ_cons, h4]
structure KeyT (P : Program) (kt : TypeId) (enc : κ → Value) : Prop where
 find : ∀ k l j w, (Instr.findKey kt (enc k) (W2 enc l j)).run P w = .ok (A2n k l 0) w
 check : ∀ k e w, (Instr.checkKey e 10000 kt (enc k)).run P w = .ok () w
 stays : ∀ k, Instr.sameBits 10000 (enc k) (enc k) = true
theorem A8Z {d : TypeDesc} {enc : κ → Value} (hs : ∀ a b, Instr.sameNow d (enc a) (enc b) = some (decide (a = b))) (k : κ) (l : List (κ × Value)) : ∀ j i, Instr.findNow d (enc k) (W2 enc l j) i = some (A2n k l i) := by
 induction l with
 | nil => intro j i; rfl
 | cons p l ih =>
  intro j i
  simp only [W2, Instr.findNow, hs, A2n]
  by_cases h : k = p.1
  ·simp [h]
  ·simp [h, ih]
end
theorem KeyT.int {P : Program} {kt : TypeId} {n m : Nat} {z : Value} (h : TI P kt (.int .i64) n m z) : KeyT P kt (fun a : Int => Value.int .i64 a) := by
 refine ⟨fun k l j w => ?_, fun k e w => ?_, fun k => ?_⟩
 ·exact MapKept.run_findKey h.und (A8Z (fun a b => by simp [Instr.sameNow]; exact B2J a b) k l j 0)
 ·exact MapKept.run_checkKey h.und (by trivial) e 9999
 ·simp [Instr.sameBits]
theorem KeyT.string {P : Program} {kt : TypeId} {n m : Nat} {z : Value} (h : TI P kt .string n m z) : KeyT P kt Value.string := by
 refine ⟨fun k l j w => ?_, fun k e w => ?_, fun k => ?_⟩
 ·exact MapKept.run_findKey h.und (A8Z (fun a b => by simp only [Instr.sameNow, B93]) k l j 0)
 ·exact MapKept.run_checkKey h.und (by trivial) e 9999
 ·simp only [Instr.sameBits, B93, decide_true]
section
variable {κ : Type} [DecidableEq κ] {enc : κ → Value} {σ : Bool} {P : Program} {X : Nat → Prop} {S : List Nat} {w0 : World} {H H' : List Res} {K : Value → WP} {K0 : WP} {t kt et : TypeId} {n m n2 m2 : Nat} {z z2 : Value} {d : TypeDesc}
theorem B7N {α : Type} (enc : α → Value) (hK : ∀ r, TW σ S w0 (.pt r (n8 enc []) :: H) (K (.map (some r)))) : TW σ S w0 H (B1 P X (Instr.makeMap t none) K) := fun w hw => by
 have : (Instr.makeMap t none).run P w = .ok (.map (some (sz w))) (w.alloc (n8 enc [])) := by simp [Instr.makeMap, run_newObj, n8, W2, sz]
 rw [W5 this (Sk.alloc X w _ (Or.inl rfl))]
 exact hK _ _ (hw.new rfl (Or.inl rfl))
theorem B0z (hm : TI P t (.map kt et) n m z) (he : TI P et d n2 m2 z2) (hk : KeyT P kt enc) {r : Nat} {l : List (κ × Value)} {k : κ} (hr : Res.pt r (n8 enc l) ∈ H) :
  TW σ S w0 H (A6 P (Instr.lookup t (.map (some r)) (enc k) false) K) = TW σ S w0 H (K ((m0 k l).getD z2)) := TW.congr fun w hw => by
 have hb : w.heap[r]? = some (.map (W2 enc l 0).toArray l.length) := hw.pt hr
 refine T0 ?_ K
 have h1 : (getObj r).run P w = .ok (.map (W2 enc l 0).toArray l.length) w := MapKept.run_getObj_map hb
 simp only [Instr.lookup, Sem.run_bind, hm.run_und, Result.andThen_ok, h1, Sem.run_pure, hk.check, hk.find]
 rw [← B9W k l 0]
 cases A2n k l 0 with
 | none => simp [he.run_zero]
 | some p => simp
theorem B03 (hm : TI P t (.map kt et) n m z) (hk : KeyT P kt enc) {r : Nat} {l : List (κ × Value)} {k : κ} {v : Value} (hu : Up (.pt r (n8 enc l)) (.pt r (n8 enc (l9 k v l))) H H') (hK : TW σ S w0 H' K0) :
  TW σ S w0 H (B4 P X (Instr.mapUpdate t (.map (some r)) (enc k) v) K0) := fun w hw => by
 have hmem : Res.pt r (n8 enc l) ∈ H := by obtain ⟨A, B, rfl, _⟩ := hu.parts; simp
 have hb0 := hw.pt hmem
 have hb : w.heap[r]? = some (.map (W2 enc l 0).toArray l.length) := hb0
 have h1 : (getObj r).run P w = .ok (.map (W2 enc l 0).toArray l.length) w := MapKept.run_getObj_map hb
 have hrun : (Instr.mapUpdate t (.map (some r)) (enc k) v).run P w = .ok () (World.putb w r (n8 enc (l9 k v l))) := by
  simp only [Instr.mapUpdate, Sem.run_bind, hm.run_und, Result.andThen_ok, h1, hk.check, hk.find]
  cases hf : A2n k l 0 with
  | none =>
   have e := C0j k v l 0 hf
   simp [n8, e, B68, W2, World.putb, MapKept.run_setObj_map _ hb]
  | some p =>
   obtain ⟨i, u⟩ := p
   obtain ⟨_, h2, h3, h4⟩ := C1N enc k v l 0 i u hf
   have hl : (l9 k v l).length = l.length := by
    have := congrArg List.length h4; simpa using this
   simp only [Nat.sub_zero] at h3 h4
   simp [n8, h4, hl, World.putb, MapKept.run_setObj_map _ hb, Instr.keyThatStays, h3, hk.stays]
 have hks : KS σ [r] w (World.putb w r (n8 enc (l9 k v l))) := by
  refine ((C0.refl [r] w).putb _ (Or.inl (by simp))).ks fun _ => ?_
  have h2 : ∀ (q : Nat) x, (∀ c T, x ≠ Obj.map c T) → w.heap[q]? = some x → (World.putb w r (n8 enc (l9 k v l))).heap[q]? = some x := fun q x hx e => by
   have : r ≠ q := by rintro rfl; rw [hb] at e; cases e; exact hx _ _ rfl
   exact (m7 (w := w) (o := n8 enc (l9 k v l)) this).trans e
  exact ⟨by simp [World.putb], fun q d => h2 q _ (by simp), fun q lo _ => h2 q _ (by simp), rfl, rfl⟩
 have hsk : Sk X w (World.putb w r (n8 enc (l9 k v l))) := by
  have h2 : ∀ (q : Nat) x, (∀ c T, x ≠ Obj.map c T) → w.heap[q]? = some x → (World.putb w r (n8 enc (l9 k v l))).heap[q]? = some x := fun q x hx e => by
   have : r ≠ q := by rintro rfl; rw [hb] at e; cases e; exact hx _ _ rfl
   exact (m7 (w := w) (o := n8 enc (l9 k v l)) this).trans e
  exact ⟨by simp [World.putb], fun q d => h2 q _ (by simp), fun q lo _ => h2 q _ (by simp), rfl, rfl⟩
 rw [B98 hrun hsk]
 refine hK _ (hw.up hu ⟨hks, ?_, ?_, by simp⟩)
 ·simp only [List.mem_singleton, forall_eq, Res.holds]; exact ⟨U8 (K1 hb0), rfl⟩
 ·simp only [List.mem_singleton, forall_eq, Res.foot]; exact ⟨Or.inl (by simp), by have := K1 hb0; simpa using this⟩
end
end Go.Proofs.YtggakcpabomliaaGreat
namespace Go.Proofs.YtggakcpabomliaaGreat
open Go
def B1n (X : Nat → Prop) (t0 t1 : Value) (R : Value → WP) : WP :=
 B1 PR X (Instr.box 164 t0) fun t2 =>
 jn (n := 2) (fun t4 t5 =>
 B1 PR X (Instr.alloc 222 true (.tuple #[])) fun t6 =>
 B2 PR X 147 [t6, (.int .i64 1610612736), (.int .i64 4)] fun t34 =>
 A2 PR (A7 .len #[9] 0 [t1]) fun t36 =>
 B2 PR X 147 [t6, t36, (.int .i64 2)] fun t37 =>
 A2 PR (Instr.fieldAt 164 t2 2) fun t38 =>
 A6 PR (Instr.loadAt 3 t38) fun t39 =>
 B2 PR X 147 [t6, t39, (.int .i64 1)] fun t40 =>
 B2 PR X 147 [t6, (.int .i64 64), (.int .i64 1)] fun t41 =>
 jn (n := 1) (fun t49 =>
 A2 PR (Instr.fieldAt 222 t6 0) fun t57 =>
 B2 PR X 149 [t57] fun t58 =>
 R (.tuple #[t58, (.int .i64 0)])) fun J1 =>
 A2 PR (Instr.fieldAt 164 t2 0) fun t42 =>
 A6 PR (Instr.loadAt 9 t42) fun t43 =>
 A2 PR (Instr.fieldAt 164 t2 1) fun t44 =>
 A6 PR (Instr.loadAt 9 t44) fun t45 =>
 B1 PR X (Instr.buildSlice 57 3 #[(0, t43), (1, t45), (2, t1)]) fun t47 =>
 A2 PR (A7 .len #[57] 0 [t47]) fun t48 =>
 lp (n := 1) (fun L2 t49_1 =>
 A2 PR (binOp .lss 3 t49_1 t48) fun t50 =>
 jn (n := 0) (
 jn (n := 0) (
 A2 PR (binOp .add 3 t49_1 (.int .i64 1)) fun t56 =>
 L2 t56) fun J3 =>
 A2 PR (Instr.indexAt 57 t47 t49_1) fun t51 =>
 A6 PR (Instr.loadAt 9 t51) fun t52 =>
 A2 PR (Instr.fieldAt 222 t6 0) fun t53 =>
 B2 PR X 148 [t53, t52] fun t55 =>
 J3) fun J4 =>
 B6 t50 (
 J4) (
 J1 t49_1)) (.int .i64 0)) fun J5 =>
 A2 PR (Instr.fieldAt 164 t2 0) fun t10 =>
 A6 PR (Instr.loadAt 9 t10) fun t11 =>
 A2 PR (A7 .len #[9] 0 [t11]) fun t12 =>
 A2 PR (binOp .neq 3 t12 (.int .i64 16)) fun t13 =>
 gj t13 false (fun J => A2 PR (Instr.fieldAt 164 t2 1) J) fun t15 =>
 gj t13 false (fun J => A6 PR (Instr.loadAt 9 t15) J) fun t16 =>
 gj t13 false (fun J => A2 PR (A7 .len #[9] 0 [t16]) J) fun t17 =>
 gj t13 false (fun J => A2 PR (binOp .neq 3 t17 (.int .i64 16)) J) fun t18 =>
 A2 PR (do pure (if ← asBool t13 then (.bool true) else t18)) fun t19 =>
 gj t19 false (fun J => A2 PR (Instr.fieldAt 164 t2 2) J) fun t21 =>
 gj t19 false (fun J => A6 PR (Instr.loadAt 3 t21) J) fun t22 =>
 gj t19 false (fun J => A2 PR (binOp .lss 3 t22 (.int .i64 0)) J) fun t23 =>
 A2 PR (do pure (if ← asBool t19 then (.bool true) else t23)) fun t24 =>
 gj t24 false (fun J => A2 PR (Instr.fieldAt 164 t2 2) J) fun t26 =>
 gj t24 false (fun J => A6 PR (Instr.loadAt 3 t26) J) fun t27 =>
 gj t24 false (fun J => A2 PR (binOp .gtr 3 t27 (.int .i64 255)) J) fun t28 =>
 A2 PR (do pure (if ← asBool t24 then (.bool true) else t28)) fun t29 =>
 B6 t29 (
 R (.tuple #[(.string (ByteArray.mk #[])), (.int .i64 1)])) (
 A2 PR (A7 .len #[9] 0 [t1]) fun t32 =>
 A2 PR (binOp .gtr 3 t32 (.int .i64 65535)) fun t33 =>
 B6 t33 (
 R (.tuple #[(.string (ByteArray.mk #[])), (.int .i64 4)])) (
 J5 (.string (ByteArray.mk #[])) (.int .i64 0)))
theorem B7A : B0 PR 102 := A8 Tryz.func102 (by kernel_rfl) rfl
theorem B87 {X : Nat → Prop} {t0 t1 : Value} {R : Value → WP} {w : World} (h : B1n X t0 t1 R w) : Fn PR X 102 #[t0, t1] w R := C7 (args := [t0, t1]) mixed Tryz.func102 (by kernel_rfl) h
def A1Q (X : Nat → Prop) (t0 t1 t2 : Value) (R : Value → WP) : WP :=
 drw <|
 A2 PR (P8 t0) fun t7 =>
 A2 PR (Instr.fieldAt 222 t7 0) fun t8 =>
 A2 PR (convert 3 68 t1) fun t10 =>
 B2 PR X 151 [t10, t2] fun t12 =>
 B2 PR X 148 [t8, t12] fun t13 =>
 R (.tuple #[])
theorem V9 : B0 PR 147 := A8 Tryz.func147 (by kernel_rfl) rfl
theorem A7S {X : Nat → Prop} {t0 t1 t2 : Value} {R : Value → WP} {w : World} (h : A1Q X t0 t1 t2 R w) : Fn PR X 147 #[t0, t1, t2] w R := C7 (args := [t0, t1, t2]) mixed Tryz.func147 (by kernel_rfl) h
def A8S (X : Nat → Prop) (t0 : Value) (R : Value → WP) : WP :=
 B1 PR X (Instr.alloc 164 true (.tuple #[])) fun t2 =>
 jn (n := 2) (fun t3 t4 =>
 jn (n := 2) (fun t3_1 t4_1 =>
 B1 PR X (Instr.buildSlice 34 6 #[(0, (.int .i64 4)), (1, (.int .i64 2)), (2, (.int .i64 1)), (3, (.int .i64 1)), (4, (.int .i64 16)), (5, (.int .i64 16))]) fun t19 =>
 B2 PR X 213 [t0, t19] fun t20 =>
 A2 PR (Instr.indexAt 57 t20 (.int .i64 1)) fun t23 =>
 A6 PR (Instr.loadAt 9 t23) fun t24 =>
 B2 PR X 192 [t24, (.int .i64 0), (.int .i64 2)] fun t25 =>
 A2 PR (Instr.extract t25 0) fun t26 =>
 A2 PR (Instr.extract t25 1) fun t27 =>
 A2 PR (Instr.indexAt 57 t20 (.int .i64 6)) fun t29 =>
 A6 PR (Instr.loadAt 9 t29) fun t30 =>
 jn (n := 2) (fun t3_2 t4_2 =>
 drw <|
 A2 PR (Instr.indexAt 57 t20 (.int .i64 4)) fun t38 =>
 A6 PR (Instr.loadAt 9 t38) fun t39 =>
 A2 PR (Instr.indexAt 57 t20 (.int .i64 5)) fun t41 =>
 A6 PR (Instr.loadAt 9 t41) fun t42 =>
 A2 PR (Instr.indexAt 57 t20 (.int .i64 2)) fun t44 =>
 A6 PR (Instr.loadAt 9 t44) fun t45 =>
 A2 PR (Instr.index 9 t45 (.int .i64 0)) fun t46 =>
 A2 PR (convert 5 3 t46) fun t47 =>
 A2 PR (Instr.build 164 #[(0, t39), (1, t42), (2, t47)]) fun t48 =>
 A2 PR (Instr.sliceAt 9 t30 none (some t26) none) fun t51 =>
 B4 PR X (Instr.storeAt 164 t2 t48) <|
 A6 PR (E0 [.c 164 t2, .v t51, .v (.int .i64 0)]) R) fun J1 =>
 A2 PR (A7 .len #[9] 0 [t30]) fun t33 =>
 A2 PR (convert 3 68 t33) fun t34 =>
 A2 PR (binOp .gtr 68 t26 t34) fun t35 =>
 B6 t35 (
 A2 PR (Instr.build 164 #[]) fun t36 =>
 B4 PR X (Instr.storeAt 164 t2 t36) <|
 A6 PR (E0 [.c 164 t2, .v (.string (ByteArray.mk #[])), .v (.int .i64 4)]) R) (
 J1 t3_1 t4_1)) fun J2 =>
 A2 PR (Instr.index 9 t0 (.int .i64 0)) fun t14 =>
 A2 PR (binOp .shr 5 t14 (.int .u64 4)) fun t15 =>
 A2 PR (binOp .neq 5 t15 (.int .u8 6)) fun t16 =>
 B6 t16 (
 A2 PR (Instr.build 164 #[]) fun t17 =>
 B4 PR X (Instr.storeAt 164 t2 t17) <|
 A6 PR (E0 [.c 164 t2, .v (.string (ByteArray.mk #[])), .v (.int .i64 3)]) R) (
 J2 t3 t4)) fun J3 =>
 A2 PR (A7 .len #[9] 0 [t0]) fun t10 =>
 A2 PR (binOp .lss 3 t10 (.int .i64 40)) fun t11 =>
 B6 t11 (
 A2 PR (Instr.build 164 #[]) fun t12 =>
 B4 PR X (Instr.storeAt 164 t2 t12) <|
 A6 PR (E0 [.c 164 t2, .v (.string (ByteArray.mk #[])), .v (.int .i64 2)]) R) (
 J3 (.string (ByteArray.mk #[])) (.int .i64 0))
theorem B31 : B0 PR 190 := A8 Tryz.func190 (by kernel_rfl) rfl
theorem B5x {X : Nat → Prop} {t0 : Value} {R : Value → WP} {w : World} (h : A8S X t0 R w) : Fn PR X 190 #[t0] w R := C7 (args := [t0]) mixed Tryz.func190 (by kernel_rfl) h
def B1A (X : Nat → Prop) (t0 t1 : Value) (R : Value → WP) : WP :=
 jn (n := 3) (fun t5 t0_1 t10 =>
 B1 PR X (Instr.buildSlice 57 1 #[(0, t0_1)]) fun t26 =>
 B1 PR X (A7 .append #[57, 57] 57 [t5, t26]) fun t27 =>
 R t27) fun J1 =>
 A2 PR (A7 .len #[34] 0 [t1]) fun t9 =>
 lp (n := 3) (fun L2 t5_1 t0_2 t10_1 =>
 A2 PR (binOp .lss 3 t10_1 t9) fun t11 =>
 jn (n := 0) (
 jn (n := 2) (fun t5_2 t0_3 =>
 A2 PR (binOp .add 3 t10_1 (.int .i64 1)) fun t23 =>
 L2 t5_2 t0_3 t23) fun J3 =>
 A2 PR (Instr.indexAt 34 t1 t10_1) fun t12 =>
 A6 PR (Instr.loadAt 3 t12) fun t13 =>
 A2 PR (Instr.sliceAt 9 t0_2 none (some t13) none) fun t17 =>
 B1 PR X (Instr.buildSlice 57 1 #[(0, t17)]) fun t18 =>
 B1 PR X (A7 .append #[57, 57] 57 [t5_1, t18]) fun t19 =>
 A2 PR (Instr.sliceAt 9 t0_2 (some t13) none none) fun t22 =>
 J3 t19 t22) fun J4 =>
 B6 t11 (
 J4) (
 J1 t5_1 t0_2 t10_1)) (.slice none 0 0) t0 (.int .i64 0)
theorem B6d : B0 PR 213 := A8 Tryz.func213 (by kernel_rfl) rfl
theorem B8U {X : Nat → Prop} {t0 t1 : Value} {R : Value → WP} {w : World} (h : B1A X t0 t1 R w) : Fn PR X 213 #[t0, t1] w R := C7 (args := [t0, t1]) mixed Tryz.func213 (by kernel_rfl) h
end Go.Proofs.YtggakcpabomliaaGreat
namespace Go.Proofs.YtggakcpabomliaaGreat
open Go
def B1l (X : Nat → Prop) (t0 t1 : Value) (R : Value → WP) : WP :=
 B1 PR X (Instr.box 166 t0) fun t2 =>
 B1 PR X (Instr.box 9 t1) fun t3 =>
 jn (n := 2) (fun t4 t5 =>
 A2 PR (Instr.makeFunc (.func 150) #[] #[t3, t2]) fun t32 =>
 drw <|
 A6 PR (Instr.loadAt 9 t3) fun t38 =>
 L5 PR X t32 [(.int .i64 0)] fun t35 =>
 watch PR [(none, (Instr.loadAt 9 t3), t38)] <|
 B2 PR X 152 [t35] fun t36 =>
 watch PR [(none, (Instr.loadAt 9 t3), t38)] <|
 L5 PR X t32 [t36] fun t37 =>
 watch PR [(none, (Instr.loadAt 9 t3), t38)] <|
 A2 PR (binOp .add 9 t37 t38) fun t39 =>
 R (.tuple #[t39, (.int .i64 0)])) fun J1 =>
 A2 PR (Instr.fieldAt 166 t2 0) fun t8 =>
 A6 PR (Instr.loadAt 9 t8) fun t9 =>
 A2 PR (A7 .len #[9] 0 [t9]) fun t10 =>
 A2 PR (binOp .neq 3 t10 (.int .i64 4)) fun t11 =>
 gj t11 false (fun J => A2 PR (Instr.fieldAt 166 t2 1) J) fun t13 =>
 gj t11 false (fun J => A6 PR (Instr.loadAt 9 t13) J) fun t14 =>
 gj t11 false (fun J => A2 PR (A7 .len #[9] 0 [t14]) J) fun t15 =>
 gj t11 false (fun J => A2 PR (binOp .neq 3 t15 (.int .i64 4)) J) fun t16 =>
 A2 PR (do pure (if ← asBool t11 then (.bool true) else t16)) fun t17 =>
 gj t17 false (fun J => A2 PR (Instr.fieldAt 166 t2 2) J) fun t19 =>
 gj t17 false (fun J => A6 PR (Instr.loadAt 3 t19) J) fun t20 =>
 gj t17 false (fun J => A2 PR (binOp .lss 3 t20 (.int .i64 0)) J) fun t21 =>
 A2 PR (do pure (if ← asBool t17 then (.bool true) else t21)) fun t22 =>
 gj t22 false (fun J => A2 PR (Instr.fieldAt 166 t2 2) J) fun t24 =>
 gj t22 false (fun J => A6 PR (Instr.loadAt 3 t24) J) fun t25 =>
 gj t22 false (fun J => A2 PR (binOp .gtr 3 t25 (.int .i64 255)) J) fun t26 =>
 A2 PR (do pure (if ← asBool t22 then (.bool true) else t26)) fun t27 =>
 B6 t27 (
 R (.tuple #[(.string (ByteArray.mk #[])), (.int .i64 1)])) (
 A6 PR (Instr.loadAt 9 t3) fun t29 =>
 A2 PR (A7 .len #[9] 0 [t29]) fun t30 =>
 A2 PR (binOp .gtr 3 t30 (.int .i64 65515)) fun t31 =>
 B6 t31 (
 R (.tuple #[(.string (ByteArray.mk #[])), (.int .i64 4)])) (
 J1 (.string (ByteArray.mk #[])) (.int .i64 0)))
theorem B6J : B0 PR 103 := A8 Tryz.func103 (by kernel_rfl) rfl
theorem B8j {X : Nat → Prop} {t0 t1 : Value} {R : Value → WP} {w : World} (h : B1l X t0 t1 R w) : Fn PR X 103 #[t0, t1] w R := C7 (args := [t0, t1]) mixed Tryz.func103 (by kernel_rfl) h
def A7u (X : Nat → Prop) (t0 t1 t2 : Value) (R : Value → WP) : WP :=
 drw <|
 A6 PR (Instr.loadAt 9 t1) fun t5 =>
 A2 PR (A7 .len #[9] 0 [t5]) fun t6 =>
 A2 PR (binOp .add 3 (.int .i64 20) t6) fun t7 =>
 A2 PR (convert 3 68 t7) fun t8 =>
 A2 PR (Instr.fieldAt 166 t2 2) fun t12 =>
 A6 PR (Instr.loadAt 3 t12) fun t13 =>
 A2 PR (convert 3 68 t13) fun t14 =>
 A2 PR (convert 3 68 t0) fun t18 =>
 A2 PR (Instr.fieldAt 166 t2 0) fun t21 =>
 A6 PR (Instr.loadAt 9 t21) fun t22 =>
 A2 PR (Instr.fieldAt 166 t2 1) fun t24 =>
 A6 PR (Instr.loadAt 9 t24) fun t25 =>
 B2 PR X 151 [t8, (.int .i64 2)] fun t9 =>
 watch PR [(none, (Instr.loadAt 9 t24), t25), (none, (Instr.loadAt 9 t21), t22), (none, (Instr.loadAt 3 t12), t13)] <|
 A2 PR (binOp .add 9 (.string (ByteArray.mk #[69, 0])) t9) fun t10 =>
 A2 PR (binOp .add 9 t10 (.string (ByteArray.mk #[0, 0, 64, 0, 64]))) fun t11 =>
 B2 PR X 151 [t14, (.int .i64 1)] fun t15 =>
 watch PR [(none, (Instr.loadAt 9 t24), t25), (none, (Instr.loadAt 9 t21), t22)] <|
 A2 PR (binOp .add 9 t11 t15) fun t16 =>
 B2 PR X 151 [t18, (.int .i64 2)] fun t19 =>
 watch PR [(none, (Instr.loadAt 9 t24), t25), (none, (Instr.loadAt 9 t21), t22)] <|
 A2 PR (binOp .add 9 t16 t19) fun t20 =>
 A2 PR (binOp .add 9 t20 t22) fun t23 =>
 A2 PR (binOp .add 9 t23 t25) fun t26 =>
 R t26
theorem A6y : B0 PR 150 := A8 Tryz.func150 (by kernel_rfl) rfl
theorem B38 {X : Nat → Prop} {t0 t1 t2 : Value} {R : Value → WP} {w : World} (h : A7u X t0 t1 t2 R w) : Fn PR X 150 #[t0, t1, t2] w R := C7 (args := [t0, t1, t2]) mixed Tryz.func150 (by kernel_rfl) h
def A8l (X : Nat → Prop) (t0 : Value) (R : Value → WP) : WP :=
 B1 PR X (Instr.box 9 t0) fun t1 =>
 B1 PR X (Instr.alloc 166 true (.tuple #[])) fun t2 =>
 A2 PR (Instr.makeFunc (.func 205) #[] #[t1]) fun t9 =>
 B1 PR X (Instr.alloc 152 true (.tuple #[])) fun t5 =>
 B4 PR X (Instr.storeAt 152 t5 t9) <|
 drw <|
 kt (n := 2) (fun t6 t7 =>
 A2 PR (Instr.makeFunc (.func 207) #[] #[t1]) fun t16 =>
 A2 PR (Instr.build 300 #[(0, t16), (1, (.int .i64 2))]) fun t17 =>
 A2 PR (Instr.makeFunc (.func 208) #[] #[t5]) fun t18 =>
 A2 PR (Instr.build 300 #[(0, t18), (1, (.int .i64 3))]) fun t19 =>
 A2 PR (Instr.makeFunc (.func 209) #[] #[t6, t1, t7]) fun t20 =>
 A2 PR (Instr.build 300 #[(0, t20), (1, (.int .i64 4))]) fun t21 =>
 A2 PR (Instr.makeFunc (.func 210) #[] #[t1, t6]) fun t22 =>
 A2 PR (Instr.build 300 #[(0, t22), (1, (.int .i64 5))]) fun t23 =>
 A2 PR (Instr.makeFunc (.func 212) #[] #[t5]) fun t24 =>
 A2 PR (Instr.build 300 #[(0, t24), (1, (.int .i64 6))]) fun t25 =>
 B1 PR X (Instr.buildSlice 314 5 #[(0, t17), (1, t19), (2, t21), (3, t23), (4, t25)]) fun t26 =>
 B2 PR X 206 [t26] fun t27 =>
 jn (n := 2) (fun t3 t4 =>
 drw <|
 A6 PR (Instr.loadAt 9 t1) fun t32 =>
 A2 PR (Instr.sliceAt 9 t32 (some (.int .i64 12)) (some (.int .i64 16)) none) fun t33 =>
 A6 PR (Instr.loadAt 9 t1) fun t34 =>
 A2 PR (Instr.sliceAt 9 t34 (some (.int .i64 16)) (some (.int .i64 20)) none) fun t35 =>
 A6 PR (Instr.loadAt 152 t5) fun t36 =>
 A6 PR (Instr.loadAt 9 t1) fun t39 =>
 A6 PR (Instr.loadAt 3 t6) fun t40 =>
 A6 PR (Instr.loadAt 3 t7) fun t41 =>
 A2 PR (Instr.sliceAt 9 t39 (some t40) (some t41) none) fun t42 =>
 L5 PR X t36 [(.int .i64 9), (.int .i64 1)] fun t37 =>
 watch PR [(none, (Instr.loadAt 3 t7), t41), (none, (Instr.loadAt 3 t6), t40), (none, (Instr.loadAt 9 t1), t39), (none, (Instr.loadAt 9 t1), t34), (none, (Instr.loadAt 9 t1), t32)] <|
 A2 PR (Instr.build 166 #[(0, t33), (1, t35), (2, t37)]) fun t38 =>
 B4 PR X (Instr.storeAt 166 t2 t38) <|
 watch PR [(none, (Instr.loadAt 3 t7), t41), (none, (Instr.loadAt 3 t6), t40), (none, (Instr.loadAt 9 t1), t39)] <|
 A6 PR (E0 [.c 166 t2, .v t42, .v (.int .i64 0)]) R) fun J1 =>
 A2 PR (binOp .neq 28 t27 (.int .i64 0)) fun t29 =>
 B6 t29 (
 A2 PR (Instr.build 166 #[]) fun t30 =>
 B4 PR X (Instr.storeAt 166 t2 t30) <|
 A6 PR (E0 [.c 166 t2, .v (.string (ByteArray.mk #[])), .v t27]) R) (
 J1 (.string (ByteArray.mk #[])) (.int .i64 0))) fun C2 =>
 A6 PR (Instr.loadAt 152 t5) fun t10_1 =>
 A6 PR (Instr.loadAt 152 t5) fun t14_1 =>
 both (L5 PR X t10_1 [(.int .i64 0), (.int .i64 1)] fun t11_5 =>
 watch PR [(none, (Instr.loadAt 152 t5), t14_1)] <|
 A2 PR (binOp .and 3 t11_5 (.int .i64 15)) fun t12_5 =>
 A2 PR (binOp .mul 3 t12_5 (.int .i64 4)) fun t13_5 =>
 both (L5 PR X t14_1 [(.int .i64 2), (.int .i64 2)] fun t15_11 =>
 both (B1 PR X (Instr.alloc 3 true (.tuple #[])) fun t6_9 =>
 B1 PR X (Instr.alloc 3 true (.tuple #[])) fun t7_9 =>
 B4 PR X (Instr.storeAt 3 t6_9 t13_5) <|
 B4 PR X (Instr.storeAt 3 t7_9 t15_11) <|
 C2 t6_9 t7_9) (both (B1 PR X (Instr.alloc 3 true (.tuple #[])) fun t7_8 =>
 B1 PR X (Instr.alloc 3 true (.tuple #[])) fun t6_8 =>
 B4 PR X (Instr.storeAt 3 t6_8 t13_5) <|
 B4 PR X (Instr.storeAt 3 t7_8 t15_11) <|
 C2 t6_8 t7_8) ((fun _ => True)))) (both (B1 PR X (Instr.alloc 3 true (.tuple #[])) fun t6_7 =>
 watch PR [(none, (Instr.loadAt 152 t5), t14_1)] <|
 both (L5 PR X t14_1 [(.int .i64 2), (.int .i64 2)] fun t15_10 =>
 B1 PR X (Instr.alloc 3 true (.tuple #[])) fun t7_7 =>
 B4 PR X (Instr.storeAt 3 t6_7 t13_5) <|
 B4 PR X (Instr.storeAt 3 t7_7 t15_10) <|
 C2 t6_7 t7_7) (both (B1 PR X (Instr.alloc 3 true (.tuple #[])) fun t7_6 =>
 watch PR [(none, (Instr.loadAt 152 t5), t14_1)] <|
 L5 PR X t14_1 [(.int .i64 2), (.int .i64 2)] fun t15_9 =>
 B4 PR X (Instr.storeAt 3 t6_7 t13_5) <|
 B4 PR X (Instr.storeAt 3 t7_6 t15_9) <|
 C2 t6_7 t7_6) ((fun _ => True)))) (both (B1 PR X (Instr.alloc 3 true (.tuple #[])) fun t7_5 =>
 watch PR [(none, (Instr.loadAt 152 t5), t14_1)] <|
 both (L5 PR X t14_1 [(.int .i64 2), (.int .i64 2)] fun t15_8 =>
 B1 PR X (Instr.alloc 3 true (.tuple #[])) fun t6_6 =>
 B4 PR X (Instr.storeAt 3 t6_6 t13_5) <|
 B4 PR X (Instr.storeAt 3 t7_5 t15_8) <|
 C2 t6_6 t7_5) (both (B1 PR X (Instr.alloc 3 true (.tuple #[])) fun t6_5 =>
 watch PR [(none, (Instr.loadAt 152 t5), t14_1)] <|
 L5 PR X t14_1 [(.int .i64 2), (.int .i64 2)] fun t15_7 =>
 B4 PR X (Instr.storeAt 3 t6_5 t13_5) <|
 B4 PR X (Instr.storeAt 3 t7_5 t15_7) <|
 C2 t6_5 t7_5) ((fun _ => True)))) ((fun _ => True))))) (both (B1 PR X (Instr.alloc 3 true (.tuple #[])) fun t6_4 =>
 watch PR [(none, (Instr.loadAt 152 t5), t14_1), (none, (Instr.loadAt 152 t5), t10_1)] <|
 both (L5 PR X t10_1 [(.int .i64 0), (.int .i64 1)] fun t11_4 =>
 watch PR [(none, (Instr.loadAt 152 t5), t14_1)] <|
 A2 PR (binOp .and 3 t11_4 (.int .i64 15)) fun t12_4 =>
 A2 PR (binOp .mul 3 t12_4 (.int .i64 4)) fun t13_4 =>
 both (L5 PR X t14_1 [(.int .i64 2), (.int .i64 2)] fun t15_6 =>
 B1 PR X (Instr.alloc 3 true (.tuple #[])) fun t7_4 =>
 B4 PR X (Instr.storeAt 3 t6_4 t13_4) <|
 B4 PR X (Instr.storeAt 3 t7_4 t15_6) <|
 C2 t6_4 t7_4) (both (B1 PR X (Instr.alloc 3 true (.tuple #[])) fun t7_3 =>
 watch PR [(none, (Instr.loadAt 152 t5), t14_1)] <|
 L5 PR X t14_1 [(.int .i64 2), (.int .i64 2)] fun t15_5 =>
 B4 PR X (Instr.storeAt 3 t6_4 t13_4) <|
 B4 PR X (Instr.storeAt 3 t7_3 t15_5) <|
 C2 t6_4 t7_3) ((fun _ => True)))) (both (B1 PR X (Instr.alloc 3 true (.tuple #[])) fun t7_2 =>
 watch PR [(none, (Instr.loadAt 152 t5), t14_1), (none, (Instr.loadAt 152 t5), t10_1)] <|
 L5 PR X t10_1 [(.int .i64 0), (.int .i64 1)] fun t11_3 =>
 watch PR [(none, (Instr.loadAt 152 t5), t14_1)] <|
 A2 PR (binOp .and 3 t11_3 (.int .i64 15)) fun t12_3 =>
 A2 PR (binOp .mul 3 t12_3 (.int .i64 4)) fun t13_3 =>
 L5 PR X t14_1 [(.int .i64 2), (.int .i64 2)] fun t15_4 =>
 B4 PR X (Instr.storeAt 3 t6_4 t13_3) <|
 B4 PR X (Instr.storeAt 3 t7_2 t15_4) <|
 C2 t6_4 t7_2) ((fun _ => True)))) (both (B1 PR X (Instr.alloc 3 true (.tuple #[])) fun t7_1 =>
 watch PR [(none, (Instr.loadAt 152 t5), t14_1), (none, (Instr.loadAt 152 t5), t10_1)] <|
 both (L5 PR X t10_1 [(.int .i64 0), (.int .i64 1)] fun t11_2 =>
 watch PR [(none, (Instr.loadAt 152 t5), t14_1)] <|
 A2 PR (binOp .and 3 t11_2 (.int .i64 15)) fun t12_2 =>
 A2 PR (binOp .mul 3 t12_2 (.int .i64 4)) fun t13_2 =>
 both (L5 PR X t14_1 [(.int .i64 2), (.int .i64 2)] fun t15_3 =>
 B1 PR X (Instr.alloc 3 true (.tuple #[])) fun t6_3 =>
 B4 PR X (Instr.storeAt 3 t6_3 t13_2) <|
 B4 PR X (Instr.storeAt 3 t7_1 t15_3) <|
 C2 t6_3 t7_1) (both (B1 PR X (Instr.alloc 3 true (.tuple #[])) fun t6_2 =>
 watch PR [(none, (Instr.loadAt 152 t5), t14_1)] <|
 L5 PR X t14_1 [(.int .i64 2), (.int .i64 2)] fun t15_2 =>
 B4 PR X (Instr.storeAt 3 t6_2 t13_2) <|
 B4 PR X (Instr.storeAt 3 t7_1 t15_2) <|
 C2 t6_2 t7_1) ((fun _ => True)))) (both (B1 PR X (Instr.alloc 3 true (.tuple #[])) fun t6_1 =>
 watch PR [(none, (Instr.loadAt 152 t5), t14_1), (none, (Instr.loadAt 152 t5), t10_1)] <|
 L5 PR X t10_1 [(.int .i64 0), (.int .i64 1)] fun t11_1 =>
 watch PR [(none, (Instr.loadAt 152 t5), t14_1)] <|
 A2 PR (binOp .and 3 t11_1 (.int .i64 15)) fun t12_1 =>
 A2 PR (binOp .mul 3 t12_1 (.int .i64 4)) fun t13_1 =>
 L5 PR X t14_1 [(.int .i64 2), (.int .i64 2)] fun t15_1 =>
 B4 PR X (Instr.storeAt 3 t6_1 t13_1) <|
 B4 PR X (Instr.storeAt 3 t7_1 t15_1) <|
 C2 t6_1 t7_1) ((fun _ => True)))) ((fun _ => True))))
theorem B3w : B0 PR 187 := A8 Tryz.func187 (by kernel_rfl) rfl
theorem B4k {X : Nat → Prop} {t0 : Value} {R : Value → WP} {w : World} (h : A8l X t0 R w) : Fn PR X 187 #[t0] w R := C7 (args := [t0]) mixed Tryz.func187 (by kernel_rfl) h
def A4z (X : Nat → Prop) (t0 t1 t2 : Value) (R : Value → WP) : WP :=
 A6 PR (Instr.loadAt 9 t2) fun t9 =>
 B2 PR X 192 [t9, t0, t1] fun t12 =>
 A2 PR (Instr.extract t12 0) fun t13 =>
 A2 PR (Instr.extract t12 1) fun t14 =>
 A2 PR (convert 68 3 t13) fun t16 =>
 R t16
theorem m5 : B0 PR 205 := A8 Tryz.func205 (by kernel_rfl) rfl
theorem B1W {X : Nat → Prop} {t0 t1 t2 : Value} {R : Value → WP} {w : World} (h : A4z X t0 t1 t2 R w) : Fn PR X 205 #[t0, t1, t2] w R := C7 (args := [t0, t1, t2]) mixed Tryz.func205 (by kernel_rfl) h
def A9C (X : Nat → Prop) (t0 : Value) (R : Value → WP) : WP :=
 jn (n := 2) (fun t3 t8 =>
 R t3) fun J1 =>
 A2 PR (A7 .len #[314] 0 [t0]) fun t7 =>
 lp (n := 2) (fun L2 t3_1 t8_1 =>
 A2 PR (binOp .lss 3 t8_1 t7) fun t9 =>
 jn (n := 0) (
 jn (n := 1) (fun t3_2 =>
 A2 PR (binOp .add 3 t8_1 (.int .i64 1)) fun t17 =>
 L2 t3_2 t17) fun J3 =>
 A2 PR (Instr.indexAt 314 t0 t8_1) fun t10 =>
 A6 PR (Instr.loadAt 300 t10) fun t11 =>
 B1 PR X (Instr.alloc 300 true (.tuple #[])) fun t5 =>
 B4 PR X (Instr.storeAt 300 t5 t11) <|
 A2 PR (Instr.fieldAt 300 t5 0) fun t12 =>
 A6 PR (Instr.loadAt 25 t12) fun t13 =>
 L5 PR X t13 [] fun t14 =>
 B6 t14 (
 A2 PR (Instr.fieldAt 300 t5 1) fun t15 =>
 A6 PR (Instr.loadAt 28 t15) fun t16 =>
 J1 t16 t8_1) (
 J3 t3_1)) fun J4 =>
 B6 t9 (
 J4) (
 J1 t3_1 t8_1)) (.int .i64 0) (.int .i64 0)
theorem B3u : B0 PR 206 := A8 Tryz.func206 (by kernel_rfl) rfl
theorem B6C {X : Nat → Prop} {t0 : Value} {R : Value → WP} {w : World} (h : A9C X t0 R w) : Fn PR X 206 #[t0] w R := C7 (args := [t0]) mixed Tryz.func206 (by kernel_rfl) h
def A44 (X : Nat → Prop) (t0 : Value) (R : Value → WP) : WP :=
 A6 PR (Instr.loadAt 9 t0) fun t2 =>
 A2 PR (A7 .len #[9] 0 [t2]) fun t3 =>
 A2 PR (binOp .lss 3 t3 (.int .i64 20)) fun t4 =>
 R t4
theorem B0b : B0 PR 207 := A8 Tryz.func207 (by kernel_rfl) rfl
theorem B1r {X : Nat → Prop} {t0 : Value} {R : Value → WP} {w : World} (h : A44 X t0 R w) : Fn PR X 207 #[t0] w R := C7 (args := [t0]) mixed Tryz.func207 (by kernel_rfl) h
def A43 (X : Nat → Prop) (t0 : Value) (R : Value → WP) : WP :=
 A6 PR (Instr.loadAt 152 t0) fun t2 =>
 L5 PR X t2 [(.int .i64 0), (.int .i64 1)] fun t3 =>
 A2 PR (binOp .shr 3 t3 (.int .u64 4)) fun t4 =>
 A2 PR (binOp .neq 3 t4 (.int .i64 4)) fun t5 =>
 R t5
theorem B0V : B0 PR 208 := A8 Tryz.func208 (by kernel_rfl) rfl
theorem B1K {X : Nat → Prop} {t0 : Value} {R : Value → WP} {w : World} (h : A43 X t0 R w) : Fn PR X 208 #[t0] w R := C7 (args := [t0]) mixed Tryz.func208 (by kernel_rfl) h
def A4x (X : Nat → Prop) (t0 t1 t2 : Value) (R : Value → WP) : WP :=
 A6 PR (Instr.loadAt 3 t0) fun t4 =>
 A2 PR (binOp .lss 3 t4 (.int .i64 20)) fun t5 =>
 gj t5 false (fun J => A6 PR (Instr.loadAt 3 t0) J) fun t7 =>
 gj t5 false (fun J => A6 PR (Instr.loadAt 9 t1) J) fun t8 =>
 gj t5 false (fun J => A2 PR (A7 .len #[9] 0 [t8]) J) fun t9 =>
 gj t5 false (fun J => A2 PR (binOp .gtr 3 t7 t9) J) fun t10 =>
 A2 PR (do pure (if ← asBool t5 then (.bool true) else t10)) fun t11 =>
 gj t11 false (fun J => A6 PR (Instr.loadAt 3 t2) J) fun t13 =>
 gj t11 false (fun J => A6 PR (Instr.loadAt 3 t0) J) fun t14 =>
 gj t11 false (fun J => A2 PR (binOp .lss 3 t13 t14) J) fun t15 =>
 A2 PR (do pure (if ← asBool t11 then (.bool true) else t15)) fun t16 =>
 gj t16 false (fun J => A6 PR (Instr.loadAt 3 t2) J) fun t18 =>
 gj t16 false (fun J => A6 PR (Instr.loadAt 9 t1) J) fun t19 =>
 gj t16 false (fun J => A2 PR (A7 .len #[9] 0 [t19]) J) fun t20 =>
 gj t16 false (fun J => A2 PR (binOp .gtr 3 t18 t20) J) fun t21 =>
 A2 PR (do pure (if ← asBool t16 then (.bool true) else t21)) fun t22 =>
 R t22
theorem B0y : B0 PR 209 := A8 Tryz.func209 (by kernel_rfl) rfl
theorem B1z {X : Nat → Prop} {t0 t1 t2 : Value} {R : Value → WP} {w : World} (h : A4x X t0 t1 t2 R w) : Fn PR X 209 #[t0, t1, t2] w R := C7 (args := [t0, t1, t2]) mixed Tryz.func209 (by kernel_rfl) h
def A4r (X : Nat → Prop) (t0 t1 : Value) (R : Value → WP) : WP :=
 A6 PR (Instr.loadAt 9 t0) fun t3 =>
 A6 PR (Instr.loadAt 3 t1) fun t4 =>
 A2 PR (Instr.sliceAt 9 t3 none (some t4) none) fun t5 =>
 B2 PR X 211 [t5] fun t6 =>
 A2 PR (Op.unary .not t6) fun t7 =>
 R t7
theorem B0x : B0 PR 210 := A8 Tryz.func210 (by kernel_rfl) rfl
theorem B09 {X : Nat → Prop} {t0 t1 : Value} {R : Value → WP} {w : World} (h : A4r X t0 t1 R w) : Fn PR X 210 #[t0, t1] w R := C7 (args := [t0, t1]) mixed Tryz.func210 (by kernel_rfl) h
def A4u (X : Nat → Prop) (t0 : Value) (R : Value → WP) : WP :=
 A6 PR (Instr.loadAt 152 t0) fun t2 =>
 L5 PR X t2 [(.int .i64 6), (.int .i64 2)] fun t3 =>
 A2 PR (binOp .and 3 t3 (.int .i64 16383)) fun t4 =>
 A2 PR (binOp .neq 3 t4 (.int .i64 0)) fun t5 =>
 R t5
theorem B0f : B0 PR 212 := A8 Tryz.func212 (by kernel_rfl) rfl
theorem B1G {X : Nat → Prop} {t0 : Value} {R : Value → WP} {w : World} (h : A4u X t0 R w) : Fn PR X 212 #[t0] w R := C7 (args := [t0]) mixed Tryz.func212 (by kernel_rfl) h
end Go.Proofs.YtggakcpabomliaaGreat
namespace Go.Proofs.YtggakcpabomliaaGreat
open Go
def B18 (X : Nat → Prop) (t0 : Value) (R : Value → WP) : WP :=
 B2 PR X 185 [t0] fun t4 =>
 A2 PR (binOp .sub 3 (.int .i64 65535) t4) fun t5 =>
 R t5
theorem B66 : B0 PR 152 := A8 Tryz.func152 (by kernel_rfl) rfl
theorem B7x {X : Nat → Prop} {t0 : Value} {R : Value → WP} {w : World} (h : B18 X t0 R w) : Fn PR X 152 #[t0] w R := C7 (args := [t0]) mixed Tryz.func152 (by kernel_rfl) h
def A92 (X : Nat → Prop) (t0 : Value) (R : Value → WP) : WP :=
 B1 PR X (Instr.alloc 68 true (.tuple #[])) fun t3 =>
 jn (n := 0) (
 jn (n := 0) (
 A6 PR (Instr.loadAt 68 t3) fun t18 =>
 A2 PR (convert 68 3 t18) fun t19 =>
 j9 (R t19)) fun J1 =>
 lp (n := 0) (fun L2 =>
 jn (n := 0) (
 A6 PR (Instr.loadAt 68 t3) fun t13 =>
 A2 PR (binOp .shr 68 t13 (.int .u64 16)) fun t14 =>
 A6 PR (Instr.loadAt 68 t3) fun t15 =>
 A2 PR (binOp .and 68 t15 (.int .u64 65535)) fun t16 =>
 A2 PR (binOp .add 68 t14 t16) fun t17 =>
 B4 PR X (Instr.storeAt 68 t3 t17) <|
 L2) fun J3 =>
 A6 PR (Instr.loadAt 68 t3) fun t11 =>
 A2 PR (binOp .leq 68 t11 (.int .u64 65535)) fun t12 =>
 B6 t12 (
 J1) (
 J3)) ) fun J4 =>
 B2 PR X 204 [t0] fun t6 =>
 rng (N := 1) PR X (fun t7 K5 =>
 bgn <|
 A6 PR (Instr.loadAt 68 t3) fun t8 =>
 A2 PR (binOp .add 68 t8 t7) fun t10 =>
 B4 PR (fun _ => False) (Instr.storeAt 68 t3 t10) <|
 K5 none) t6 (fun j => match j with | none => (J4) | some (.exit i) => (match Nat.beq i 0 with | true => (J4) | false => (G4)) | some .ret => (j9 (R (.int .i64 0))) | some _ => G4)
theorem A8d : B0 PR 185 := A8 Tryz.func185 (by kernel_rfl) rfl
theorem B6g {X : Nat → Prop} {t0 : Value} {R : Value → WP} {w : World} (h : A92 X t0 R w) : Fn PR X 185 #[t0] w R := C7 (args := [t0]) mixed Tryz.func185 (by kernel_rfl) h
def A9H (X : Nat → Prop) (t0 : Value) (R : Value → WP) : WP :=
 B1 PR X (Instr.box 9 t0) fun t1 =>
 A2 PR (Instr.makeFunc (.func 228) #[] #[t1]) fun t3 =>
 R t3
theorem B34 : B0 PR 204 := A8 Tryz.func204 (by kernel_rfl) rfl
theorem B5P {X : Nat → Prop} {t0 : Value} {R : Value → WP} {w : World} (h : A9H X t0 R w) : Fn PR X 204 #[t0] w R := C7 (args := [t0]) mixed Tryz.func204 (by kernel_rfl) h
def B0E (X : Nat → Prop) (t0 : Value) (R : Value → WP) : WP :=
 B2 PR X 185 [t0] fun t4 =>
 A2 PR (binOp .eql 3 t4 (.int .i64 65535)) fun t5 =>
 R t5
theorem B5p : B0 PR 211 := A8 Tryz.func211 (by kernel_rfl) rfl
theorem B6Q {X : Nat → Prop} {t0 : Value} {R : Value → WP} {w : World} (h : B0E X t0 R w) : Fn PR X 211 #[t0] w R := C7 (args := [t0]) mixed Tryz.func211 (by kernel_rfl) h
def A5G (X : Nat → Prop) (t0 t1 : Value) (R : Value → WP) : WP :=
 jn (n := 0) (
 lp (n := 1) (fun L1 t3 =>
 jn (n := 0) (
 jn (n := 0) (
 A2 PR (binOp .add 3 t3 (.int .i64 2)) fun t17 =>
 L1 t17) fun J2 =>
 A6 PR (Instr.loadAt 9 t1) fun t19 =>
 B2 PR X 192 [t19, t3, (.int .i64 2)] fun t21 =>
 A2 PR (Instr.extract t21 0) fun t22 =>
 A2 PR (Instr.extract t21 1) fun t23 =>
 L5 PR X t0 [t22] fun t26 =>
 A2 PR (Op.unary .not t26) fun t27 =>
 B6 t27 (
 R (.tuple #[])) (
 J2)) fun J3 =>
 A6 PR (Instr.loadAt 9 t1) fun t13 =>
 A2 PR (A7 .len #[9] 0 [t13]) fun t14 =>
 A2 PR (binOp .lss 3 t3 t14) fun t15 =>
 B6 t15 (
 J3) (
 R (.tuple #[]))) (.int .i64 0)) fun J4 =>
 A6 PR (Instr.loadAt 9 t1) fun t6 =>
 A2 PR (A7 .len #[9] 0 [t6]) fun t7 =>
 A2 PR (binOp .rem 3 t7 (.int .i64 2)) fun t8 =>
 A2 PR (binOp .eql 3 t8 (.int .i64 1)) fun t9 =>
 B6 t9 (
 A6 PR (Instr.loadAt 9 t1) fun t10 =>
 A2 PR (binOp .add 9 t10 (.string (ByteArray.mk #[0]))) fun t11 =>
 B4 PR X (Instr.storeAt 9 t1 t11) <|
 J4) (
 J4)
theorem B0G : B0 PR 228 := A8 Tryz.func228 (by kernel_rfl) rfl
theorem B2A {X : Nat → Prop} {t0 t1 : Value} {R : Value → WP} {w : World} (h : A5G X t0 t1 R w) : Fn PR X 228 #[t0, t1] w R := C7 (args := [t0, t1]) mixed Tryz.func228 (by kernel_rfl) h
theorem B2G {X : Nat → Prop} {t0 t1 : Value} {K : Value → WP} {w : World} (h : Fn PR X 228 #[t0, t1] w K) : A1a PR X 228 [t0, t1] K w := ⟨B0G, h⟩
end Go.Proofs.YtggakcpabomliaaGreat
namespace Go.Proofs.YtggakcpabomliaaGreat
open Go
abbrev B97 (b : Nat) : Value := .func (.func 228) #[] #[.pointer (some ⟨b, 0, none⟩)]
theorem C1Q (w : World) (s : ByteArray) : Fn PR B5 204 #[.string s] w (Rn [] w (fun b v => v = B97 b) fun b => [.pt b (.cells #[.string s] 9)]) := by
 refine B5P (TW.go (κ := false) (S := []) ?_)
 unfold A9H
 (have hQq := trivial; repeat ((first | clear hQq | (with_reducible first | refine A3 ?_ | refine A4 fun _ => ?_ | refine A5 fun _ => ?_)); (try simp (disch := first | omega | assumption | ((repeat (first | exact A0 | exact Up.here | apply A1 | apply Up.there)); first | done | fail) | (simp; first | done | omega | fail)) [])))
 rename_i b
 exact g6 b rfl (by simp)
def B4j (s : ByteArray) (i : Nat) : List Value := [.int .u64 (V4 s (2 * i) 2 : Nat)]
def N8 (s : ByteArray) : Nat := (s.size + 1) / 2
def pad (s : ByteArray) : ByteArray := if s.size % 2 = 1 then s ++ ByteArray.mk #[0] else s
theorem C2j (s : ByteArray) : (pad s).size = 2 * N8 s := by
 unfold pad N8; split
 ·rw [ByteArray.size_append, show (ByteArray.mk #[0]).size = 1 from rfl]; omega
 ·omega
theorem B4E (s t : ByteArray) (i : Nat) : C4 (s ++ t) i = if i < s.size then C4 s i else C4 t (i - s.size) := by
 unfold C4
 rw [ByteArray.data_append, Array.getD_eq_getD_getElem?, Array.getElem?_append, Array.getD_eq_getD_getElem?, Array.getD_eq_getD_getElem?]
 simp only [ByteArray.size]
 split <;> rfl
theorem B70 (s : ByteArray) (i : Nat) : C4 (pad s) i = C4 s i := by
 unfold pad; split
 ·rw [B4E]; split
  ·rfl
  ·rename_i h
   have h1 : C4 s i = 0 := by unfold C4; rw [Array.getD_eq_getD_getElem?, Array.getElem?_eq_none (by simp only [ByteArray.size] at h; omega)]; rfl
   rw [h1]; unfold C4
   by_cases h2 : i - s.size = 0
   ·rw [h2]; rfl
   ·rw [Array.getD_eq_getD_getElem?, Array.getElem?_eq_none (by simp; omega)]; rfl
 ·rfl
theorem C34 (s : ByteArray) (a n : Nat) : V4 (pad s) a n = V4 s a n := by
 induction n with
 | zero => rfl
 | succ n ih => simp only [V4, ih, B70]
theorem C2a (b : Nat) (s : ByteArray) (hs : s.size < 2 ^ 60) : A5B (B97 b) [.pt b (.cells #[.string s] 9)] (fun _ _ => True) ((List.range (N8 s)).map (B4j s)) := by
 refine ⟨_, _, _, rfl, fun l J E hJ hE stJ stE hy w0 h0 => ?_⟩
 refine B2G (B2A (TW.at (κ := true) ?_ (hJ _ _ _ h0).1))
 unfold A5G
 have hp := C2j s
 have hnw : N8 s ≤ s.size := by unfold N8; omega
 have key : ∀ Lp : WP, TW true (E2 [Res.pt b (.cells #[.string s] 9)]) w0 [.pt b (.cells #[.string (pad s)] 9)] Lp → (if s.size % 2 = 1 then TW true (E2 [Res.pt b (.cells #[.string s] 9)]) w0 [.pt b (.cells #[.string (s ++ ByteArray.mk #[0])] 9)] Lp else TW true (E2 [Res.pt b (.cells #[.string s] 9)]) w0 [.pt b (.cells #[.string s] 9)] Lp) := by
  intro Lp h; unfold pad at h; split <;> simp_all
 have hrem : ((s.size : Int).tmod 2 = 1) = (s.size % 2 = 1) := by
  rw [Int.tmod_eq_emod_of_nonneg (by omega)]; exact propext (by omega)
 have hadd : s.size + (ByteArray.mk #[0]).size ≤ 9223372036854775807 := by rw [show (ByteArray.mk #[0]).size = 1 from rfl]; omega
 (have hQq := trivial; repeat ((first | clear hQq | (with_reducible first | refine A3 ?_ | refine A4 fun _ => ?_ | refine A5 fun _ => ?_)); (try simp (disch := first | omega | assumption | ((repeat (first | exact A0 | exact Up.here | apply A1 | apply Up.there)); first | done | fail) | (simp; first | done | omega | fail)) [N3, P1, hrem])))
 refine key _ ?_
 clear key
 refine C3C (fun i => i) (fun _ => [.pt b (.cells #[.string (pad s)] 9)]) (fun i => i ≤ N8 s) (fun i => N8 s - i) (fun i : Nat => .int .i64 (2 * (i : Int))) 0 hJ stJ h0 (Nat.zero_le _) fun i a hi hJi _ L hL => ?_
 by_cases hlt : i < N8 s
 ·have h2 : 2 * (i : Int) < (pad s).size := by omega
  (have hQq := trivial; repeat ((first | clear hQq | (with_reducible first | refine A3 ?_ | refine A4 fun _ => ?_ | refine A5 fun _ => ?_)); (try simp (disch := first | omega | assumption | ((repeat (first | exact A0 | exact Up.here | apply A1 | apply Up.there)); first | done | fail) | (simp; first | done | omega | fail)) [h2])))
  refine B7 T6 (fun w' _ => A2c w' (pad s) (by omega) _ _) ?_
  have hg : l3 (pad s) (2 * (i : Int)) 2 = true := by simp only [l3, decide_eq_true_eq]; omega
  have hv : A1p (pad s) (2 * (i : Int)) 2 = (V4 s (2 * i) 2 : Nat) := by
   unfold A1p; rw [if_pos hg, C34]; congr 2
  rw [hv, hg]
  (have hQq := trivial; repeat ((first | clear hQq | (with_reducible first | refine A3 ?_ | refine A4 fun _ => ?_ | refine A5 fun _ => ?_)); (try simp (disch := first | omega | assumption | ((repeat (first | exact A0 | exact Up.here | apply A1 | apply Up.there)); first | done | fail) | (simp; first | done | omega | fail)) [])))
  refine A7C hJ hE stJ hy hJi (by simpa using hlt) (by simp [B4j]) (fun w3 h => ?_) (fun w3 h => ?_)
  ·(have hQq := trivial; repeat ((first | clear hQq | (with_reducible first | refine A3 ?_ | refine A4 fun _ => ?_ | refine A5 fun _ => ?_)); (try simp (disch := first | omega | assumption | ((repeat (first | exact A0 | exact Up.here | apply A1 | apply Up.there)); first | done | fail) | (simp; first | done | omega | fail)) [])))
   intro w' hw'
   have := hL (i + 1) w' hlt (by omega) (stJ _ _ _ _ _ h hw')
   simpa [Int.mul_add] using this
  ·(have hQq := trivial; repeat ((first | clear hQq | (with_reducible first | refine A3 ?_ | refine A4 fun _ => ?_ | refine A5 fun _ => ?_)); (try simp (disch := first | omega | assumption | ((repeat (first | exact A0 | exact Up.here | apply A1 | apply Up.there)); first | done | fail) | (simp; first | done | omega | fail)) [])))
   exact A3l stE h
 ·have h2 : ¬ 2 * (i : Int) < (pad s).size := by omega
  obtain rfl : i = N8 s := by omega
  (have hQq := trivial; repeat ((first | clear hQq | (with_reducible first | refine A3 ?_ | refine A4 fun _ => ?_ | refine A5 fun _ => ?_)); (try simp (disch := first | omega | assumption | ((repeat (first | exact A0 | exact Up.here | apply A1 | apply Up.there)); first | done | fail) | (simp; first | done | omega | fail)) [h2])))
  exact A3s stJ (by simpa using hJi)
def A15 (s : ByteArray) : Nat → Nat
 | 0 => 0
 | i + 1 => A15 s i + V4 s (2 * i) 2
def fld (n : Nat) : Nat := if n = 0 then 0 else (n - 1) % 65535 + 1
def g5 (s : ByteArray) : Nat := fld (A15 s (N8 s))
theorem C2u (n : Nat) : fld (n / 65536 + n % 65536) = fld n := by
 unfold fld
 have h := Nat.div_add_mod n 65536
 by_cases h0 : n = 0
 ·subst h0; rfl
 ·rw [if_neg (by omega), if_neg h0]; omega
theorem C01 {n : Nat} (h : n ≤ 65535) : fld n = n := by unfold fld; split <;> omega
theorem B16 (n : Nat) : fld n ≤ 65535 := by unfold fld; split <;> omega
theorem B7Y (s : ByteArray) (i : Nat) : A15 s i ≤ i * 65535 := by
 induction i with
 | zero => simp [A15]
 | succ i ih => have := A31 s (2 * i) 2; simp only [A15]; omega
theorem C25 (n : Nat) (h : n < 2 ^ 64) : IntKind.u64.wrap ((n % 2 ^ IntKind.u64.bits &&& 65535 % 2 ^ IntKind.u64.bits : Nat) : Int) = ((n % 65536 : Nat) : Int) := by
 rw [show (2 : Nat) ^ IntKind.u64.bits = 2 ^ 64 from rfl, Nat.mod_eq_of_lt h, show 65535 % 2 ^ 64 = 2 ^ 16 - 1 from rfl, Nat.and_two_pow_sub_one_eq_mod]
 exact u6 (by omega) (by omega)
theorem B7Z (w : World) (s : ByteArray) (hs : s.size < 2 ^ 40) : Fn PR B5 185 #[.string s] w (fun v w' => v = .int .i64 (g5 s : Nat) ∧ C0 [] w w') := by
 refine Fn.pure (B6g (TW.go (κ := false) (S := []) ?_))
 unfold A92
 (have hQq := trivial; repeat ((first | clear hQq | (with_reducible first | refine A3 ?_ | refine A4 fun _ => ?_ | refine A5 fun _ => ?_)); (try simp (disch := first | omega | assumption | ((repeat (first | exact A0 | exact Up.here | apply A1 | apply Up.there)); first | done | fail) | (simp; first | done | omega | fail)) [])))
 rename_i bn
 refine F8 B34 (fun w' _ => C1Q w' s) ?_
 rintro b v rfl
 have hnw : N8 s ≤ 2 ^ 39 := by unfold N8; omega
 refine A3A (C2a b s (by omega)) (by simp [B4j]) (fun _ (_ : Unit) => True) (fun i _ => [.pt bn (.cells #[.int .u64 ((A15 s i : Nat) : Int)] 68)]) (fun _ (_ : Unit) => False) (fun _ => []) () trivial ?_ ?_ ?_ ?_
 ·intros; trivial
 ·rintro i hi _ F _ K' hK _
  have hi' : i < N8 s := by simpa using hi
  have h1 := B7Y s i
  have h2 := A31 s (2 * i) 2
  simp only [List.getElem_map, List.getElem_range, B4j, VF.app]
  (have hQq := trivial; repeat ((first | clear hQq | (with_reducible first | refine A3 ?_ | refine A4 fun _ => ?_ | refine A5 fun _ => ?_)); (try simp (disch := first | omega | assumption | ((repeat (first | exact A0 | exact Up.here | apply A1 | apply Up.there)); first | done | fail) | (simp; first | done | omega | fail)) [])))
  refine TW.eqH ?_ (hK () trivial)
  simp [A15]
 ·rintro _ _
  (have hQq := trivial; repeat ((first | clear hQq | (with_reducible first | refine A3 ?_ | refine A4 fun _ => ?_ | refine A5 fun _ => ?_)); (try simp (disch := first | omega | assumption | ((repeat (first | exact A0 | exact Up.here | apply A1 | apply Up.there)); first | done | fail) | (simp; first | done | omega | fail)) [])))
  refine C59 (fun n : Nat => [.pt bn (.cells #[.int .u64 (n : Int)] 68)]) (fun n => fld n = g5 s ∧ n < 2 ^ 63) (fun n => n) _ ⟨by simp [g5], by have := B7Y s (N8 s); simp; omega⟩ ?_
  rintro n ⟨h1, h2⟩ L hL
  by_cases h3 : n ≤ 65535
  ·have h4 : (n : Int) ≤ 65535 := by omega
   (have hQq := trivial; repeat ((first | clear hQq | (with_reducible first | refine A3 ?_ | refine A4 fun _ => ?_ | refine A5 fun _ => ?_)); (try simp (disch := first | omega | assumption | ((repeat (first | exact A0 | exact Up.here | apply A1 | apply Up.there)); first | done | fail) | (simp; first | done | omega | fail)) [h4])))
   rw [C01 h3] at h1
   exact A9 (by rw [h1])
  ·have h4 : ¬ (n : Int) ≤ 65535 := by omega
   have e1 : (n : Int).fdiv (2 ^ min 16 IntKind.u64.bits) = (n / 65536 : Nat) := by rw [show (2 : Int) ^ min 16 IntKind.u64.bits = 65536 from rfl, Int.fdiv_eq_ediv_of_nonneg _ (by omega)]; omega
   (have hQq := trivial; repeat ((first | clear hQq | (with_reducible first | refine A3 ?_ | refine A4 fun _ => ?_ | refine A5 fun _ => ?_)); (try simp (disch := first | omega | assumption | ((repeat (first | exact A0 | exact Up.here | apply A1 | apply Up.there)); first | done | fail) | (simp; first | done | omega | fail)) [h4])))
   refine TW.eqH ?_ (hL (n / 65536 + n % 65536) ⟨by rw [C2u]; exact h1, by omega⟩ (by omega))
   rw [e1, C25 n (by omega), u6 (by omega) (by omega)]; simp
 ·rintro _ _ h; exact h.elim
def B26 (s : ByteArray) : Int := 65535 - g5 s
theorem C4s (w : World) (s : ByteArray) (hs : s.size < 2 ^ 40) : Fn PR B5 152 #[.string s] w (fun v w' => v = .int .i64 (B26 s) ∧ C0 [] w w') := by
 refine Fn.pure (B7x (TW.go (κ := false) (S := []) ?_))
 unfold B18
 refine B7 A8d (fun w' _ => B7Z w' s hs) ?_
 have := B16 (A15 s (N8 s))
 have h2 : ((g5 s : Nat) : Int) ≤ 65535 := by unfold g5; omega
 (have hQq := trivial; repeat ((first | clear hQq | (with_reducible first | refine A3 ?_ | refine A4 fun _ => ?_ | refine A5 fun _ => ?_)); (try simp (disch := first | omega | assumption | ((repeat (first | exact A0 | exact Up.here | apply A1 | apply Up.there)); first | done | fail) | (simp; first | done | omega | fail)) [])))
 exact A9 rfl
theorem C3g (w : World) (s : ByteArray) (hs : s.size < 2 ^ 40) : Fn PR B5 211 #[.string s] w (fun v w' => v = .bool (decide (g5 s = 65535)) ∧ C0 [] w w') := by
 refine Fn.pure (B6Q (TW.go (κ := false) (S := []) ?_))
 unfold B0E
 refine B7 A8d (fun w' _ => B7Z w' s hs) ?_
 (have hQq := trivial; repeat ((first | clear hQq | (with_reducible first | refine A3 ?_ | refine A4 fun _ => ?_ | refine A5 fun _ => ?_)); (try simp (disch := first | omega | assumption | ((repeat (first | exact A0 | exact Up.here | apply A1 | apply Up.there)); first | done | fail) | (simp; first | done | omega | fail)) [])))
 exact A9 (by simp; omega)
end Go.Proofs.YtggakcpabomliaaGreat
namespace Go.Proofs.YtggakcpabomliaaGreat
open Go
def gv (s : ByteArray) (a n : Nat) : Nat := if a + n ≤ s.size then V4 s a n else 0
theorem A3L (s : ByteArray) (a n : Nat) (h1 : 1 ≤ n) (h8 : n ≤ 8) : A1p s a n = gv s a n := by
 unfold A1p gv
 by_cases h : a + n ≤ s.size
 ·rw [if_pos (by simp only [l3, decide_eq_true_eq]; omega), if_pos h]; simp
 ·rw [if_neg (by simp only [l3, decide_eq_true_eq]; omega), if_neg h]; rfl
theorem B1V (s : ByteArray) (a : Nat) : gv s a 1 < 256 := by
 unfold gv; split
 ·exact A31 s a 1
 ·omega
theorem j2 (s : ByteArray) (a : Nat) : gv s a 2 < 65536 := by
 unfold gv; split
 ·exact A31 s a 2
 ·omega
theorem A3y (w : World) (s : ByteArray) (hs : s.size < 2 ^ 40) (b a n : Nat) (h1 : 1 ≤ n) (h2 : n ≤ 2) (hc : w.cell? ⟨b, 0, none⟩ = some (.string s)) :
  Fn PR B5 205 #[.int .i64 (a : Int), .int .i64 (n : Int), .pointer (some ⟨b, 0, none⟩)] w (fun v w' => v = .int .i64 (gv s a n : Nat) ∧ C0 [] w w') := by
 refine Fn.pure (B1W (TW.go (κ := false) (S := []) ?_))
 unfold A4z
 (have hQq := trivial; repeat ((first | clear hQq | (with_reducible first | refine A3 ?_ | refine A4 fun _ => ?_ | refine A5 fun _ => ?_ | refine D4 fun _ => ?_ | refine D3 (hK := fun _ => ?_) | refine D1 (hK := fun _ => ?_) | refine D2 (hK := fun _ => ?_) | refine D6 (hK := fun _ => ?_) | refine D5 (hK := fun _ => ?_))); (try simp (disch := first | omega | assumption | ((repeat (first | exact A0 | exact Up.here | apply A1 | apply Up.there)); first | done | fail) | (simp; first | done | omega | fail)) [hc])))
 refine B7 T6 (fun w' _ => A2c w' s (by omega) _ _) ?_
 rw [A3L s a n h1 (by omega)]
 have hlt : gv s a n < 65536 := by
  obtain rfl | rfl : n = 1 ∨ n = 2 := by omega
  ·have := B1V s a; omega
  ·exact j2 s a
 (have hQq := trivial; repeat ((first | clear hQq | (with_reducible first | refine A3 ?_ | refine A4 fun _ => ?_ | refine A5 fun _ => ?_ | refine D4 fun _ => ?_ | refine D3 (hK := fun _ => ?_) | refine D1 (hK := fun _ => ?_) | refine D2 (hK := fun _ => ?_) | refine D6 (hK := fun _ => ?_) | refine D5 (hK := fun _ => ?_))); (try simp (disch := first | omega | assumption | ((repeat (first | exact A0 | exact Up.here | apply A1 | apply Up.there)); first | done | fail) | (simp; first | done | omega | fail)) [])))
 exact A9 rfl
theorem C36 (w : World) (s : ByteArray) (hs : s.size < 2 ^ 40) (b : Nat) (hc : w.cell? ⟨b, 0, none⟩ = some (.string s)) :
  Fn PR B5 205 #[.int .i64 0, .int .i64 1, .pointer (some ⟨b, 0, none⟩)] w (fun v w' => v = .int .i64 (gv s 0 1 : Nat) ∧ C0 [] w w') := A3y w s hs b 0 1 (by omega) (by omega) hc
theorem C3x (w : World) (s : ByteArray) (hs : s.size < 2 ^ 40) (b : Nat) (hc : w.cell? ⟨b, 0, none⟩ = some (.string s)) :
  Fn PR B5 205 #[.int .i64 2, .int .i64 2, .pointer (some ⟨b, 0, none⟩)] w (fun v w' => v = .int .i64 (gv s 2 2 : Nat) ∧ C0 [] w w') := A3y w s hs b 2 2 (by omega) (by omega) hc
theorem C30 (w : World) (s : ByteArray) (hs : s.size < 2 ^ 40) (b : Nat) (hc : w.cell? ⟨b, 0, none⟩ = some (.string s)) :
  Fn PR B5 205 #[.int .i64 9, .int .i64 1, .pointer (some ⟨b, 0, none⟩)] w (fun v w' => v = .int .i64 (gv s 9 1 : Nat) ∧ C0 [] w w') := A3y w s hs b 9 1 (by omega) (by omega) hc
def B4g (x : Value × Int × Bool) : List Value := [x.1, .int .i64 x.2.1]
def A3Q (l : List (Value × Int × Bool)) : Int := match l.find? (·.2.2) with | some x => x.2.1 | none => 0
theorem B6M {l : List (Value × Int × Bool)} (h : ∀ i (hi : i < l.length), l[i].2.2 = false) : A3Q l = 0 := by
 have : l.find? (·.2.2) = none := by
  rw [List.find?_eq_none]; intro x hx; obtain ⟨i, hi, rfl⟩ := List.getElem_of_mem hx; simp [h i hi]
 simp [A3Q, this]
theorem B6a {l : List (Value × Int × Bool)} {i : Nat} (hi : i < l.length) (hp : l[i].2.2 = true) (h : ∀ j (hj : j < i), (l[j]'(by omega)).2.2 = false) : A3Q l = l[i].2.1 := by
 have : l.find? (·.2.2) = some l[i] := by
  rw [List.find?_eq_some_iff_getElem]
  exact ⟨hp, i, hi, rfl, fun j hj => by simp [h j hj]⟩
 simp [A3Q, this]
theorem C2U (w : World) (v : Value) (l : List (Value × Int × Bool)) (hl : l.length < 1000) (hv : E3 w v l.length (l.flatMap B4g))
  (hg : ∀ i (hi : i < l.length), (∀ j (hj : j < i), (l[j]'(by omega)).2.2 = false) → ∃ f cap, l[i].1 = .func (.func f) #[] cap ∧ B0 PR f ∧ ∀ w', KS false [] w w' → Fn PR B5 f cap w' (fun v w'' => v = .bool l[i].2.2 ∧ C0 [] w' w'')) :
  Fn PR B5 206 #[v] w (fun u w' => u = .int .i64 (A3Q l) ∧ C0 [] w w') := by
 refine Fn.pure (B6C (TW.go (κ := false) (S := []) ?_))
 unfold A9C
 obtain ⟨a, c, rfl, hrow⟩ := hv.form
 (have hQq := trivial; repeat ((first | clear hQq | (with_reducible first | refine A3 ?_ | refine A4 fun _ => ?_ | refine A5 fun _ => ?_ | refine D4 fun _ => ?_ | refine D3 (hK := fun _ => ?_) | refine D1 (hK := fun _ => ?_) | refine D2 (hK := fun _ => ?_) | refine D6 (hK := fun _ => ?_) | refine D5 (hK := fun _ => ?_))); (try simp (disch := first | omega | assumption | ((repeat (first | exact A0 | exact Up.here | apply A1 | apply Up.there)); first | done | fail) | (simp; first | done | omega | fail)) [])))
 refine K3 (α := Unit) l.length (fun _ _ => .int .i64 0) (fun _ _ => []) (fun i _ => ∀ j (hj : j < i), ∀ (h : j < l.length), l[j].2.2 = false) () (by intro j hj; omega) ?_
 rintro i _ hi hpre L hL
 by_cases hlt : i < l.length
 ·obtain ⟨b, o, rfl, hr⟩ := hrow (by omega)
  have hx : l[i]? = some l[i] := List.getElem?_eq_getElem hlt
  have hrn := hr.at (f := B4g) (k := 2) (fun _ => rfl) hx
  have hpre' : ∀ j (hj : j < i), (l[j]'(by omega)).2.2 = false := fun j hj => hpre j hj (by omega)
  obtain ⟨f, cap, he, hent, hcall⟩ := hg i hlt hpre'
  rw [B4g, he] at hrn
  (have hQq := trivial; repeat ((first | clear hQq | (with_reducible first | refine A3 ?_ | refine A4 fun _ => ?_ | refine A5 fun _ => ?_ | refine D4 fun _ => ?_ | refine D3 (hK := fun _ => ?_) | refine D1 (hK := fun _ => ?_) | refine D2 (hK := fun _ => ?_) | refine D6 (hK := fun _ => ?_) | refine D5 (hK := fun _ => ?_))); (try simp (disch := first | omega | assumption | ((repeat (first | exact A0 | exact Up.here | apply A1 | apply Up.there)); first | done | fail) | (simp; first | done | omega | fail)) [hlt, hrn])))
  refine B2q hent (φ := fun v => v = .bool l[i].2.2) (fun w' hw' => by simpa using hcall w' hw'.ks) ?_
  rintro _ rfl
  cases hb : l[i].2.2 with
  | true =>
   (have hQq := trivial; repeat ((first | clear hQq | (with_reducible first | refine A3 ?_ | refine A4 fun _ => ?_ | refine A5 fun _ => ?_ | refine D4 fun _ => ?_ | refine D3 (hK := fun _ => ?_) | refine D1 (hK := fun _ => ?_) | refine D2 (hK := fun _ => ?_) | refine D6 (hK := fun _ => ?_) | refine D5 (hK := fun _ => ?_))); (try simp (disch := first | omega | assumption | ((repeat (first | exact A0 | exact Up.here | apply A1 | apply Up.there)); first | done | fail) | (simp; first | done | omega | fail)) [])))
   exact A9 (by rw [B6a hlt hb hpre'])
  | false =>
   (have hQq := trivial; repeat ((first | clear hQq | (with_reducible first | refine A3 ?_ | refine A4 fun _ => ?_ | refine A5 fun _ => ?_ | refine D4 fun _ => ?_ | refine D3 (hK := fun _ => ?_) | refine D1 (hK := fun _ => ?_) | refine D2 (hK := fun _ => ?_) | refine D6 (hK := fun _ => ?_) | refine D5 (hK := fun _ => ?_))); (try simp (disch := first | omega | assumption | ((repeat (first | exact A0 | exact Up.here | apply A1 | apply Up.there)); first | done | fail) | (simp; first | done | omega | fail)) [])))
   refine Sels.tw .nil (hL hlt () ?_)
   intro j hj h
   by_cases hji : j = i
   ·subst hji; exact hb
   ·exact hpre j (by omega) h
 ·obtain rfl : i = l.length := by omega
  (have hQq := trivial; repeat ((first | clear hQq | (with_reducible first | refine A3 ?_ | refine A4 fun _ => ?_ | refine A5 fun _ => ?_ | refine D4 fun _ => ?_ | refine D3 (hK := fun _ => ?_) | refine D1 (hK := fun _ => ?_) | refine D2 (hK := fun _ => ?_) | refine D6 (hK := fun _ => ?_) | refine D5 (hK := fun _ => ?_))); (try simp (disch := first | omega | assumption | ((repeat (first | exact A0 | exact Up.here | apply A1 | apply Up.there)); first | done | fail) | (simp; first | done | omega | fail)) [])))
  exact A9 (by rw [B6M fun j hj => hpre j hj hj])
structure HeadV where
 src : ByteArray
 dst : ByteArray
 proto : Nat
 rest : ByteArray
 e : Nat
abbrev P6 : ByteArray := ByteArray.mk #[]
def HeadV.err (e : Nat) : HeadV := ⟨P6, P6, 0, P6, e⟩
def HeadV.val (h : HeadV) : Value := .tuple #[.agg #[.string h.src, .string h.dst, .int .i64 h.proto], .string h.rest, .int .i64 h.e]
def H8 (s : ByteArray) : Nat := gv s 0 1 % 16 * 4
def A3u (s : ByteArray) : Nat := if s.size < 20 then 2 else if gv s 0 1 / 16 ≠ 4 then 3 else if H8 s < 20 ∨ s.size < H8 s ∨ gv s 2 2 < H8 s ∨ s.size < gv s 2 2 then 4
 else if g5 (s.extract 0 (H8 s)) ≠ 65535 then 5 else if gv s 6 2 % 16384 ≠ 0 then 6 else 0
def Q1 (s : ByteArray) : HeadV := if A3u s = 0 then ⟨s.extract 12 16, s.extract 16 20, gv s 9 1, s.extract (H8 s) (gv s 2 2), 0⟩ else .err (A3u s)
theorem C6a (n : Nat) (h : n < 256) : IntKind.i64.wrap ((n % 2 ^ IntKind.i64.bits &&& 15 % 2 ^ IntKind.i64.bits : Nat) : Int) = ((n % 16 : Nat) : Int) := by
 rw [show (2 : Nat) ^ IntKind.i64.bits = 2 ^ 64 from rfl, Nat.mod_eq_of_lt (by omega), show 15 % 2 ^ 64 = 2 ^ 4 - 1 from rfl, Nat.and_two_pow_sub_one_eq_mod]
 exact U1 (by omega) (by omega)
theorem C6f (n : Nat) (h : n < 65536) : IntKind.i64.wrap ((n % 2 ^ IntKind.i64.bits &&& 16383 % 2 ^ IntKind.i64.bits : Nat) : Int) = ((n % 16384 : Nat) : Int) := by
 rw [show (2 : Nat) ^ IntKind.i64.bits = 2 ^ 64 from rfl, Nat.mod_eq_of_lt (by omega), show 16383 % 2 ^ 64 = 2 ^ 14 - 1 from rfl, Nat.and_two_pow_sub_one_eq_mod]
 exact U1 (by omega) (by omega)
section
variable (w : World) (s : ByteArray) (hs : s.size < 2 ^ 40) (b1 b5 b6 b7 : Nat) (h1 : w.cell? ⟨b1, 0, none⟩ = some (.string s)) (h5 : w.cell? ⟨b5, 0, none⟩ = some (.func (.func 205) #[] #[.pointer (some ⟨b1, 0, none⟩)]))
 (h6 : w.cell? ⟨b6, 0, none⟩ = some (.int .i64 (H8 s : Nat))) (h7 : w.cell? ⟨b7, 0, none⟩ = some (.int .i64 (gv s 2 2 : Nat)))
include h1
theorem C6E : Fn PR B5 207 #[.pointer (some ⟨b1, 0, none⟩)] w (fun v w' => v = .bool (decide (s.size < 20)) ∧ C0 [] w w') := by
 refine Fn.pure (B1r (TW.go (κ := false) (S := []) ?_))
 unfold A44
 (have hQq := trivial; repeat ((first | clear hQq | (with_reducible first | refine A3 ?_ | refine A4 fun _ => ?_ | refine A5 fun _ => ?_ | refine D4 fun _ => ?_ | refine D3 (hK := fun _ => ?_) | refine D1 (hK := fun _ => ?_) | refine D2 (hK := fun _ => ?_) | refine D6 (hK := fun _ => ?_) | refine D5 (hK := fun _ => ?_))); (try simp (disch := first | omega | assumption | ((repeat (first | exact A0 | exact Up.here | apply A1 | apply Up.there)); first | done | fail) | (simp; first | done | omega | fail)) [h1])))
 exact A9 (by simp; omega)
include hs h5
theorem C67 : Fn PR B5 208 #[.pointer (some ⟨b5, 0, none⟩)] w (fun v w' => v = .bool (decide (gv s 0 1 / 16 ≠ 4)) ∧ C0 [] w w') := by
 refine Fn.pure (B1K (TW.go (κ := false) (S := []) ?_))
 unfold A43
 (have hQq := trivial; repeat ((first | clear hQq | (with_reducible first | refine A3 ?_ | refine A4 fun _ => ?_ | refine A5 fun _ => ?_ | refine D4 fun _ => ?_ | refine D3 (hK := fun _ => ?_) | refine D1 (hK := fun _ => ?_) | refine D2 (hK := fun _ => ?_) | refine D6 (hK := fun _ => ?_) | refine D5 (hK := fun _ => ?_))); (try simp (disch := first | omega | assumption | ((repeat (first | exact A0 | exact Up.here | apply A1 | apply Up.there)); first | done | fail) | (simp; first | done | omega | fail)) [h1, h5])))
 refine B7 m5 (fun w' hw' => A3y w' s hs b1 0 1 (by omega) (by omega) (hw'.ks.cell (by simp) h1)) ?_
 have e1 : ((gv s 0 1 : Nat) : Int).fdiv (2 ^ min 4 IntKind.i64.bits) = (gv s 0 1 / 16 : Nat) := by rw [show (2 : Int) ^ min 4 IntKind.i64.bits = 16 from rfl, Int.fdiv_eq_ediv_of_nonneg _ (by omega)]; omega
 (have hQq := trivial; repeat ((first | clear hQq | (with_reducible first | refine A3 ?_ | refine A4 fun _ => ?_ | refine A5 fun _ => ?_ | refine D4 fun _ => ?_ | refine D3 (hK := fun _ => ?_) | refine D1 (hK := fun _ => ?_) | refine D2 (hK := fun _ => ?_) | refine D6 (hK := fun _ => ?_) | refine D5 (hK := fun _ => ?_))); (try simp (disch := first | omega | assumption | ((repeat (first | exact A0 | exact Up.here | apply A1 | apply Up.there)); first | done | fail) | (simp; first | done | omega | fail)) [])))
 rw [e1]
 exact A9 (by simp; omega)
theorem C6T : Fn PR B5 212 #[.pointer (some ⟨b5, 0, none⟩)] w (fun v w' => v = .bool (decide (gv s 6 2 % 16384 ≠ 0)) ∧ C0 [] w w') := by
 refine Fn.pure (B1G (TW.go (κ := false) (S := []) ?_))
 unfold A4u
 (have hQq := trivial; repeat ((first | clear hQq | (with_reducible first | refine A3 ?_ | refine A4 fun _ => ?_ | refine A5 fun _ => ?_ | refine D4 fun _ => ?_ | refine D3 (hK := fun _ => ?_) | refine D1 (hK := fun _ => ?_) | refine D2 (hK := fun _ => ?_) | refine D6 (hK := fun _ => ?_) | refine D5 (hK := fun _ => ?_))); (try simp (disch := first | omega | assumption | ((repeat (first | exact A0 | exact Up.here | apply A1 | apply Up.there)); first | done | fail) | (simp; first | done | omega | fail)) [h1, h5])))
 refine B7 m5 (fun w' hw' => A3y w' s hs b1 6 2 (by omega) (by omega) (hw'.ks.cell (by simp) h1)) ?_
 have := j2 s 6
 (have hQq := trivial; repeat ((first | clear hQq | (with_reducible first | refine A3 ?_ | refine A4 fun _ => ?_ | refine A5 fun _ => ?_ | refine D4 fun _ => ?_ | refine D3 (hK := fun _ => ?_) | refine D1 (hK := fun _ => ?_) | refine D2 (hK := fun _ => ?_) | refine D6 (hK := fun _ => ?_) | refine D5 (hK := fun _ => ?_))); (try simp (disch := first | omega | assumption | ((repeat (first | exact A0 | exact Up.here | apply A1 | apply Up.there)); first | done | fail) | (simp; first | done | omega | fail)) [])))
 rw [C6f _ this]
 exact A9 (by simp; omega)
omit h5
include h6
theorem C53 (hl : H8 s ≤ s.size) : Fn PR B5 210 #[.pointer (some ⟨b1, 0, none⟩), .pointer (some ⟨b6, 0, none⟩)] w (fun v w' => v = .bool (decide (g5 (s.extract 0 (H8 s)) ≠ 65535)) ∧ C0 [] w w') := by
 refine Fn.pure (B09 (TW.go (κ := false) (S := []) ?_))
 unfold A4r
 have hl' : ((H8 s : Nat) : Int) ≤ s.size := by omega
 (have hQq := trivial; repeat ((first | clear hQq | (with_reducible first | refine A3 ?_ | refine A4 fun _ => ?_ | refine A5 fun _ => ?_ | refine D4 fun _ => ?_ | refine D3 (hK := fun _ => ?_) | refine D1 (hK := fun _ => ?_) | refine D2 (hK := fun _ => ?_) | refine D6 (hK := fun _ => ?_) | refine D5 (hK := fun _ => ?_))); (try simp (disch := first | omega | assumption | ((repeat (first | exact A0 | exact Up.here | apply A1 | apply Up.there)); first | done | fail) | (simp; first | done | omega | fail)) [h1, h6])))
 refine B7 B5p (fun w' hw' => C3g w' _ (by simp [ByteArray.size_extract]; omega)) ?_
 (have hQq := trivial; repeat ((first | clear hQq | (with_reducible first | refine A3 ?_ | refine A4 fun _ => ?_ | refine A5 fun _ => ?_ | refine D4 fun _ => ?_ | refine D3 (hK := fun _ => ?_) | refine D1 (hK := fun _ => ?_) | refine D2 (hK := fun _ => ?_) | refine D6 (hK := fun _ => ?_) | refine D5 (hK := fun _ => ?_))); (try simp (disch := first | omega | assumption | ((repeat (first | exact A0 | exact Up.here | apply A1 | apply Up.there)); first | done | fail) | (simp; first | done | omega | fail)) [])))
 exact A9 (by simp)
include h7
theorem C7a : Fn PR B5 209 #[.pointer (some ⟨b6, 0, none⟩), .pointer (some ⟨b1, 0, none⟩), .pointer (some ⟨b7, 0, none⟩)] w
  (fun v w' => v = .bool (decide (H8 s < 20 ∨ s.size < H8 s ∨ gv s 2 2 < H8 s ∨ s.size < gv s 2 2)) ∧ C0 [] w w') := by
 have hs_ := hs
 refine Fn.pure (B1z (TW.go (κ := false) (S := []) ?_))
 unfold A4x
 by_cases g1 : H8 s < 20
 ·have g1' : ((H8 s : Nat) : Int) < 20 := by omega
  (have hQq := trivial; repeat ((first | clear hQq | (with_reducible first | refine A3 ?_ | refine A4 fun _ => ?_ | refine A5 fun _ => ?_ | refine D4 fun _ => ?_ | refine D3 (hK := fun _ => ?_) | refine D1 (hK := fun _ => ?_) | refine D2 (hK := fun _ => ?_) | refine D6 (hK := fun _ => ?_) | refine D5 (hK := fun _ => ?_))); (try simp (disch := first | omega | assumption | ((repeat (first | exact A0 | exact Up.here | apply A1 | apply Up.there)); first | done | fail) | (simp; first | done | omega | fail)) [h1, h6, h7, g1, g1'])))
  exact A9 (by simp [g1])
 have g1' : ¬ ((H8 s : Nat) : Int) < 20 := by omega
 by_cases g2 : s.size < H8 s
 ·have g2' : ((s.size : Nat) : Int) < H8 s := by omega
  (have hQq := trivial; repeat ((first | clear hQq | (with_reducible first | refine A3 ?_ | refine A4 fun _ => ?_ | refine A5 fun _ => ?_ | refine D4 fun _ => ?_ | refine D3 (hK := fun _ => ?_) | refine D1 (hK := fun _ => ?_) | refine D2 (hK := fun _ => ?_) | refine D6 (hK := fun _ => ?_) | refine D5 (hK := fun _ => ?_))); (try simp (disch := first | omega | assumption | ((repeat (first | exact A0 | exact Up.here | apply A1 | apply Up.there)); first | done | fail) | (simp; first | done | omega | fail)) [h1, h6, h7, g1, g1', g2, g2'])))
  exact A9 (by simp [g2])
 have g2' : ¬ ((s.size : Nat) : Int) < H8 s := by omega
 by_cases g3 : gv s 2 2 < H8 s
 ·have g3' : ((gv s 2 2 : Nat) : Int) < H8 s := by omega
  (have hQq := trivial; repeat ((first | clear hQq | (with_reducible first | refine A3 ?_ | refine A4 fun _ => ?_ | refine A5 fun _ => ?_ | refine D4 fun _ => ?_ | refine D3 (hK := fun _ => ?_) | refine D1 (hK := fun _ => ?_) | refine D2 (hK := fun _ => ?_) | refine D6 (hK := fun _ => ?_) | refine D5 (hK := fun _ => ?_))); (try simp (disch := first | omega | assumption | ((repeat (first | exact A0 | exact Up.here | apply A1 | apply Up.there)); first | done | fail) | (simp; first | done | omega | fail)) [h1, h6, h7, g1, g1', g2, g2', g3, g3'])))
  exact A9 (by simp [g3])
 have g3' : ¬ ((gv s 2 2 : Nat) : Int) < H8 s := by omega
 (have hQq := trivial; repeat ((first | clear hQq | (with_reducible first | refine A3 ?_ | refine A4 fun _ => ?_ | refine A5 fun _ => ?_ | refine D4 fun _ => ?_ | refine D3 (hK := fun _ => ?_) | refine D1 (hK := fun _ => ?_) | refine D2 (hK := fun _ => ?_) | refine D6 (hK := fun _ => ?_) | refine D5 (hK := fun _ => ?_))); (try simp (disch := first | omega | assumption | ((repeat (first | exact A0 | exact Up.here | apply A1 | apply Up.there)); first | done | fail) | (simp; first | done | omega | fail)) [h1, h6, h7, g1, g1', g2, g2', g3, g3'])))
 exact A9 (by simp [g1, g2, g3])
end
theorem B6H (w : World) (s : ByteArray) (hs : s.size < 2 ^ 40) : Fn PR B5 187 #[.string s] w (fun v w' => v = (Q1 s).val ∧ C0 [] w w') := by
 refine Fn.pure (B4k (TW.go (κ := false) (S := []) ?_))
 unfold A8l
 (have hQq := trivial; repeat ((first | clear hQq | (with_reducible first | refine A3 ?_ | refine A4 fun _ => ?_ | refine A5 fun _ => ?_ | refine D4 fun _ => ?_ | refine D3 (hK := fun _ => ?_) | refine D1 (hK := fun _ => ?_) | refine D2 (hK := fun _ => ?_) | refine D6 (hK := fun _ => ?_) | refine D5 (hK := fun _ => ?_))); (try simp (disch := first | omega | assumption | ((repeat (first | exact A0 | exact Up.here | apply A1 | apply Up.there)); first | done | fail) | (simp; first | done | omega | fail)) [])))
 rename_i b1 b2 b5
 refine B15 (α := Nat × Nat) (fun _ => True) (fun x => [.pt x.1 (.cells #[.int .i64 (H8 s : Nat)] 3), .pt x.2 (.cells #[.int .i64 (gv s 2 2 : Nat)] 3),
  .pt b5 (.cells #[.func (.func 205) #[] #[.pointer (some ⟨b1, 0, none⟩)]] 152), .pt b2 (.cells #[.string P6, .string P6, .int .i64 0] 166), .pt b1 (.cells #[.string s] 9)])
  (fun x => .pointer (some ⟨x.1, 0, none⟩)) (fun x => .pointer (some ⟨x.2, 0, none⟩)) ?_ ?_
 ·rintro ⟨b6, b7⟩ _
  simp only
  (have hQq := trivial; repeat ((first | clear hQq | (with_reducible first | refine A3 ?_ | refine A4 fun _ => ?_ | refine A5 fun _ => ?_ | refine D4 fun _ => ?_ | refine D3 (hK := fun _ => ?_) | refine D1 (hK := fun _ => ?_) | refine D2 (hK := fun _ => ?_) | refine D6 (hK := fun _ => ?_) | refine D5 (hK := fun _ => ?_))); (try simp (disch := first | omega | assumption | ((repeat (first | exact A0 | exact Up.here | apply A1 | apply Up.there)); first | done | fail) | (simp; first | done | omega | fail)) [])))
  rename_i bl
  refine B7 (u := .int .i64 (A3u s : Nat)) B3u (fun w' hw' => ?_) ?_
  ·have h1 := hw'.cell1 (b := b1) (by ((repeat (first | exact A0 | exact Up.here | exact Sel.here | apply A1 | apply Up.there | apply Sel.there)); first | done | fail))
   have h5 := hw'.cell1 (b := b5) (by ((repeat (first | exact A0 | exact Up.here | exact Sel.here | apply A1 | apply Up.there | apply Sel.there)); first | done | fail))
   have h6 := hw'.cell1 (b := b6) (by ((repeat (first | exact A0 | exact Up.here | exact Sel.here | apply A1 | apply Up.there | apply Sel.there)); first | done | fail))
   have h7 := hw'.cell1 (b := b7) (by ((repeat (first | exact A0 | exact Up.here | exact Sel.here | apply A1 | apply Up.there | apply Sel.there)); first | done | fail))
   have hk : ∀ {w2 : World} {b : Nat} {v : Value}, KS false [] w' w2 → w'.cell? ⟨b, 0, none⟩ = some v → w2.cell? ⟨b, 0, none⟩ = some v := fun h e => h.cell (by simp) e
   have hE : A3Q [(.func (.func 207) #[] #[.pointer (some ⟨b1, 0, none⟩)], 2, decide (s.size < 20)), (.func (.func 208) #[] #[.pointer (some ⟨b5, 0, none⟩)], 3, decide (gv s 0 1 / 16 ≠ 4)),
    (.func (.func 209) #[] #[.pointer (some ⟨b6, 0, none⟩), .pointer (some ⟨b1, 0, none⟩), .pointer (some ⟨b7, 0, none⟩)], 4, decide (H8 s < 20 ∨ s.size < H8 s ∨ gv s 2 2 < H8 s ∨ s.size < gv s 2 2)),
    (.func (.func 210) #[] #[.pointer (some ⟨b1, 0, none⟩), .pointer (some ⟨b6, 0, none⟩)], 5, decide (g5 (s.extract 0 (H8 s)) ≠ 65535)), (.func (.func 212) #[] #[.pointer (some ⟨b5, 0, none⟩)], 6, decide (gv s 6 2 % 16384 ≠ 0))] = (A3u s : Nat) := by
    unfold A3Q A3u
    by_cases c1 : s.size < 20
    ·simp [c1]
    by_cases c2 : gv s 0 1 / 16 ≠ 4
    ·simp [c1, c2]
    by_cases c3 : H8 s < 20 ∨ s.size < H8 s ∨ gv s 2 2 < H8 s ∨ s.size < gv s 2 2
    ·simp [c1, c2, c3]
    by_cases c4 : g5 (s.extract 0 (H8 s)) ≠ 65535
    ·simp [c1, c2, c3, c4]
    by_cases c5 : gv s 6 2 % 16384 ≠ 0
    ·simp [c1, c2, c3, c4, c5]
    ·simp [c1, c2, c3, c4, c5]
   rw [← hE]
   refine C2U w' _ _ (by simp) ?_ ?_
   ·have := K6.own (κ := false) (S := []) (w0 := w) (e := 300) (k := 2) (q := 5) (v := .slice (some ⟨bl, 0, none⟩) 5 5) (by ((repeat (first | exact A0 | exact Up.here | exact Sel.here | apply A1 | apply Up.there | apply Sel.there)); first | done | fail)) w' hw'
    simpa [B4g] using this
   ·intro i hi hpre
    have hi' : i = 0 ∨ i = 1 ∨ i = 2 ∨ i = 3 ∨ i = 4 := by simp at hi; omega
    rcases hi' with rfl | rfl | rfl | rfl | rfl
    ·exact ⟨_, _, rfl, B0b, fun w2 h => C6E w2 s b1 (hk h h1)⟩
    ·exact ⟨_, _, rfl, B0V, fun w2 h => C67 w2 s hs b1 b5 (hk h h1) (hk h h5)⟩
    ·exact ⟨_, _, rfl, B0y, fun w2 h => C7a w2 s hs b1 b6 b7 (hk h h1) (hk h h6) (hk h h7)⟩
    ·have h2 := hpre 2 (by omega)
     simp only [List.getElem_cons_succ, List.getElem_cons_zero, decide_eq_false_iff_not] at h2
     exact ⟨_, _, rfl, B0x, fun w2 h => C53 w2 s hs b1 b6 (hk h h1) (hk h h6) (by omega)⟩
    ·exact ⟨_, _, rfl, B0f, fun w2 h => C6T w2 s hs b1 b5 (hk h h1) (hk h h5)⟩
  ·by_cases he : A3u s = 0
   ·have hE := he
    unfold A3u at hE
    by_cases c1 : s.size < 20
    ·simp [c1] at hE
    by_cases c2 : gv s 0 1 / 16 ≠ 4
    ·simp [c1, c2] at hE
    by_cases c3 : H8 s < 20 ∨ s.size < H8 s ∨ gv s 2 2 < H8 s ∨ s.size < gv s 2 2
    ·simp [c1, c2, c3] at hE
    clear hE
    have hg91 := B1V s 9
    (have hQq := trivial; repeat ((first | clear hQq | (with_reducible first | refine A3 ?_ | refine A4 fun _ => ?_ | refine A5 fun _ => ?_ | refine D4 fun _ => ?_ | refine D3 (hK := fun _ => ?_) | refine D1 (hK := fun _ => ?_) | refine D2 (hK := fun _ => ?_) | refine D6 (hK := fun _ => ?_) | refine D5 (hK := fun _ => ?_))); (try simp (disch := first | omega | assumption | ((repeat (first | exact A0 | exact Up.here | apply A1 | apply Up.there)); first | done | fail) | (simp; first | done | omega | fail)) [he])))
    refine B7 m5 (fun w' hw' => C30 w' s hs b1 (hw'.cell1 (by ((repeat (first | exact A0 | exact Up.here | exact Sel.here | apply A1 | apply Up.there | apply Sel.there)); first | done | fail)))) ?_
    (have hQq := trivial; repeat ((first | clear hQq | (with_reducible first | refine A3 ?_ | refine A4 fun _ => ?_ | refine A5 fun _ => ?_ | refine D4 fun _ => ?_ | refine D3 (hK := fun _ => ?_) | refine D1 (hK := fun _ => ?_) | refine D2 (hK := fun _ => ?_) | refine D6 (hK := fun _ => ?_) | refine D5 (hK := fun _ => ?_))); (try simp (disch := first | omega | assumption | ((repeat (first | exact A0 | exact Up.here | apply A1 | apply Up.there)); first | done | fail) | (simp; first | done | omega | fail)) [])))
    exact A9 (by simp [Q1, he, HeadV.val])
   ·(have hQq := trivial; repeat ((first | clear hQq | (with_reducible first | refine A3 ?_ | refine A4 fun _ => ?_ | refine A5 fun _ => ?_ | refine D4 fun _ => ?_ | refine D3 (hK := fun _ => ?_) | refine D1 (hK := fun _ => ?_) | refine D2 (hK := fun _ => ?_) | refine D6 (hK := fun _ => ?_) | refine D5 (hK := fun _ => ?_))); (try simp (disch := first | omega | assumption | ((repeat (first | exact A0 | exact Up.here | apply A1 | apply Up.there)); first | done | fail) | (simp; first | done | omega | fail)) [he])))
    exact A9 (by simp [Q1, he, HeadV.val, HeadV.err])
 ·intro J hJ
  have hl := B1V s 0
  have e15 := C6a _ hl
  have em : ((gv s 0 1 : Nat) : Int) % 16 * 4 = (H8 s : Nat) := by simp [H8]
  have hJ' := fun b6 b7 => hJ (b6, b7) trivial
  simp only at hJ'
  clear hJ
  iterate 16 all_goals (try (first
   | exact fun _ _ => trivial
   | with_reducible refine And.intro ?_ ?_
   | (with_reducible apply B7 m5); (first | with_reducible exact fun w' hw' => C36 w' s hs b1 (hw'.cell1 (by ((repeat (first | exact A0 | exact Up.here | exact Sel.here | apply A1 | apply Up.there | apply Sel.there)); first | done | fail))) | with_reducible exact fun w' hw' => C3x w' s hs b1 (hw'.cell1 (by ((repeat (first | exact A0 | exact Up.here | exact Sel.here | apply A1 | apply Up.there | apply Sel.there)); first | done | fail))))
   | with_reducible refine A5 fun _ => ?_
   | simp (disch := first | omega | assumption | ((repeat (first | exact A0 | exact Up.here | apply A1 | apply Up.there)); first | done | fail) | (simp; first | done | omega | fail)) [e15, em]
   | with_reducible exact Sels.tw (by ((repeat (first | exact Sels.nil | (apply Sels.cons; · ((repeat (first | exact A0 | exact Up.here | exact Sel.here | apply A1 | apply Up.there | apply Sel.there)); first | done | fail)))); first | done | fail)) (hJ' _ _)))
  all_goals trace_state
def A65 (src dst : ByteArray) (proto : Int) (n : Nat) (own : Int) : ByteArray :=
 ByteArray.mk #[69, 0] ++ E4 (20 + n) 2 ++ ByteArray.mk #[0, 0, 64, 0, 64] ++ E4 proto 1 ++ E4 own 2 ++ src ++ dst
theorem B8C (w : World) (src dst rest : ByteArray) (proto own : Int) (b1 b2 : Nat) (h1 : w.cell? ⟨b1, 0, none⟩ = some (.string rest)) (h2 : w.cell? ⟨b2, 0, none⟩ = some (.string src)) (h3 : w.cell? ⟨b2, 1, none⟩ = some (.string dst))
  (h4 : w.cell? ⟨b2, 2, none⟩ = some (.int .i64 proto)) (hr : rest.size ≤ 65515) (hs : src.size = 4) (hd : dst.size = 4) (hp0 : 0 ≤ proto) (hp : proto ≤ 255) (ho0 : 0 ≤ own) (ho : own ≤ 65535) :
  Fn PR B5 150 #[.int .i64 own, .pointer (some ⟨b1, 0, none⟩), .pointer (some ⟨b2, 0, none⟩)] w (fun v w' => v = .string (A65 src dst proto rest.size own) ∧ C0 [] w w') := by
 refine Fn.pure (B38 (TW.go (κ := false) (S := []) ?_))
 unfold A7u
 (have hQq := trivial; repeat ((first | clear hQq | (with_reducible first | refine A3 ?_ | refine A4 fun _ => ?_ | refine A5 fun _ => ?_ | refine D4 fun _ => ?_ | refine D3 (hK := fun _ => ?_) | refine D1 (hK := fun _ => ?_) | refine D2 (hK := fun _ => ?_) | refine D6 (hK := fun _ => ?_) | refine D5 (hK := fun _ => ?_))); (try simp (disch := first | omega | assumption | ((repeat (first | exact A0 | exact Up.here | apply A1 | apply Up.there)); first | done | fail) | (simp; first | done | omega | fail)) [h1, h2, h3, h4])))
 refine B7 G8 (fun w' hw' => Z0 w' _ _) ?_
 (have hQq := trivial; repeat ((first | clear hQq | (with_reducible first | refine A3 ?_ | refine A4 fun _ => ?_ | refine A5 fun _ => ?_ | refine D4 fun _ => ?_ | refine D3 (hK := fun _ => ?_) | refine D1 (hK := fun _ => ?_) | refine D2 (hK := fun _ => ?_) | refine D6 (hK := fun _ => ?_) | refine D5 (hK := fun _ => ?_))); (try simp (disch := first | omega | assumption | ((repeat (first | exact A0 | exact Up.here | apply A1 | apply Up.there)); first | done | fail) | (simp; first | done | omega | fail)) [h1, h2, h3, h4, P1])))
 refine B7 G8 (fun w' hw' => Z0 w' _ _) ?_
 (have hQq := trivial; repeat ((first | clear hQq | (with_reducible first | refine A3 ?_ | refine A4 fun _ => ?_ | refine A5 fun _ => ?_ | refine D4 fun _ => ?_ | refine D3 (hK := fun _ => ?_) | refine D1 (hK := fun _ => ?_) | refine D2 (hK := fun _ => ?_) | refine D6 (hK := fun _ => ?_) | refine D5 (hK := fun _ => ?_))); (try simp (disch := first | omega | assumption | ((repeat (first | exact A0 | exact Up.here | apply A1 | apply Up.there)); first | done | fail) | (simp; first | done | omega | fail)) [h1, h2, h3, h4, P1])))
 refine B7 G8 (fun w' hw' => Z0 w' _ _) ?_
 (have hQq := trivial; repeat ((first | clear hQq | (with_reducible first | refine A3 ?_ | refine A4 fun _ => ?_ | refine A5 fun _ => ?_ | refine D4 fun _ => ?_ | refine D3 (hK := fun _ => ?_) | refine D1 (hK := fun _ => ?_) | refine D2 (hK := fun _ => ?_) | refine D6 (hK := fun _ => ?_) | refine D5 (hK := fun _ => ?_))); (try simp (disch := first | omega | assumption | ((repeat (first | exact A0 | exact Up.here | apply A1 | apply Up.there)); first | done | fail) | (simp; first | done | omega | fail)) [h1, h2, h3, h4, P1, hs, hd])))
 exact A9 rfl
def A7P (src dst rest : ByteArray) (proto : Int) : ByteArray × Nat :=
 if src.size ≠ 4 ∨ dst.size ≠ 4 ∨ proto < 0 ∨ 255 < proto then (P6, 1) else if 65515 < rest.size then (P6, 4) else (A65 src dst proto rest.size (B26 (A65 src dst proto rest.size 0)) ++ rest, 0)
theorem B3N {src dst : ByteArray} {proto own : Int} {n : Nat} (hs : src.size = 4) (hd : dst.size = 4) : (A65 src dst proto n own).size = 20 := by simp [A65, hs, hd]
theorem C4J (s : ByteArray) : 0 ≤ B26 s ∧ B26 s ≤ 65535 := by
 have := B16 (A15 s (N8 s)); unfold B26 g5; omega
theorem B9D (w : World) (src dst rest : ByteArray) (proto : Int) (hrs : rest.size < 2 ^ 40) :
  Fn PR B5 103 #[.agg #[.string src, .string dst, .int .i64 proto], .string rest] w (fun v w' => v = .tuple #[.string (A7P src dst rest proto).1, .int .i64 (A7P src dst rest proto).2] ∧ C0 [] w w') := by
 refine Fn.pure (B8j (TW.go (κ := false) (S := []) ?_))
 unfold B1l
 by_cases c1 : src.size = 4
 case neg =>
  have c1' : ¬ (src.size : Int) = 4 := by omega
  (have hQq := trivial; repeat ((first | clear hQq | (with_reducible first | refine A3 ?_ | refine A4 fun _ => ?_ | refine A5 fun _ => ?_ | refine D4 fun _ => ?_ | refine D3 (hK := fun _ => ?_) | refine D1 (hK := fun _ => ?_) | refine D2 (hK := fun _ => ?_) | refine D6 (hK := fun _ => ?_) | refine D5 (hK := fun _ => ?_))); (try simp (disch := first | omega | assumption | ((repeat (first | exact A0 | exact Up.here | apply A1 | apply Up.there)); first | done | fail) | (simp; first | done | omega | fail)) [c1']))); exact A9 (by simp [A7P, c1])
 by_cases c2 : dst.size = 4
 case neg =>
  have c2' : ¬ (dst.size : Int) = 4 := by omega
  (have hQq := trivial; repeat ((first | clear hQq | (with_reducible first | refine A3 ?_ | refine A4 fun _ => ?_ | refine A5 fun _ => ?_ | refine D4 fun _ => ?_ | refine D3 (hK := fun _ => ?_) | refine D1 (hK := fun _ => ?_) | refine D2 (hK := fun _ => ?_) | refine D6 (hK := fun _ => ?_) | refine D5 (hK := fun _ => ?_))); (try simp (disch := first | omega | assumption | ((repeat (first | exact A0 | exact Up.here | apply A1 | apply Up.there)); first | done | fail) | (simp; first | done | omega | fail)) [c1, c2']))); exact A9 (by simp [A7P, c2])
 by_cases c3 : proto < 0
 ·(have hQq := trivial; repeat ((first | clear hQq | (with_reducible first | refine A3 ?_ | refine A4 fun _ => ?_ | refine A5 fun _ => ?_ | refine D4 fun _ => ?_ | refine D3 (hK := fun _ => ?_) | refine D1 (hK := fun _ => ?_) | refine D2 (hK := fun _ => ?_) | refine D6 (hK := fun _ => ?_) | refine D5 (hK := fun _ => ?_))); (try simp (disch := first | omega | assumption | ((repeat (first | exact A0 | exact Up.here | apply A1 | apply Up.there)); first | done | fail) | (simp; first | done | omega | fail)) [c1, c2, c3]))); exact A9 (by simp [A7P, c3])
 by_cases c4 : 255 < proto
 ·(have hQq := trivial; repeat ((first | clear hQq | (with_reducible first | refine A3 ?_ | refine A4 fun _ => ?_ | refine A5 fun _ => ?_ | refine D4 fun _ => ?_ | refine D3 (hK := fun _ => ?_) | refine D1 (hK := fun _ => ?_) | refine D2 (hK := fun _ => ?_) | refine D6 (hK := fun _ => ?_) | refine D5 (hK := fun _ => ?_))); (try simp (disch := first | omega | assumption | ((repeat (first | exact A0 | exact Up.here | apply A1 | apply Up.there)); first | done | fail) | (simp; first | done | omega | fail)) [c1, c2, c3, c4]))); exact A9 (by simp [A7P, c4])
 by_cases c5 : 65515 < rest.size
 ·have c5' : 65515 < (rest.size : Int) := by omega
  (have hQq := trivial; repeat ((first | clear hQq | (with_reducible first | refine A3 ?_ | refine A4 fun _ => ?_ | refine A5 fun _ => ?_ | refine D4 fun _ => ?_ | refine D3 (hK := fun _ => ?_) | refine D1 (hK := fun _ => ?_) | refine D2 (hK := fun _ => ?_) | refine D6 (hK := fun _ => ?_) | refine D5 (hK := fun _ => ?_))); (try simp (disch := first | omega | assumption | ((repeat (first | exact A0 | exact Up.here | apply A1 | apply Up.there)); first | done | fail) | (simp; first | done | omega | fail)) [c1, c2, c3, c4, c5']))); exact A9 (by simp [A7P, c1, c2, c3, c4, c5])
 have c5' : ¬ 65515 < (rest.size : Int) := by omega
 (have hQq := trivial; repeat ((first | clear hQq | (with_reducible first | refine A3 ?_ | refine A4 fun _ => ?_ | refine A5 fun _ => ?_ | refine D4 fun _ => ?_ | refine D3 (hK := fun _ => ?_) | refine D1 (hK := fun _ => ?_) | refine D2 (hK := fun _ => ?_) | refine D6 (hK := fun _ => ?_) | refine D5 (hK := fun _ => ?_))); (try simp (disch := first | omega | assumption | ((repeat (first | exact A0 | exact Up.here | apply A1 | apply Up.there)); first | done | fail) | (simp; first | done | omega | fail)) [c1, c2, c3, c4, c5'])))
 rename_i bh br
 have key : ∀ w', LW false [] w [.pt br (.cells #[.string rest] 9), .pt bh (.cells #[.string src, .string dst, .int .i64 proto] 166)] w' → ∀ own : Int, 0 ≤ own → own ≤ 65535 → _ :=
  fun w' hw' own h0 h1 => B8C w' src dst rest proto own br bh (hw'.cell1 (by ((repeat (first | exact A0 | exact Up.here | exact Sel.here | apply A1 | apply Up.there | apply Sel.there)); first | done | fail))) (hw'.cell (by ((repeat (first | exact A0 | exact Up.here | exact Sel.here | apply A1 | apply Up.there | apply Sel.there)); first | done | fail)) (by rfl)) (hw'.cell (by ((repeat (first | exact A0 | exact Up.here | exact Sel.here | apply A1 | apply Up.there | apply Sel.there)); first | done | fail)) (by rfl)) (hw'.cell (by ((repeat (first | exact A0 | exact Up.here | exact Sel.here | apply A1 | apply Up.there | apply Sel.there)); first | done | fail)) (by rfl)) (by omega) c1 c2 (by omega) (by omega) h0 h1
 refine B7 A6y (fun w' hw' => key w' hw' 0 (by omega) (by omega)) ?_
 (have hQq := trivial; repeat ((first | clear hQq | (with_reducible first | refine A3 ?_ | refine A4 fun _ => ?_ | refine A5 fun _ => ?_ | refine D4 fun _ => ?_ | refine D3 (hK := fun _ => ?_) | refine D1 (hK := fun _ => ?_) | refine D2 (hK := fun _ => ?_) | refine D6 (hK := fun _ => ?_) | refine D5 (hK := fun _ => ?_))); (try simp (disch := first | omega | assumption | ((repeat (first | exact A0 | exact Up.here | apply A1 | apply Up.there)); first | done | fail) | (simp; first | done | omega | fail)) [])))
 have hz : (A65 src dst proto rest.size 0).size = 20 := B3N c1 c2
 have hv := C4J (A65 src dst proto rest.size 0)
 refine B7 B66 (fun w' hw' => C4s w' _ (by omega)) ?_
 (have hQq := trivial; repeat ((first | clear hQq | (with_reducible first | refine A3 ?_ | refine A4 fun _ => ?_ | refine A5 fun _ => ?_ | refine D4 fun _ => ?_ | refine D3 (hK := fun _ => ?_) | refine D1 (hK := fun _ => ?_) | refine D2 (hK := fun _ => ?_) | refine D6 (hK := fun _ => ?_) | refine D5 (hK := fun _ => ?_))); (try simp (disch := first | omega | assumption | ((repeat (first | exact A0 | exact Up.here | apply A1 | apply Up.there)); first | done | fail) | (simp; first | done | omega | fail)) [])))
 refine B7 A6y (fun w' hw' => key w' hw' _ hv.1 hv.2) ?_
 have hz2 : (A65 src dst proto rest.size (B26 (A65 src dst proto rest.size 0))).size = 20 := B3N c1 c2
 (have hQq := trivial; repeat ((first | clear hQq | (with_reducible first | refine A3 ?_ | refine A4 fun _ => ?_ | refine A5 fun _ => ?_ | refine D4 fun _ => ?_ | refine D3 (hK := fun _ => ?_) | refine D1 (hK := fun _ => ?_) | refine D2 (hK := fun _ => ?_) | refine D6 (hK := fun _ => ?_) | refine D5 (hK := fun _ => ?_))); (try simp (disch := first | omega | assumption | ((repeat (first | exact A0 | exact Up.here | apply A1 | apply Up.there)); first | done | fail) | (simp; first | done | omega | fail)) [P1])))
 exact A9 (by simp [A7P, c1, c2, c3, c4, c5])
end Go.Proofs.YtggakcpabomliaaGreat
namespace Go.Proofs.YtggakcpabomliaaGreat
open Go
def A7Q : List Nat → ByteArray → List ByteArray
 | [], s => [s]
 | n :: ns, s => s.extract 0 n :: A7Q ns (s.extract n s.size)
theorem C5T (w : World) (v : Value) (ns : List Nat) (s : ByteArray) (hn : ns.length < 100) (hv : E3 w v ns.length (ns.map fun n : Nat => Value.int .i64 (n : Int))) (hs : ns.sum ≤ s.size) (hs2 : s.size < 2 ^ 40) :
  Fn PR B5 213 #[.string s, v] w (Rn [] w (fun v u => u = v) fun v => [.own 9 1 v (ns.length + 1) ((A7Q ns s).map .string)]) := by
 refine B8U (TW.go (κ := false) (S := []) ?_)
 unfold B1A
 obtain ⟨a, c, rfl, hrow⟩ := hv.form
 (have hQq := trivial; repeat ((first | clear hQq | (with_reducible first | refine A3 ?_ | refine A4 fun _ => ?_ | refine A5 fun _ => ?_ | refine D4 fun _ => ?_ | refine D3 (hK := fun _ => ?_) | refine D1 (hK := fun _ => ?_) | refine D2 (hK := fun _ => ?_) | refine D6 (hK := fun _ => ?_) | refine D5 (hK := fun _ => ?_))); (try simp (disch := first | omega | assumption | ((repeat (first | exact A0 | exact Up.here | apply A1 | apply Up.there)); first | done | fail) | (simp; first | done | omega | fail)) [])))
 refine l6 9 1 ?_
 refine C0x (α := Value × ByteArray × List ByteArray) ns.length (fun _ x => x.1) (fun _ x => .string x.2.1) (fun i x => [.own 9 1 x.1 i (x.2.2.map .string)])
  (fun i x => A7Q ns s = x.2.2 ++ A7Q (ns.drop i) x.2.1 ∧ (ns.drop i).sum ≤ x.2.1.size ∧ x.2.1.size ≤ s.size) (.slice none 0 0, s, []) ⟨by simp, by simpa using hs, Nat.le_refl _⟩ ?_
 rintro i ⟨v, r, d⟩ hi ⟨h1, h2, h3⟩ L hL
 simp only at h1 h2 h3 hL ⊢
 by_cases hlt : i < ns.length
 ·obtain ⟨b, o, rfl, hr⟩ := hrow (by omega)
  have hx : ns[i]? = some ns[i] := List.getElem?_eq_getElem hlt
  have hc := hr.one hx
  rw [List.drop_eq_getElem_cons hlt] at h1 h2
  simp only [List.sum_cons, A7Q] at h1 h2
  have hle : ((ns[i] : Nat) : Int) ≤ r.size := by omega
  (have hQq := trivial; repeat ((first | clear hQq | (with_reducible first | refine A3 ?_ | refine A4 fun _ => ?_ | refine A5 fun _ => ?_ | refine D4 fun _ => ?_ | refine D3 (hK := fun _ => ?_) | refine D1 (hK := fun _ => ?_) | refine D2 (hK := fun _ => ?_) | refine D6 (hK := fun _ => ?_) | refine D5 (hK := fun _ => ?_))); (try simp (disch := first | omega | assumption | ((repeat (first | exact A0 | exact Up.here | apply A1 | apply Up.there)); first | done | fail) | (simp; first | done | omega | fail)) [hlt, hc])))
  refine l0 (by ((repeat (first | exact A0 | exact Up.here | exact Sel.here | apply A1 | apply Up.there | apply Sel.there)); first | done | fail)) (K6.own (by ((repeat (first | exact A0 | exact Up.here | exact Sel.here | apply A1 | apply Up.there | apply Sel.there)); first | done | fail))) (by decide) (by simp) (by simp) (by simp only [maxLen]; omega) (by omega) fun a' c' => ?_
  (have hQq := trivial; repeat ((first | clear hQq | (with_reducible first | refine A3 ?_ | refine A4 fun _ => ?_ | refine A5 fun _ => ?_ | refine D4 fun _ => ?_ | refine D3 (hK := fun _ => ?_) | refine D1 (hK := fun _ => ?_) | refine D2 (hK := fun _ => ?_) | refine D6 (hK := fun _ => ?_) | refine D5 (hK := fun _ => ?_))); (try simp (disch := first | omega | assumption | ((repeat (first | exact A0 | exact Up.here | apply A1 | apply Up.there)); first | done | fail) | (simp; first | done | omega | fail)) [hlt, hle])))
  have := hL hlt (.slice a' (i + 1) c', r.extract ns[i] r.size, d ++ [r.extract 0 ns[i]]) ⟨by rw [h1]; simp, by rw [ByteArray.size_extract]; omega, by rw [ByteArray.size_extract]; omega⟩
  simp only [List.map_append, List.map_cons, List.map_nil] at this
  exact Sels.tw (by ((repeat (first | exact Sels.nil | (apply Sels.cons; · ((repeat (first | exact A0 | exact Up.here | exact Sel.here | apply A1 | apply Up.there | apply Sel.there)); first | done | fail)))); first | done | fail)) this
 ·obtain rfl : i = ns.length := by omega
  (have hQq := trivial; repeat ((first | clear hQq | (with_reducible first | refine A3 ?_ | refine A4 fun _ => ?_ | refine A5 fun _ => ?_ | refine D4 fun _ => ?_ | refine D3 (hK := fun _ => ?_) | refine D1 (hK := fun _ => ?_) | refine D2 (hK := fun _ => ?_) | refine D6 (hK := fun _ => ?_) | refine D5 (hK := fun _ => ?_))); (try simp (disch := first | omega | assumption | ((repeat (first | exact A0 | exact Up.here | apply A1 | apply Up.there)); first | done | fail) | (simp; first | done | omega | fail)) [])))
  refine l0 (by ((repeat (first | exact A0 | exact Up.here | exact Sel.here | apply A1 | apply Up.there | apply Sel.there)); first | done | fail)) (K6.own (by ((repeat (first | exact A0 | exact Up.here | exact Sel.here | apply A1 | apply Up.there | apply Sel.there)); first | done | fail))) (by decide) (by simp) (by simp) (by simp only [maxLen]; omega) (by omega) fun a' c' => ?_
  simp only [List.drop_length, A7Q] at h1
  rw [h1]
  exact g6 _ rfl (by simp)
def A5s (s : ByteArray) : Nat := if s.size < 40 then 2 else if gv s 0 1 / 16 ≠ 6 then 3 else if s.size - 40 < gv s 4 2 then 4 else 0
def S1 (s : ByteArray) : HeadV := if A5s s = 0 then ⟨s.extract 8 24, s.extract 24 40, gv s 6 1, s.extract 40 (40 + gv s 4 2), 0⟩ else .err (A5s s)
theorem A6x (s : ByteArray) (a b i : Nat) (hb : b ≤ s.size) (hi : i < b - a) : C4 (s.extract a b) i = C4 s (a + i) := by
 unfold C4
 rw [Array.getD_eq_getD_getElem?, Array.getD_eq_getD_getElem?, ByteArray.data_extract, Array.getElem?_extract]
 rw [if_pos (by simp only [ByteArray.size] at hb; omega)]
theorem B6L (s : ByteArray) (a b i n : Nat) (hb : b ≤ s.size) (hn : i + n ≤ b - a) : V4 (s.extract a b) i n = V4 s (a + i) n := by
 induction n with
 | zero => rfl
 | succ n ih => simp only [V4]; rw [ih (by omega), A6x s a b _ hb (by omega), Nat.add_assoc]
theorem B84 {s : ByteArray} {a n : Nat} (h : a + n ≤ s.size) : gv s a n = V4 s a n := if_pos h
theorem B85 (s : ByteArray) (a b i n : Nat) (hb : b ≤ s.size) (hn : i + n ≤ b - a) (hab : a ≤ b) : gv (s.extract a b) i n = gv s (a + i) n := by
 rw [B84 (by rw [ByteArray.size_extract]; omega), B84 (by omega), B6L s a b i n hb hn]
theorem A6G {s : ByteArray} {a : Nat} (h : a < s.size) : gv s a 1 = C4 s a := by rw [B84 (by omega)]; simp [V4]
theorem B0p (s : ByteArray) (a b c d : Nat) (hb : b ≤ s.size) (hd : a + d ≤ b) : (s.extract a b).extract c d = s.extract (a + c) (a + d) := by
 apply ByteArray.ext
 rw [ByteArray.data_extract, ByteArray.data_extract, ByteArray.data_extract, Array.extract_extract]
 congr 1; omega
def C1l (s : ByteArray) : Nat → List Nat → List ByteArray
 | a, [] => [s.extract a s.size]
 | a, n :: ns => s.extract a (a + n) :: C1l s (a + n) ns
theorem C3j (s : ByteArray) (ns : List Nat) : ∀ a, a + ns.sum ≤ s.size → A7Q ns (s.extract a s.size) = C1l s a ns := by
 induction ns with
 | nil => intro a _; rfl
 | cons n ns ih =>
  intro a h
  simp only [List.sum_cons] at h
  simp only [A7Q, C1l]
  rw [B0p _ _ _ _ _ (by omega) (by omega), B0p _ _ _ _ _ (by omega) (by rw [ByteArray.size_extract]; omega), ByteArray.size_extract, Nat.add_zero]
  rw [show a + (min s.size s.size - a) = s.size from by omega, ih _ (by omega)]
theorem B6q (s : ByteArray) : s.extract 0 s.size = s := by
 apply ByteArray.ext; rw [ByteArray.data_extract]; exact Array.extract_size ..
theorem B8u {s : ByteArray} (h : 40 ≤ s.size) : A7Q [4, 2, 1, 1, 16, 16] s = [s.extract 0 4, s.extract 4 6, s.extract 6 7, s.extract 7 8, s.extract 8 24, s.extract 24 40, s.extract 40 s.size] := by
 have := C3j s [4, 2, 1, 1, 16, 16] 0 (by simp; omega)
 rw [B6q] at this; rw [this]; rfl
theorem B6T (w : World) (s : ByteArray) (hs : s.size < 2 ^ 40) : Fn PR B5 190 #[.string s] w (fun v w' => v = (S1 s).val ∧ C0 [] w w') := by
 refine Fn.pure (B5x (TW.go (κ := false) (S := []) ?_))
 unfold A8S
 by_cases c1 : s.size < 40
 ·have c1' : (s.size : Int) < 40 := by omega
  (have hQq := trivial; repeat ((first | clear hQq | (with_reducible first | refine A3 ?_ | refine A4 fun _ => ?_ | refine A5 fun _ => ?_ | refine D4 fun _ => ?_ | refine D3 (hK := fun _ => ?_) | refine D1 (hK := fun _ => ?_) | refine D2 (hK := fun _ => ?_) | refine D6 (hK := fun _ => ?_) | refine D5 (hK := fun _ => ?_))); (try simp (disch := first | omega | assumption | ((repeat (first | exact A0 | exact Up.here | apply A1 | apply Up.there)); first | done | fail) | (simp; first | done | omega | fail)) [c1']))); exact A9 (by simp [S1, A5s, c1, HeadV.val, HeadV.err])
 have c1' : ¬ (s.size : Int) < 40 := by omega
 obtain ⟨by0, hb0, hb1⟩ := m4 (s := s) (i := 0) (by omega)
 have hg0 : gv s 0 1 = C4 s 0 := A6G (by omega)
 have e1 : ((by0.toNat : Nat) : Int).fdiv (2 ^ min 4 IntKind.u8.bits) = (gv s 0 1 / 16 : Nat) := by rw [show (2 : Int) ^ min 4 IntKind.u8.bits = 16 from rfl, Int.fdiv_eq_ediv_of_nonneg _ (by omega), hb1, hg0]; omega
 have hb0' : s[(0 : Int).toNat]? = some by0 := hb0
 by_cases c2 : gv s 0 1 / 16 = 6
 case neg =>
  have c2' : ¬ ((gv s 0 1 / 16 : Nat) : Int) = 6 := by omega
  (have hQq := trivial; repeat ((first | clear hQq | (with_reducible first | refine A3 ?_ | refine A4 fun _ => ?_ | refine A5 fun _ => ?_ | refine D4 fun _ => ?_ | refine D3 (hK := fun _ => ?_) | refine D1 (hK := fun _ => ?_) | refine D2 (hK := fun _ => ?_) | refine D6 (hK := fun _ => ?_) | refine D5 (hK := fun _ => ?_))); (try simp (disch := first | omega | assumption | ((repeat (first | exact A0 | exact Up.here | apply A1 | apply Up.there)); first | done | fail) | (simp; first | done | omega | fail)) [c1', Y0])))
  rw [e1, if_neg c2']
  (have hQq := trivial; repeat ((first | clear hQq | (with_reducible first | refine A3 ?_ | refine A4 fun _ => ?_ | refine A5 fun _ => ?_ | refine D4 fun _ => ?_ | refine D3 (hK := fun _ => ?_) | refine D1 (hK := fun _ => ?_) | refine D2 (hK := fun _ => ?_) | refine D6 (hK := fun _ => ?_) | refine D5 (hK := fun _ => ?_))); (try simp (disch := first | omega | assumption | ((repeat (first | exact A0 | exact Up.here | apply A1 | apply Up.there)); first | done | fail) | (simp; first | done | omega | fail)) []))); exact A9 (by simp [S1, A5s, c1, c2, HeadV.val, HeadV.err])
 have c2' : ((gv s 0 1 / 16 : Nat) : Int) = 6 := by omega
 (have hQq := trivial; repeat ((first | clear hQq | (with_reducible first | refine A3 ?_ | refine A4 fun _ => ?_ | refine A5 fun _ => ?_ | refine D4 fun _ => ?_ | refine D3 (hK := fun _ => ?_) | refine D1 (hK := fun _ => ?_) | refine D2 (hK := fun _ => ?_) | refine D6 (hK := fun _ => ?_) | refine D5 (hK := fun _ => ?_))); (try simp (disch := first | omega | assumption | ((repeat (first | exact A0 | exact Up.here | apply A1 | apply Up.there)); first | done | fail) | (simp; first | done | omega | fail)) [c1', Y0])))
 rw [e1, if_pos c2']
 (have hQq := trivial; repeat ((first | clear hQq | (with_reducible first | refine A3 ?_ | refine A4 fun _ => ?_ | refine A5 fun _ => ?_ | refine D4 fun _ => ?_ | refine D3 (hK := fun _ => ?_) | refine D1 (hK := fun _ => ?_) | refine D2 (hK := fun _ => ?_) | refine D6 (hK := fun _ => ?_) | refine D5 (hK := fun _ => ?_))); (try simp (disch := first | omega | assumption | ((repeat (first | exact A0 | exact Up.here | apply A1 | apply Up.there)); first | done | fail) | (simp; first | done | omega | fail)) [])))
 rename_i bh bl
 refine F8 B6d (fun w' hw' => C5T w' _ [4, 2, 1, 1, 16, 16] s (by simp) ?_ (by simp; omega) (by omega)) ?_
 ·have := K6.own (κ := false) (S := []) (w0 := w) (e := 3) (k := 1) (q := 6) (v := .slice (some ⟨bl, 0, none⟩) 6 6) (by ((repeat (first | exact A0 | exact Up.here | exact Sel.here | apply A1 | apply Up.there | apply Sel.there)); first | done | fail)) w' hw'
  simpa using this
 rintro v _ rfl
 rw [B8u (by omega)]
 simp only [List.length_cons, List.length_nil, List.map_cons, List.map_nil, List.cons_append, List.nil_append]
 refine A1T (by ((repeat (first | exact A0 | exact Up.here | exact Sel.here | apply A1 | apply Up.there | apply Sel.there)); first | done | fail)) (by omega) fun g c hv => ?_
 subst hv
 (have hQq := trivial; repeat ((first | clear hQq | (with_reducible first | refine A3 ?_ | refine A4 fun _ => ?_ | refine A5 fun _ => ?_ | refine D4 fun _ => ?_ | refine D3 (hK := fun _ => ?_) | refine D1 (hK := fun _ => ?_) | refine D2 (hK := fun _ => ?_) | refine D6 (hK := fun _ => ?_) | refine D5 (hK := fun _ => ?_))); (try simp (disch := first | omega | assumption | ((repeat (first | exact A0 | exact Up.here | apply A1 | apply Up.there)); first | done | fail) | (simp; first | done | omega | fail)) [])))
 refine B7 T6 (fun w' _ => A2c w' _ (by simp; omega) _ _) ?_
 have hgv := A3L (s.extract 4 6) 0 2 (by omega) (by omega)
 rw [B85 s 4 6 0 2 (by omega) (by omega) (by omega)] at hgv
 simp only [Int.natCast_zero, Int.cast_ofNat_Int] at hgv
 have hlt := j2 s 4
 rw [hgv]
 (have hQq := trivial; repeat ((first | clear hQq | (with_reducible first | refine A3 ?_ | refine A4 fun _ => ?_ | refine A5 fun _ => ?_ | refine D4 fun _ => ?_ | refine D3 (hK := fun _ => ?_) | refine D1 (hK := fun _ => ?_) | refine D2 (hK := fun _ => ?_) | refine D6 (hK := fun _ => ?_) | refine D5 (hK := fun _ => ?_))); (try simp (disch := first | omega | assumption | ((repeat (first | exact A0 | exact Up.here | apply A1 | apply Up.there)); first | done | fail) | (simp; first | done | omega | fail)) [])))
 refine B2y (fun c3 => ?_) (fun c3 => ?_)
 ·(have hQq := trivial; repeat ((first | clear hQq | (with_reducible first | refine A3 ?_ | refine A4 fun _ => ?_ | refine A5 fun _ => ?_ | refine D4 fun _ => ?_ | refine D3 (hK := fun _ => ?_) | refine D1 (hK := fun _ => ?_) | refine D2 (hK := fun _ => ?_) | refine D6 (hK := fun _ => ?_) | refine D5 (hK := fun _ => ?_))); (try simp (disch := first | omega | assumption | ((repeat (first | exact A0 | exact Up.here | apply A1 | apply Up.there)); first | done | fail) | (simp; first | done | omega | fail)) [])))
  exact A9 (by simp [S1, A5s, c1, c2, c3, HeadV.val, HeadV.err])
 ·obtain ⟨by6, hb6, hb6'⟩ := m4 (s := s.extract 6 7) (i := 0) (by simp; omega)
  have hp : C4 (s.extract 6 7) 0 = gv s 6 1 := by rw [A6x s 6 7 0 (by omega) (by omega), A6G (by omega)]
  have hb6'' : (s.extract 6 7)[(0 : Int).toNat]? = some by6 := hb6
  have hle : ((gv s 4 2 : Nat) : Int) ≤ (s.extract 40 s.size).size := by rw [ByteArray.size_extract]; omega
  (have hQq := trivial; repeat ((first | clear hQq | (with_reducible first | refine A3 ?_ | refine A4 fun _ => ?_ | refine A5 fun _ => ?_ | refine D4 fun _ => ?_ | refine D3 (hK := fun _ => ?_) | refine D1 (hK := fun _ => ?_) | refine D2 (hK := fun _ => ?_) | refine D6 (hK := fun _ => ?_) | refine D5 (hK := fun _ => ?_))); (try simp (disch := first | omega | assumption | ((repeat (first | exact A0 | exact Up.here | apply A1 | apply Up.there)); first | done | fail) | (simp; first | done | omega | fail)) [Y0])))
  have h6 := B1V s 6
  have w6 : IntKind.i64.wrap (gv s 6 1 : Nat) = (gv s 6 1 : Nat) := U1 (by omega) (by omega)
  rw [hb6', hp]
  exact A9 (by rw [B0p s 40 s.size 0 _ (by omega) (by omega)]; simp [S1, A5s, c1, c2, c3, HeadV.val, w6])
theorem A2F : liesAt PR PR.depth 222 (2 / PR.cellsOf 222) 0 220 1 = true := by kernel_rfl
theorem A40 (w : World) (b : Nat) (a : Option Addr) (v : Value) (q : Nat) (xs : List Value) (x n : Int) (ha : a = none ∨ a = some ⟨b, 0, none⟩) (hx0 : 0 ≤ x) (hx : x < 2 ^ 62) (hs : q < 2 ^ 39)
  (hw : LW false (E2 (Bd b 222 a v q xs)) w (Bd b 222 a v q xs) w) : Fn PR B5 147 #[.pointer (some ⟨b, 0, none⟩), .int .i64 x, .int .i64 n] w
   (Rn (E2 (Bd b 222 a v q xs)) w (fun (_ : Value) u => u = .tuple #[]) fun v' => Bd b 222 (some ⟨b, 0, none⟩) v' (q + (E4 x n).size) (xs ++ F7 (E4 x n))) := by
 refine A7S (TW.goH (κ := false) (S := E2 (Bd b 222 a v q xs)) ?_ hw)
 unfold A1Q
 (have hQq := trivial; repeat ((first | clear hQq | (with_reducible first | refine A3 ?_ | refine A4 fun _ => ?_ | refine A5 fun _ => ?_ | refine D4 fun _ => ?_ | refine D3 (hK := fun _ => ?_) | refine D1 (hK := fun _ => ?_) | refine D2 (hK := fun _ => ?_) | refine D6 (hK := fun _ => ?_) | refine D5 (hK := fun _ => ?_))); (try simp (disch := first | omega | assumption | ((repeat (first | exact A0 | exact Up.here | apply A1 | apply Up.there)); first | done | fail) | (simp; first | done | omega | fail)) [])))
 refine B7 G8 (fun w' _ => Z0 w' _ _) ?_
 have hp : (E4 x n).size ≤ 8 := by
  by_cases h : 1 ≤ n ∧ n ≤ 8
  ·rw [C0A h.1 h.2]; omega
  ·simp [E4, h]
 refine B1c (Hc := Bd b 222 a v q xs) (Hk := []) M7 (by rfl) (fun w' hw' => u7 w' b _ a v q xs _ ha A2F (by omega) hw'.self) ?_
 rintro v' _ rfl
 (have hQq := trivial; repeat ((first | clear hQq | (with_reducible first | refine A3 ?_ | refine A4 fun _ => ?_ | refine A5 fun _ => ?_ | refine D4 fun _ => ?_ | refine D3 (hK := fun _ => ?_) | refine D1 (hK := fun _ => ?_) | refine D2 (hK := fun _ => ?_) | refine D6 (hK := fun _ => ?_) | refine D5 (hK := fun _ => ?_))); (try simp (disch := first | omega | assumption | ((repeat (first | exact A0 | exact Up.here | apply A1 | apply Up.there)); first | done | fail) | (simp; first | done | omega | fail)) [])))
 exact C6 v' rfl (by simp only [Bd]; ((repeat (first | exact Sels.nil | (apply Sels.cons; · ((repeat (first | exact A0 | exact Up.here | exact Sel.here | apply A1 | apply Up.there | apply Sel.there)); first | done | fail)))); first | done | fail))
def B0v (src dst rest : ByteArray) (proto : Int) : ByteArray := E4 1610612736 4 ++ E4 rest.size 2 ++ E4 proto 1 ++ E4 64 1 ++ src ++ dst ++ rest
def B3C (rest : ByteArray) : Nat → Nat | 0 => 8 | 1 => 24 | 2 => 40 | _ => 40 + rest.size
def B24 (src dst rest : ByteArray) (proto : Int) : Nat → ByteArray
 | 0 => E4 1610612736 4 ++ E4 rest.size 2 ++ E4 proto 1 ++ E4 64 1
 | 1 => E4 1610612736 4 ++ E4 rest.size 2 ++ E4 proto 1 ++ E4 64 1 ++ src
 | 2 => E4 1610612736 4 ++ E4 rest.size 2 ++ E4 proto 1 ++ E4 64 1 ++ src ++ dst
 | _ => B0v src dst rest proto
def A7W (src dst rest : ByteArray) (proto : Int) : ByteArray × Nat :=
 if src.size ≠ 16 ∨ dst.size ≠ 16 ∨ proto < 0 ∨ 255 < proto then (P6, 1) else if 65535 < rest.size then (P6, 4) else (B0v src dst rest proto, 0)
theorem B9r (w : World) (src dst rest : ByteArray) (proto : Int) (hrs : rest.size < 2 ^ 40) :
  Fn PR B5 102 #[.agg #[.string src, .string dst, .int .i64 proto], .string rest] w (fun v w' => v = .tuple #[.string (A7W src dst rest proto).1, .int .i64 (A7W src dst rest proto).2] ∧ C0 [] w w') := by
 refine Fn.pure (B87 (TW.go (κ := false) (S := []) ?_))
 unfold B1n
 by_cases c1 : src.size = 16
 case neg =>
  have c1' : ¬ (src.size : Int) = 16 := by omega
  (have hQq := trivial; repeat ((first | clear hQq | (with_reducible first | refine A3 ?_ | refine A4 fun _ => ?_ | refine A5 fun _ => ?_ | refine D4 fun _ => ?_ | refine D3 (hK := fun _ => ?_) | refine D1 (hK := fun _ => ?_) | refine D2 (hK := fun _ => ?_) | refine D6 (hK := fun _ => ?_) | refine D5 (hK := fun _ => ?_))); (try simp (disch := first | omega | assumption | ((repeat (first | exact A0 | exact Up.here | apply A1 | apply Up.there)); first | done | fail) | (simp; first | done | omega | fail)) [c1']))); exact A9 (by simp [A7W, c1])
 by_cases c2 : dst.size = 16
 case neg =>
  have c2' : ¬ (dst.size : Int) = 16 := by omega
  (have hQq := trivial; repeat ((first | clear hQq | (with_reducible first | refine A3 ?_ | refine A4 fun _ => ?_ | refine A5 fun _ => ?_ | refine D4 fun _ => ?_ | refine D3 (hK := fun _ => ?_) | refine D1 (hK := fun _ => ?_) | refine D2 (hK := fun _ => ?_) | refine D6 (hK := fun _ => ?_) | refine D5 (hK := fun _ => ?_))); (try simp (disch := first | omega | assumption | ((repeat (first | exact A0 | exact Up.here | apply A1 | apply Up.there)); first | done | fail) | (simp; first | done | omega | fail)) [c1, c2']))); exact A9 (by simp [A7W, c2])
 by_cases c3 : proto < 0
 ·(have hQq := trivial; repeat ((first | clear hQq | (with_reducible first | refine A3 ?_ | refine A4 fun _ => ?_ | refine A5 fun _ => ?_ | refine D4 fun _ => ?_ | refine D3 (hK := fun _ => ?_) | refine D1 (hK := fun _ => ?_) | refine D2 (hK := fun _ => ?_) | refine D6 (hK := fun _ => ?_) | refine D5 (hK := fun _ => ?_))); (try simp (disch := first | omega | assumption | ((repeat (first | exact A0 | exact Up.here | apply A1 | apply Up.there)); first | done | fail) | (simp; first | done | omega | fail)) [c1, c2, c3]))); exact A9 (by simp [A7W, c3])
 by_cases c4 : 255 < proto
 ·(have hQq := trivial; repeat ((first | clear hQq | (with_reducible first | refine A3 ?_ | refine A4 fun _ => ?_ | refine A5 fun _ => ?_ | refine D4 fun _ => ?_ | refine D3 (hK := fun _ => ?_) | refine D1 (hK := fun _ => ?_) | refine D2 (hK := fun _ => ?_) | refine D6 (hK := fun _ => ?_) | refine D5 (hK := fun _ => ?_))); (try simp (disch := first | omega | assumption | ((repeat (first | exact A0 | exact Up.here | apply A1 | apply Up.there)); first | done | fail) | (simp; first | done | omega | fail)) [c1, c2, c3, c4]))); exact A9 (by simp [A7W, c4])
 by_cases c5 : 65535 < rest.size
 ·have c5' : 65535 < (rest.size : Int) := by omega
  (have hQq := trivial; repeat ((first | clear hQq | (with_reducible first | refine A3 ?_ | refine A4 fun _ => ?_ | refine A5 fun _ => ?_ | refine D4 fun _ => ?_ | refine D3 (hK := fun _ => ?_) | refine D1 (hK := fun _ => ?_) | refine D2 (hK := fun _ => ?_) | refine D6 (hK := fun _ => ?_) | refine D5 (hK := fun _ => ?_))); (try simp (disch := first | omega | assumption | ((repeat (first | exact A0 | exact Up.here | apply A1 | apply Up.there)); first | done | fail) | (simp; first | done | omega | fail)) [c1, c2, c3, c4, c5']))); exact A9 (by simp [A7W, c1, c2, c3, c4, c5])
 have c5' : ¬ 65535 < (rest.size : Int) := by omega
 (have hQq := trivial; repeat ((first | clear hQq | (with_reducible first | refine A3 ?_ | refine A4 fun _ => ?_ | refine A5 fun _ => ?_ | refine D4 fun _ => ?_ | refine D3 (hK := fun _ => ?_) | refine D1 (hK := fun _ => ?_) | refine D2 (hK := fun _ => ?_) | refine D6 (hK := fun _ => ?_) | refine D5 (hK := fun _ => ?_))); (try simp (disch := first | omega | assumption | ((repeat (first | exact A0 | exact Up.here | apply A1 | apply Up.there)); first | done | fail) | (simp; first | done | omega | fail)) [c1, c2, c3, c4, c5'])))
 rename_i bh bw
 refine l6 5 1 ?_
 refine H7 V9 (fun w' _ hs => A40 w' bw none (.slice none 0 0) 0 [] 1610612736 4 (Or.inl rfl) (by omega) (by omega) (by omega) hs) (by ((repeat (first | exact Part.nil | (apply Part.cons; · ((repeat (first | exact A0 | exact Up.here | exact Sel.here | apply A1 | apply Up.there | apply Sel.there)); first | done | fail)))); first | done | fail)) ?_
 rintro v1 _ rfl
 (have hQq := trivial; repeat ((first | clear hQq | (with_reducible first | refine A3 ?_ | refine A4 fun _ => ?_ | refine A5 fun _ => ?_ | refine D4 fun _ => ?_ | refine D3 (hK := fun _ => ?_) | refine D1 (hK := fun _ => ?_) | refine D2 (hK := fun _ => ?_) | refine D6 (hK := fun _ => ?_) | refine D5 (hK := fun _ => ?_))); (try simp (disch := first | omega | assumption | ((repeat (first | exact A0 | exact Up.here | apply A1 | apply Up.there)); first | done | fail) | (simp; first | done | omega | fail)) [])))
 refine H7 V9 (fun w' _ hs => A40 w' bw _ v1 4 _ rest.size 2 (Or.inr rfl) (by omega) (by omega) (by omega) hs) (by ((repeat (first | exact Part.nil | (apply Part.cons; · ((repeat (first | exact A0 | exact Up.here | exact Sel.here | apply A1 | apply Up.there | apply Sel.there)); first | done | fail)))); first | done | fail)) ?_
 rintro v2 _ rfl
 (have hQq := trivial; repeat ((first | clear hQq | (with_reducible first | refine A3 ?_ | refine A4 fun _ => ?_ | refine A5 fun _ => ?_ | refine D4 fun _ => ?_ | refine D3 (hK := fun _ => ?_) | refine D1 (hK := fun _ => ?_) | refine D2 (hK := fun _ => ?_) | refine D6 (hK := fun _ => ?_) | refine D5 (hK := fun _ => ?_))); (try simp (disch := first | omega | assumption | ((repeat (first | exact A0 | exact Up.here | apply A1 | apply Up.there)); first | done | fail) | (simp; first | done | omega | fail)) [])))
 refine H7 V9 (fun w' _ hs => A40 w' bw _ v2 6 _ proto 1 (Or.inr rfl) (by omega) (by omega) (by omega) hs) (by ((repeat (first | exact Part.nil | (apply Part.cons; · ((repeat (first | exact A0 | exact Up.here | exact Sel.here | apply A1 | apply Up.there | apply Sel.there)); first | done | fail)))); first | done | fail)) ?_
 rintro v3 _ rfl
 (have hQq := trivial; repeat ((first | clear hQq | (with_reducible first | refine A3 ?_ | refine A4 fun _ => ?_ | refine A5 fun _ => ?_ | refine D4 fun _ => ?_ | refine D3 (hK := fun _ => ?_) | refine D1 (hK := fun _ => ?_) | refine D2 (hK := fun _ => ?_) | refine D6 (hK := fun _ => ?_) | refine D5 (hK := fun _ => ?_))); (try simp (disch := first | omega | assumption | ((repeat (first | exact A0 | exact Up.here | apply A1 | apply Up.there)); first | done | fail) | (simp; first | done | omega | fail)) [])))
 refine H7 V9 (fun w' _ hs => A40 w' bw _ v3 7 _ 64 1 (Or.inr rfl) (by omega) (by omega) (by omega) hs) (by ((repeat (first | exact Part.nil | (apply Part.cons; · ((repeat (first | exact A0 | exact Up.here | exact Sel.here | apply A1 | apply Up.there | apply Sel.there)); first | done | fail)))); first | done | fail)) ?_
 rintro v4 _ rfl
 (have hQq := trivial; repeat ((first | clear hQq | (with_reducible first | refine A3 ?_ | refine A4 fun _ => ?_ | refine A5 fun _ => ?_ | refine D4 fun _ => ?_ | refine D3 (hK := fun _ => ?_) | refine D1 (hK := fun _ => ?_) | refine D2 (hK := fun _ => ?_) | refine D6 (hK := fun _ => ?_) | refine D5 (hK := fun _ => ?_))); (try simp (disch := first | omega | assumption | ((repeat (first | exact A0 | exact Up.here | apply A1 | apply Up.there)); first | done | fail) | (simp; first | done | omega | fail)) [])))
 rename_i bl
 refine B2P (α := Value) 3 (fun i v => [.own 9 1 (.slice (some ⟨bl, 0, none⟩) 3 3) 3 [.string src, .string dst, .string rest], .pt bw (.cells #[.pointer (some ⟨bw, 0, none⟩), v] 222),
  .own 5 1 v (B3C rest i) (F7 (B24 src dst rest proto i)), .pt bh (.cells #[.string src, .string dst, .int .i64 proto] 164)]) (fun _ _ => True) v4 trivial ?_ (by simp [B3C, B24, A1S])
 rintro i v hi _ L hL
 obtain rfl | rfl | rfl | rfl : i = 0 ∨ i = 1 ∨ i = 2 ∨ i = 3 := by omega
 ·have hL' := fun v' => hL (by omega) v' trivial
  simp only [B3C, B24, A1S, List.append_assoc] at hL' ⊢
  (have hQq := trivial; repeat ((first | clear hQq | (with_reducible first | refine A3 ?_ | refine A4 fun _ => ?_ | refine A5 fun _ => ?_ | refine D4 fun _ => ?_ | refine D3 (hK := fun _ => ?_) | refine D1 (hK := fun _ => ?_) | refine D2 (hK := fun _ => ?_) | refine D6 (hK := fun _ => ?_) | refine D5 (hK := fun _ => ?_))); (try simp (disch := first | omega | assumption | ((repeat (first | exact A0 | exact Up.here | apply A1 | apply Up.there)); first | done | fail) | (simp; first | done | omega | fail)) [])))
  refine H7 M7 (fun w' _ hs => u7 w' bw _ _ v 8 _ src (Or.inr rfl) A2F (by omega) hs) (by ((repeat (first | exact Part.nil | (apply Part.cons; · ((repeat (first | exact A0 | exact Up.here | exact Sel.here | apply A1 | apply Up.there | apply Sel.there)); first | done | fail)))); first | done | fail)) ?_
  rintro v' _ rfl
  (have hQq := trivial; repeat ((first | clear hQq | (with_reducible first | refine A3 ?_ | refine A4 fun _ => ?_ | refine A5 fun _ => ?_ | refine D4 fun _ => ?_ | refine D3 (hK := fun _ => ?_) | refine D1 (hK := fun _ => ?_) | refine D2 (hK := fun _ => ?_) | refine D6 (hK := fun _ => ?_) | refine D5 (hK := fun _ => ?_))); (try simp (disch := first | omega | assumption | ((repeat (first | exact A0 | exact Up.here | apply A1 | apply Up.there)); first | done | fail) | (simp; first | done | omega | fail)) [c1])))
  exact Sels.tw (by ((repeat (first | exact Sels.nil | (apply Sels.cons; · ((repeat (first | exact A0 | exact Up.here | exact Sel.here | apply A1 | apply Up.there | apply Sel.there)); first | done | fail)))); first | done | fail)) (hL' v')
 ·have hL' := fun v' => hL (by omega) v' trivial
  simp only [B3C, B24, A1S, List.append_assoc] at hL' ⊢
  (have hQq := trivial; repeat ((first | clear hQq | (with_reducible first | refine A3 ?_ | refine A4 fun _ => ?_ | refine A5 fun _ => ?_ | refine D4 fun _ => ?_ | refine D3 (hK := fun _ => ?_) | refine D1 (hK := fun _ => ?_) | refine D2 (hK := fun _ => ?_) | refine D6 (hK := fun _ => ?_) | refine D5 (hK := fun _ => ?_))); (try simp (disch := first | omega | assumption | ((repeat (first | exact A0 | exact Up.here | apply A1 | apply Up.there)); first | done | fail) | (simp; first | done | omega | fail)) [])))
  refine H7 M7 (fun w' _ hs => u7 w' bw _ _ v 24 _ dst (Or.inr rfl) A2F (by omega) hs) (by ((repeat (first | exact Part.nil | (apply Part.cons; · ((repeat (first | exact A0 | exact Up.here | exact Sel.here | apply A1 | apply Up.there | apply Sel.there)); first | done | fail)))); first | done | fail)) ?_
  rintro v' _ rfl
  (have hQq := trivial; repeat ((first | clear hQq | (with_reducible first | refine A3 ?_ | refine A4 fun _ => ?_ | refine A5 fun _ => ?_ | refine D4 fun _ => ?_ | refine D3 (hK := fun _ => ?_) | refine D1 (hK := fun _ => ?_) | refine D2 (hK := fun _ => ?_) | refine D6 (hK := fun _ => ?_) | refine D5 (hK := fun _ => ?_))); (try simp (disch := first | omega | assumption | ((repeat (first | exact A0 | exact Up.here | apply A1 | apply Up.there)); first | done | fail) | (simp; first | done | omega | fail)) [c2])))
  exact Sels.tw (by ((repeat (first | exact Sels.nil | (apply Sels.cons; · ((repeat (first | exact A0 | exact Up.here | exact Sel.here | apply A1 | apply Up.there | apply Sel.there)); first | done | fail)))); first | done | fail)) (hL' v')
 ·have hL' := fun v' => hL (by omega) v' trivial
  simp only [B3C, B24, B0v, A1S, List.append_assoc] at hL' ⊢
  (have hQq := trivial; repeat ((first | clear hQq | (with_reducible first | refine A3 ?_ | refine A4 fun _ => ?_ | refine A5 fun _ => ?_ | refine D4 fun _ => ?_ | refine D3 (hK := fun _ => ?_) | refine D1 (hK := fun _ => ?_) | refine D2 (hK := fun _ => ?_) | refine D6 (hK := fun _ => ?_) | refine D5 (hK := fun _ => ?_))); (try simp (disch := first | omega | assumption | ((repeat (first | exact A0 | exact Up.here | apply A1 | apply Up.there)); first | done | fail) | (simp; first | done | omega | fail)) [])))
  refine H7 M7 (fun w' _ hs => u7 w' bw _ _ v 40 _ rest (Or.inr rfl) A2F (by omega) hs) (by ((repeat (first | exact Part.nil | (apply Part.cons; · ((repeat (first | exact A0 | exact Up.here | exact Sel.here | apply A1 | apply Up.there | apply Sel.there)); first | done | fail)))); first | done | fail)) ?_
  rintro v' _ rfl
  (have hQq := trivial; repeat ((first | clear hQq | (with_reducible first | refine A3 ?_ | refine A4 fun _ => ?_ | refine A5 fun _ => ?_ | refine D4 fun _ => ?_ | refine D3 (hK := fun _ => ?_) | refine D1 (hK := fun _ => ?_) | refine D2 (hK := fun _ => ?_) | refine D6 (hK := fun _ => ?_) | refine D5 (hK := fun _ => ?_))); (try simp (disch := first | omega | assumption | ((repeat (first | exact A0 | exact Up.here | apply A1 | apply Up.there)); first | done | fail) | (simp; first | done | omega | fail)) [])))
  exact Sels.tw (by ((repeat (first | exact Sels.nil | (apply Sels.cons; · ((repeat (first | exact A0 | exact Up.here | exact Sel.here | apply A1 | apply Up.there | apply Sel.there)); first | done | fail)))); first | done | fail)) (hL' v')
 ·simp only [B3C, B24]
  (have hQq := trivial; repeat ((first | clear hQq | (with_reducible first | refine A3 ?_ | refine A4 fun _ => ?_ | refine A5 fun _ => ?_ | refine D4 fun _ => ?_ | refine D3 (hK := fun _ => ?_) | refine D1 (hK := fun _ => ?_) | refine D2 (hK := fun _ => ?_) | refine D6 (hK := fun _ => ?_) | refine D5 (hK := fun _ => ?_))); (try simp (disch := first | omega | assumption | ((repeat (first | exact A0 | exact Up.here | apply A1 | apply Up.there)); first | done | fail) | (simp; first | done | omega | fail)) [])))
  have hz : (B0v src dst rest proto).size = 40 + rest.size := by simp [B0v, c1, c2]
  refine H7 A2r (fun w' _ hs => B90 w' bw _ _ v (40 + rest.size) (F7 (B0v src dst rest proto)) (B0v src dst rest proto) hz.symm rfl (by omega) (by omega) hs) (by ((repeat (first | exact Part.nil | (apply Part.cons; · ((repeat (first | exact A0 | exact Up.here | exact Sel.here | apply A1 | apply Up.there | apply Sel.there)); first | done | fail)))); first | done | fail)) ?_
  rintro _ _ rfl
  (have hQq := trivial; repeat ((first | clear hQq | (with_reducible first | refine A3 ?_ | refine A4 fun _ => ?_ | refine A5 fun _ => ?_ | refine D4 fun _ => ?_ | refine D3 (hK := fun _ => ?_) | refine D1 (hK := fun _ => ?_) | refine D2 (hK := fun _ => ?_) | refine D6 (hK := fun _ => ?_) | refine D5 (hK := fun _ => ?_))); (try simp (disch := first | omega | assumption | ((repeat (first | exact A0 | exact Up.here | apply A1 | apply Up.there)); first | done | fail) | (simp; first | done | omega | fail)) [])))
  exact A9 (by simp [A7W, c1, c2, c3, c4, c5])
end Go.Proofs.YtggakcpabomliaaGreat
namespace Go.Proofs.YtggakcpabomliaaGreat
open Go
theorem B4f {κ : Bool} {X : Nat → Prop} {S : List Nat} {w0 : World} {H : List Res} {K : Value → WP} {g u : Value} {name : String} {args : List Value} {f : FuncId} {args' : Array Value} (hr : ∀ w, (callMethod g name args.toArray).run PR w = .ok (.enter f args') w)
  (hf : ∀ w, LW κ S w0 H w → Fn PR B5 f args' w (fun v w' => v = u ∧ C0 [] w w')) (hK : TW κ S w0 H (K u)) : TW κ S w0 H (inv PR X g name args K) := fun w hw =>
 ⟨f, args', hr w, (hf w hw).use fun v w' ⟨h1, h2⟩ hsk => by subst h1; exact hK w' (hw.ext (h2.ks fun _ => hsk))⟩
theorem B8m {P : Program} {t : TypeId} {n m : Nat} {z : Value} {ms : Array (String × TypeId)} {e : Nat} (h : TI P t (.interface ms) n m z) : EqV P (e + 1) t .nilIface .nilIface true := by
 intro w
 simp only [Op.equalIn, Sem.run_bind, h.run_und, Result.andThen_ok]; rfl
theorem B8r {P : Program} {t : TypeId} {n m : Nat} {z : Value} {ms : Array (String × TypeId)} {e : Nat} (h : TI P t (.interface ms) n m z) (u : TypeId) (v : Value) : EqV P (e + 1) t (.iface u v) .nilIface false := by
 intro w
 simp only [Op.equalIn, Sem.run_bind, h.run_und, Result.andThen_ok]; rfl
theorem B7a {t : TypeId} {op : BinOp} {x y : Operand} {g : Value} {r : Bool} {K : Value → WP} (hg : (eqGuard .eql t x y g .nilIface) = pure ()) (he : EqV PR 10000 t g .nilIface r) : A6 PR (N2 .eql t x y g .nilIface) K = K (.bool r) := by
 funext w
 refine T0 ?_ K
 have := he w
 simp [N2, hg, binOp, Op.equal, Op.maxDepth, this]
theorem A2C {x : Operand} {c : Value} {K : Value → WP} : A6 PR (N2 .eql 212 x (.const c) .nilIface .nilIface) K = K (.bool true) := B7a (op := .eql) (by cases x <;> rfl) (B8m (e := 9999) B4W)
theorem A2A {x y : Operand} {K : Value → WP} {u : TypeId} {v : Value} : A6 PR (N2 .eql 212 x y (.iface u v) .nilIface) K = K (.bool false) := B7a (op := .eql) (by rfl) (B8r (e := 9999) B4W u v)
abbrev B5W : Value := .iface 263 (.agg #[])
abbrev B4y : Value := .iface 264 (.agg #[])
def m6 : List (Int × Value) := [(6, B5W), (17, B4y)]
theorem B3T (w : World) : Fn PR B5 145 #[] w (Rn [] w (fun r v => v = .map (some r)) fun r => [.pt r (n8 (Value.int .i64) m6)]) := by
 refine B3B (TW.go (κ := false) (S := []) ?_)
 unfold A6M
 refine B7N (Value.int .i64) fun r => ?_
 (have hQq := trivial; repeat ((first | clear hQq | (with_reducible first | refine A3 ?_ | refine A4 fun _ => ?_ | refine A5 fun _ => ?_)); (try simp (disch := first | omega | assumption | ((repeat (first | exact A0 | exact Up.here | apply A1 | apply Up.there)); first | done | fail) | (simp; first | done | omega | fail)) [])))
 refine B03 B4Z (KeyT.int G3) (k := 6) (by ((repeat (first | exact A0 | exact Up.here | exact Sel.here | apply A1 | apply Up.there | apply Sel.there)); first | done | fail)) ?_
 (have hQq := trivial; repeat ((first | clear hQq | (with_reducible first | refine A3 ?_ | refine A4 fun _ => ?_ | refine A5 fun _ => ?_)); (try simp (disch := first | omega | assumption | ((repeat (first | exact A0 | exact Up.here | apply A1 | apply Up.there)); first | done | fail) | (simp; first | done | omega | fail)) [])))
 refine B03 B4Z (KeyT.int G3) (k := 17) (by ((repeat (first | exact A0 | exact Up.here | exact Sel.here | apply A1 | apply Up.there | apply Sel.there)); first | done | fail)) ?_
 exact g6 r rfl (by simp [l9, m6])
def A01 (s : ByteArray) : Nat × Nat := if s.size < 20 then (0, 2) else if C4 s 12 / 16 * 4 < 20 ∨ s.size < C4 s 12 / 16 * 4 then (0, 8) else (C4 s 13, 0)
def A04 (s : ByteArray) : Nat × Nat := if s.size < 8 then (0, 2) else if gv s 4 2 < 8 ∨ s.size < gv s 4 2 then (0, 4) else (0, 0)
theorem B6U (w : World) (s : ByteArray) (hs : s.size < 2 ^ 40) : Fn PR B5 253 #[.agg #[], .string s] w (fun v w' => v = .tuple #[.int .i64 (A01 s).1, .int .i64 (A01 s).2] ∧ C0 [] w w') := by
 refine Fn.pure (A9k (TW.go (κ := false) (S := []) ?_))
 unfold A2y
 by_cases c1 : s.size < 20
 ·have c1' : (s.size : Int) < 20 := by omega
  (have hQq := trivial; repeat ((first | clear hQq | (with_reducible first | refine A3 ?_ | refine A4 fun _ => ?_ | refine A5 fun _ => ?_)); (try simp (disch := first | omega | assumption | ((repeat (first | exact A0 | exact Up.here | apply A1 | apply Up.there)); first | done | fail) | (simp; first | done | omega | fail)) [c1']))); exact A9 (by simp [A01, c1])
 have c1' : ¬ (s.size : Int) < 20 := by omega
 obtain ⟨by0, hb0, hb1⟩ := m4 (s := s) (i := 12) (by omega)
 obtain ⟨by1, hb2, hb3⟩ := m4 (s := s) (i := 13) (by omega)
 have hb0' : s[(12 : Int).toNat]? = some by0 := hb0
 have hb2' : s[(13 : Int).toNat]? = some by1 := hb2
 have hl0 := L9 s 12
 have hl1 := L9 s 13
 have e1 : ((by0.toNat : Nat) : Int).fdiv (2 ^ min 4 IntKind.u8.bits) = (C4 s 12 / 16 : Nat) := by rw [show (2 : Int) ^ min 4 IntKind.u8.bits = 16 from rfl, Int.fdiv_eq_ediv_of_nonneg _ (by omega), hb1]; omega
 have e2 : IntKind.i64.wrap (by1.toNat : Nat) = (C4 s 13 : Nat) := by rw [U1 (by omega) (by omega), hb3]
 have l1 : ∀ n : Nat, ((n * 4 : Nat) : Int) = (n : Int) * 4 := by omega
 by_cases c2 : C4 s 12 / 16 * 4 < 20
 ·have c2' : ((C4 s 12 : Nat) : Int) / 16 * 4 < 20 := by omega
  (have hQq := trivial; repeat ((first | clear hQq | (with_reducible first | refine A3 ?_ | refine A4 fun _ => ?_ | refine A5 fun _ => ?_)); (try simp (disch := first | omega | assumption | ((repeat (first | exact A0 | exact Up.here | apply A1 | apply Up.there)); first | done | fail) | (simp; first | done | omega | fail)) [c1', Y0])))
  rw [e1]
  (have hQq := trivial; repeat ((first | clear hQq | (with_reducible first | refine A3 ?_ | refine A4 fun _ => ?_ | refine A5 fun _ => ?_)); (try simp (disch := first | omega | assumption | ((repeat (first | exact A0 | exact Up.here | apply A1 | apply Up.there)); first | done | fail) | (simp; first | done | omega | fail)) [c2'])))
  exact A9 (by simp [A01, c1, c2])
 have c2' : ¬ ((C4 s 12 : Nat) : Int) / 16 * 4 < 20 := by omega
 by_cases c3 : s.size < C4 s 12 / 16 * 4
 ·have c3' : (s.size : Int) < ((C4 s 12 : Nat) : Int) / 16 * 4 := by omega
  (have hQq := trivial; repeat ((first | clear hQq | (with_reducible first | refine A3 ?_ | refine A4 fun _ => ?_ | refine A5 fun _ => ?_)); (try simp (disch := first | omega | assumption | ((repeat (first | exact A0 | exact Up.here | apply A1 | apply Up.there)); first | done | fail) | (simp; first | done | omega | fail)) [c1', Y0])))
  rw [e1]
  (have hQq := trivial; repeat ((first | clear hQq | (with_reducible first | refine A3 ?_ | refine A4 fun _ => ?_ | refine A5 fun _ => ?_)); (try simp (disch := first | omega | assumption | ((repeat (first | exact A0 | exact Up.here | apply A1 | apply Up.there)); first | done | fail) | (simp; first | done | omega | fail)) [c2', c3'])))
  exact A9 (by simp [A01, c1, c2, c3])
 have c3' : ¬ (s.size : Int) < ((C4 s 12 : Nat) : Int) / 16 * 4 := by omega
 (have hQq := trivial; repeat ((first | clear hQq | (with_reducible first | refine A3 ?_ | refine A4 fun _ => ?_ | refine A5 fun _ => ?_)); (try simp (disch := first | omega | assumption | ((repeat (first | exact A0 | exact Up.here | apply A1 | apply Up.there)); first | done | fail) | (simp; first | done | omega | fail)) [c1', Y0])))
 rw [e1]
 (have hQq := trivial; repeat ((first | clear hQq | (with_reducible first | refine A3 ?_ | refine A4 fun _ => ?_ | refine A5 fun _ => ?_)); (try simp (disch := first | omega | assumption | ((repeat (first | exact A0 | exact Up.here | apply A1 | apply Up.there)); first | done | fail) | (simp; first | done | omega | fail)) [c2', c3', Y0, e2])))
 exact A9 (by simp [A01, c1, c2, c3, hb3])
def z1 : ByteArray := ByteArray.mk #[0]
def A3U (f : Int) : ByteArray × Nat := if f < 0 ∨ 255 < f then (P6, 1) else (P7 z1 8 ++ ByteArray.mk #[80] ++ E4 f 1 ++ P7 z1 6, 0)
def A5Z (f : Int) : ByteArray × Nat := if f ≠ 0 then (P6, 1) else (ByteArray.mk #[0, 8, 0, 0], 0)
theorem C68 (w : World) : Fn PR B5 255 #[.string (ByteArray.mk #[0]), .int .i64 8] w (fun v w' => v = .string (P7 z1 8) ∧ C0 [] w w') := B3n w z1 8 (by omega) (by decide)
theorem C7Q (w : World) : Fn PR B5 255 #[.string (ByteArray.mk #[0]), .int .i64 6] w (fun v w' => v = .string (P7 z1 6) ∧ C0 [] w w') := B3n w z1 6 (by omega) (by decide)
theorem S2 (c : Nat) : (P7 z1 c).size = c := by
 have : ∀ (l : List UInt8) (n : Nat), (Lib.repeatL l n).length = n * l.length := by
  intro l n
  induction n with
  | zero => simp [Lib.repeatL]
  | succ n ih => simp [Lib.repeatL, ih, Nat.add_mul, Nat.add_comm]
 show (Lib.repeatL z1.data.toList c).toArray.size = c
 rw [List.size_toArray, this]; simp [z1]
theorem C0V (w : World) (f : Int) : Fn PR B5 254 #[.agg #[], .int .i64 f] w (fun v w' => v = .tuple #[.string (A3U f).1, .int .i64 (A3U f).2] ∧ C0 [] w w') := by
 refine Fn.pure (B1k (TW.go (κ := false) (S := []) ?_))
 unfold A5E
 by_cases c1 : f < 0
 ·(have hQq := trivial; repeat ((first | clear hQq | (with_reducible first | refine A3 ?_ | refine A4 fun _ => ?_ | refine A5 fun _ => ?_)); (try simp (disch := first | omega | assumption | ((repeat (first | exact A0 | exact Up.here | apply A1 | apply Up.there)); first | done | fail) | (simp; first | done | omega | fail)) [c1]))); exact A9 (by simp [A3U, c1])
 by_cases c2 : 255 < f
 ·(have hQq := trivial; repeat ((first | clear hQq | (with_reducible first | refine A3 ?_ | refine A4 fun _ => ?_ | refine A5 fun _ => ?_)); (try simp (disch := first | omega | assumption | ((repeat (first | exact A0 | exact Up.here | apply A1 | apply Up.there)); first | done | fail) | (simp; first | done | omega | fail)) [c1, c2]))); exact A9 (by simp [A3U, c2])
 (have hQq := trivial; repeat ((first | clear hQq | (with_reducible first | refine A3 ?_ | refine A4 fun _ => ?_ | refine A5 fun _ => ?_)); (try simp (disch := first | omega | assumption | ((repeat (first | exact A0 | exact Up.here | apply A1 | apply Up.there)); first | done | fail) | (simp; first | done | omega | fail)) [c1, c2])))
 have h8 := S2 8
 have h6 := S2 6
 refine B7 A2l (fun w' hw' => C68 w') ?_
 (have hQq := trivial; repeat ((first | clear hQq | (with_reducible first | refine A3 ?_ | refine A4 fun _ => ?_ | refine A5 fun _ => ?_)); (try simp (disch := first | omega | assumption | ((repeat (first | exact A0 | exact Up.here | apply A1 | apply Up.there)); first | done | fail) | (simp; first | done | omega | fail)) [c1, c2, P1])))
 refine B7 G8 (fun w' hw' => Z0 w' _ _) ?_
 (have hQq := trivial; repeat ((first | clear hQq | (with_reducible first | refine A3 ?_ | refine A4 fun _ => ?_ | refine A5 fun _ => ?_)); (try simp (disch := first | omega | assumption | ((repeat (first | exact A0 | exact Up.here | apply A1 | apply Up.there)); first | done | fail) | (simp; first | done | omega | fail)) [c1, c2, P1])))
 refine B7 A2l (fun w' hw' => C7Q w') ?_
 (have hQq := trivial; repeat ((first | clear hQq | (with_reducible first | refine A3 ?_ | refine A4 fun _ => ?_ | refine A5 fun _ => ?_)); (try simp (disch := first | omega | assumption | ((repeat (first | exact A0 | exact Up.here | apply A1 | apply Up.there)); first | done | fail) | (simp; first | done | omega | fail)) [c1, c2, P1])))
 exact A9 (by simp [A3U, c1, c2])
theorem B62 (w : World) (s : ByteArray) (hs : s.size < 2 ^ 40) : Fn PR B5 265 #[.agg #[], .string s] w (fun v w' => v = .tuple #[.int .i64 (A04 s).1, .int .i64 (A04 s).2] ∧ C0 [] w w') := by
 refine Fn.pure (A9s (TW.go (κ := false) (S := []) ?_))
 unfold A23
 by_cases c1 : s.size < 8
 ·have c1' : (s.size : Int) < 8 := by omega
  (have hQq := trivial; repeat ((first | clear hQq | (with_reducible first | refine A3 ?_ | refine A4 fun _ => ?_ | refine A5 fun _ => ?_)); (try simp (disch := first | omega | assumption | ((repeat (first | exact A0 | exact Up.here | apply A1 | apply Up.there)); first | done | fail) | (simp; first | done | omega | fail)) [c1']))); exact A9 (by simp [A04, c1])
 have c1' : ¬ (s.size : Int) < 8 := by omega
 (have hQq := trivial; repeat ((first | clear hQq | (with_reducible first | refine A3 ?_ | refine A4 fun _ => ?_ | refine A5 fun _ => ?_)); (try simp (disch := first | omega | assumption | ((repeat (first | exact A0 | exact Up.here | apply A1 | apply Up.there)); first | done | fail) | (simp; first | done | omega | fail)) [c1'])))
 refine B7 T6 (fun w' _ => A2c w' s (by omega) _ _) ?_
 have e1 := A3L s 4 2 (by omega) (by omega)
 have e1' : A1p s 4 2 = gv s 4 2 := e1
 have hg := j2 s 4
 by_cases c2 : gv s 4 2 < 8
 ·have c2' : ((gv s 4 2 : Nat) : Int) < 8 := by omega
  (have hQq := trivial; repeat ((first | clear hQq | (with_reducible first | refine A3 ?_ | refine A4 fun _ => ?_ | refine A5 fun _ => ?_)); (try simp (disch := first | omega | assumption | ((repeat (first | exact A0 | exact Up.here | apply A1 | apply Up.there)); first | done | fail) | (simp; first | done | omega | fail)) [e1', c2, c2'])))
  exact A9 (by simp [A04, c1, c2])
 have c2' : ¬ ((gv s 4 2 : Nat) : Int) < 8 := by omega
 by_cases c3 : s.size < gv s 4 2
 ·have c3' : ((s.size : Nat) : Int) < gv s 4 2 := by omega
  (have hQq := trivial; repeat ((first | clear hQq | (with_reducible first | refine A3 ?_ | refine A4 fun _ => ?_ | refine A5 fun _ => ?_)); (try simp (disch := first | omega | assumption | ((repeat (first | exact A0 | exact Up.here | apply A1 | apply Up.there)); first | done | fail) | (simp; first | done | omega | fail)) [e1', c2, c2', c3, c3'])))
  exact A9 (by simp [A04, c1, c2, c3])
 have c3' : ¬ ((s.size : Nat) : Int) < gv s 4 2 := by omega
 (have hQq := trivial; repeat ((first | clear hQq | (with_reducible first | refine A3 ?_ | refine A4 fun _ => ?_ | refine A5 fun _ => ?_)); (try simp (disch := first | omega | assumption | ((repeat (first | exact A0 | exact Up.here | apply A1 | apply Up.there)); first | done | fail) | (simp; first | done | omega | fail)) [e1', c2, c2', c3, c3'])))
 exact A9 (by simp [A04, c1, c2, c3])
theorem C0E (w : World) (f : Int) : Fn PR B5 266 #[.agg #[], .int .i64 f] w (fun v w' => v = .tuple #[.string (A5Z f).1, .int .i64 (A5Z f).2] ∧ C0 [] w w') := by
 refine Fn.pure (B1s (TW.go (κ := false) (S := []) ?_))
 unfold A4w
 by_cases c1 : f = 0
 ·(have hQq := trivial; repeat ((first | clear hQq | (with_reducible first | refine A3 ?_ | refine A4 fun _ => ?_ | refine A5 fun _ => ?_)); (try simp (disch := first | omega | assumption | ((repeat (first | exact A0 | exact Up.here | apply A1 | apply Up.there)); first | done | fail) | (simp; first | done | omega | fail)) [c1]))); exact A9 (by simp [A5Z, c1])
 ·(have hQq := trivial; repeat ((first | clear hQq | (with_reducible first | refine A3 ?_ | refine A4 fun _ => ?_ | refine A5 fun _ => ?_)); (try simp (disch := first | omega | assumption | ((repeat (first | exact A0 | exact Up.here | apply A1 | apply Up.there)); first | done | fail) | (simp; first | done | omega | fail)) [c1]))); exact A9 (by simp [A5Z, c1])
def q8 (number : Int) (s : ByteArray) : Nat × Nat := if number = 6 then A01 s else if number = 17 then A04 s else (0, 7)
def J0 (number : Int) (s : ByteArray) : Nat × Nat × Nat × Nat := if (q8 number s).2 ≠ 0 then (0, 0, 0, (q8 number s).2) else (gv s 0 2, gv s 2 2, (q8 number s).1, 0)
def J0.val (x : Nat × Nat × Nat × Nat) : Value := .tuple #[.agg #[.int .i64 x.1, .int .i64 x.2.1, .int .i64 x.2.2.1], .int .i64 x.2.2.2]
theorem B1F (w : World) (s : ByteArray) : (callMethod B5W "gangplank/port.parse" [Value.string s].toArray).run PR w = .ok (.enter 253 #[.agg #[], .string s]) w := by kernel_rfl
theorem B1L (w : World) (s : ByteArray) : (callMethod B4y "gangplank/port.parse" [Value.string s].toArray).run PR w = .ok (.enter 265 #[.agg #[], .string s]) w := by kernel_rfl
theorem B4M (w : World) (f : Int) : (callMethod B5W "gangplank/port.put" [Value.int .i64 f].toArray).run PR w = .ok (.enter 254 #[.agg #[], .int .i64 f]) w := by kernel_rfl
theorem B4H (w : World) (f : Int) : (callMethod B4y "gangplank/port.put" [Value.int .i64 f].toArray).run PR w = .ok (.enter 266 #[.agg #[], .int .i64 f]) w := by kernel_rfl
theorem B5E (w : World) (s : ByteArray) (hs : s.size < 2 ^ 40) (number : Int) : Fn PR B5 154 #[.int .i64 number, .string s] w (fun v w' => v = J0.val (J0 number s) ∧ C0 [] w w') := by
 refine Fn.pure (B4C (TW.go (κ := false) (S := []) ?_))
 unfold A73
 (have hQq := trivial; repeat ((first | clear hQq | (with_reducible first | refine A3 ?_ | refine A4 fun _ => ?_ | refine A5 fun _ => ?_)); (try simp (disch := first | omega | assumption | ((repeat (first | exact A0 | exact Up.here | apply A1 | apply Up.there)); first | done | fail) | (simp; first | done | omega | fail)) [])))
 refine F8 A5F (fun w' _ => B3T w') ?_
 rintro r v rfl
 (have hQq := trivial; repeat ((first | clear hQq | (with_reducible first | refine A3 ?_ | refine A4 fun _ => ?_ | refine A5 fun _ => ?_)); (try simp (disch := first | omega | assumption | ((repeat (first | exact A0 | exact Up.here | apply A1 | apply Up.there)); first | done | fail) | (simp; first | done | omega | fail)) [])))
 rw [B0z B4Z B4W (KeyT.int G3) (l := m6) (by ((repeat (first | exact A0 | exact Up.here | exact Sel.here | apply A1 | apply Up.there | apply Sel.there)); first | done | fail))]
 have p9 : ∀ {f1 : Nat} {b : Nat}, True := fun {_ _} => trivial
 have hg0 := j2 s 0
 have hg2 := j2 s 2
 have e1 : A1p s 0 2 = gv s 0 2 := A3L s 0 2 (by omega) (by omega)
 have e2 : A1p s 2 2 = gv s 2 2 := A3L s 2 2 (by omega) (by omega)
 by_cases c1 : number = 6
 ·rw [show (m0 number m6).getD .nilIface = B5W by subst c1; rfl]
  (have hQq := trivial; repeat ((first | clear hQq | (with_reducible first | refine A3 ?_ | refine A4 fun _ => ?_ | refine A5 fun _ => ?_)); (try simp (disch := first | omega | assumption | ((repeat (first | exact A0 | exact Up.here | apply A1 | apply Up.there)); first | done | fail) | (simp; first | done | omega | fail)) [A2C, A2A])))
  refine B4f (fun w => B1F w s) (fun w' hw' => B6U w' s hs) ?_
  by_cases c2 : (A01 s).2 = 0
  ·(have hQq := trivial; repeat ((first | clear hQq | (with_reducible first | refine A3 ?_ | refine A4 fun _ => ?_ | refine A5 fun _ => ?_)); (try simp (disch := first | omega | assumption | ((repeat (first | exact A0 | exact Up.here | apply A1 | apply Up.there)); first | done | fail) | (simp; first | done | omega | fail)) [c2])))
   refine B7 T6 (fun w' _ => A2c w' s (by omega) _ _) ?_
   (have hQq := trivial; repeat ((first | clear hQq | (with_reducible first | refine A3 ?_ | refine A4 fun _ => ?_ | refine A5 fun _ => ?_)); (try simp (disch := first | omega | assumption | ((repeat (first | exact A0 | exact Up.here | apply A1 | apply Up.there)); first | done | fail) | (simp; first | done | omega | fail)) [e1])))
   refine B7 T6 (fun w' _ => A2c w' s (by omega) _ _) ?_
   (have hQq := trivial; repeat ((first | clear hQq | (with_reducible first | refine A3 ?_ | refine A4 fun _ => ?_ | refine A5 fun _ => ?_)); (try simp (disch := first | omega | assumption | ((repeat (first | exact A0 | exact Up.here | apply A1 | apply Up.there)); first | done | fail) | (simp; first | done | omega | fail)) [e1, e2])))
   exact A9 (by simp [J0, q8, J0.val, c1, c2])
  ·(have hQq := trivial; repeat ((first | clear hQq | (with_reducible first | refine A3 ?_ | refine A4 fun _ => ?_ | refine A5 fun _ => ?_)); (try simp (disch := first | omega | assumption | ((repeat (first | exact A0 | exact Up.here | apply A1 | apply Up.there)); first | done | fail) | (simp; first | done | omega | fail)) [c2])))
   exact A9 (by simp [J0, q8, J0.val, c1, c2])
 by_cases c1' : number = 17
 ·rw [show (m0 number m6).getD .nilIface = B4y by subst c1'; rfl]
  (have hQq := trivial; repeat ((first | clear hQq | (with_reducible first | refine A3 ?_ | refine A4 fun _ => ?_ | refine A5 fun _ => ?_)); (try simp (disch := first | omega | assumption | ((repeat (first | exact A0 | exact Up.here | apply A1 | apply Up.there)); first | done | fail) | (simp; first | done | omega | fail)) [A2C, A2A])))
  refine B4f (fun w => B1L w s) (fun w' hw' => B62 w' s hs) ?_
  by_cases c2 : (A04 s).2 = 0
  ·(have hQq := trivial; repeat ((first | clear hQq | (with_reducible first | refine A3 ?_ | refine A4 fun _ => ?_ | refine A5 fun _ => ?_)); (try simp (disch := first | omega | assumption | ((repeat (first | exact A0 | exact Up.here | apply A1 | apply Up.there)); first | done | fail) | (simp; first | done | omega | fail)) [c2])))
   refine B7 T6 (fun w' _ => A2c w' s (by omega) _ _) ?_
   (have hQq := trivial; repeat ((first | clear hQq | (with_reducible first | refine A3 ?_ | refine A4 fun _ => ?_ | refine A5 fun _ => ?_)); (try simp (disch := first | omega | assumption | ((repeat (first | exact A0 | exact Up.here | apply A1 | apply Up.there)); first | done | fail) | (simp; first | done | omega | fail)) [e1])))
   refine B7 T6 (fun w' _ => A2c w' s (by omega) _ _) ?_
   (have hQq := trivial; repeat ((first | clear hQq | (with_reducible first | refine A3 ?_ | refine A4 fun _ => ?_ | refine A5 fun _ => ?_)); (try simp (disch := first | omega | assumption | ((repeat (first | exact A0 | exact Up.here | apply A1 | apply Up.there)); first | done | fail) | (simp; first | done | omega | fail)) [e1, e2])))
   exact A9 (by simp [J0, q8, J0.val, c1', c2])
  ·(have hQq := trivial; repeat ((first | clear hQq | (with_reducible first | refine A3 ?_ | refine A4 fun _ => ?_ | refine A5 fun _ => ?_)); (try simp (disch := first | omega | assumption | ((repeat (first | exact A0 | exact Up.here | apply A1 | apply Up.there)); first | done | fail) | (simp; first | done | omega | fail)) [c2])))
   exact A9 (by simp [J0, q8, J0.val, c1', c2])
 ·rw [show (m0 number m6).getD .nilIface = .nilIface by simp [m0, m6, c1, c1']]
  (have hQq := trivial; repeat ((first | clear hQq | (with_reducible first | refine A3 ?_ | refine A4 fun _ => ?_ | refine A5 fun _ => ?_)); (try simp (disch := first | omega | assumption | ((repeat (first | exact A0 | exact Up.here | apply A1 | apply Up.there)); first | done | fail) | (simp; first | done | omega | fail)) [A2C, A2A])))
  exact A9 (by simp [J0, q8, J0.val, c1, c1'])
theorem n4 (s : ByteArray) : s ++ P6 = s := by apply ByteArray.ext; rw [ByteArray.data_append]; simp
theorem j5 (s : ByteArray) : P6 ++ s = s := by apply ByteArray.ext; rw [ByteArray.data_append]; simp
def V1 (x : Int) : ByteArray := if 0 ≤ x ∧ x ≤ 65535 then E4 x 2 else P6
def G7 (x y : Int) : Bool := decide (0 ≤ x ∧ x ≤ 65535 ∧ 0 ≤ y ∧ y ≤ 65535)
theorem B5c (w : World) (x y z : Int) : Fn PR B5 146 #[.agg #[.int .i64 x, .int .i64 y, .int .i64 z]] w (fun v w' => v = .tuple #[.string (V1 x ++ V1 y), .bool (G7 x y)] ∧ C0 [] w w') := by
 refine Fn.pure (B4J (TW.go (κ := false) (S := []) ?_))
 unfold A70
 by_cases c1 : 0 ≤ x ∧ x ≤ 65535
 ·have c1' := c1.1; have c1'' := c1.2
  (have hQq := trivial; repeat ((first | clear hQq | (with_reducible first | refine A3 ?_ | refine A4 fun _ => ?_ | refine A5 fun _ => ?_)); (try simp (disch := first | omega | assumption | ((repeat (first | exact A0 | exact Up.here | apply A1 | apply Up.there)); first | done | fail) | (simp; first | done | omega | fail)) [c1', c1''])))
  refine B7 G8 (fun w' hw' => Z0 w' _ _) ?_
  by_cases c2 : 0 ≤ y ∧ y ≤ 65535
  ·have c2' := c2.1; have c2'' := c2.2
   (have hQq := trivial; repeat ((first | clear hQq | (with_reducible first | refine A3 ?_ | refine A4 fun _ => ?_ | refine A5 fun _ => ?_)); (try simp (disch := first | omega | assumption | ((repeat (first | exact A0 | exact Up.here | apply A1 | apply Up.there)); first | done | fail) | (simp; first | done | omega | fail)) [c1', c1'', c2', c2''])))
   refine B7 G8 (fun w' hw' => Z0 w' _ _) ?_
   (have hQq := trivial; repeat ((first | clear hQq | (with_reducible first | refine A3 ?_ | refine A4 fun _ => ?_ | refine A5 fun _ => ?_)); (try simp (disch := first | omega | assumption | ((repeat (first | exact A0 | exact Up.here | apply A1 | apply Up.there)); first | done | fail) | (simp; first | done | omega | fail)) [c1', c1'', c2', c2'', P1])))
   exact A9 (by simp [n4, j5, V1, G7, c1, c2])
  ·by_cases c3 : 0 ≤ y
   ·have c4 : ¬ y ≤ 65535 := fun h => c2 ⟨c3, h⟩
    (have hQq := trivial; repeat ((first | clear hQq | (with_reducible first | refine A3 ?_ | refine A4 fun _ => ?_ | refine A5 fun _ => ?_)); (try simp (disch := first | omega | assumption | ((repeat (first | exact A0 | exact Up.here | apply A1 | apply Up.there)); first | done | fail) | (simp; first | done | omega | fail)) [c1', c1'', c3, c4])))
    exact A9 (by simp [n4, j5, V1, G7, c1, c3, c4])
   ·(have hQq := trivial; repeat ((first | clear hQq | (with_reducible first | refine A3 ?_ | refine A4 fun _ => ?_ | refine A5 fun _ => ?_)); (try simp (disch := first | omega | assumption | ((repeat (first | exact A0 | exact Up.here | apply A1 | apply Up.there)); first | done | fail) | (simp; first | done | omega | fail)) [c1', c1'', c3])))
    exact A9 (by simp [n4, j5, V1, G7, c1, c3])
 ·have hn : V1 x = P6 := by simp [V1, c1]
  have ho : G7 x y = false := by simp only [G7, decide_eq_false_iff_not]; exact fun h => c1 ⟨h.1, h.2.1⟩
  rw [hn, ho]
  have key : ∀ bx, TW false [] w [.pt bx (.cells #[.int .i64 x, .int .i64 y, .int .i64 z] 161)] = TW false [] w [.pt bx (.cells #[.int .i64 x, .int .i64 y, .int .i64 z] 161)] := fun _ => rfl
  by_cases c0 : 0 ≤ x
  ·have c0' : ¬ x ≤ 65535 := fun h => c1 ⟨c0, h⟩
   by_cases c2 : 0 ≤ y ∧ y ≤ 65535
   ·have c2' := c2.1; have c2'' := c2.2
    (have hQq := trivial; repeat ((first | clear hQq | (with_reducible first | refine A3 ?_ | refine A4 fun _ => ?_ | refine A5 fun _ => ?_)); (try simp (disch := first | omega | assumption | ((repeat (first | exact A0 | exact Up.here | apply A1 | apply Up.there)); first | done | fail) | (simp; first | done | omega | fail)) [c0, c0', c2', c2''])))
    refine B7 G8 (fun w' hw' => Z0 w' _ _) ?_
    (have hQq := trivial; repeat ((first | clear hQq | (with_reducible first | refine A3 ?_ | refine A4 fun _ => ?_ | refine A5 fun _ => ?_)); (try simp (disch := first | omega | assumption | ((repeat (first | exact A0 | exact Up.here | apply A1 | apply Up.there)); first | done | fail) | (simp; first | done | omega | fail)) [c0, c0', c2', c2'', P1])))
    exact A9 (by simp [n4, j5, V1, c2])
   ·by_cases c3 : 0 ≤ y
    ·have c4 : ¬ y ≤ 65535 := fun h => c2 ⟨c3, h⟩
     (have hQq := trivial; repeat ((first | clear hQq | (with_reducible first | refine A3 ?_ | refine A4 fun _ => ?_ | refine A5 fun _ => ?_)); (try simp (disch := first | omega | assumption | ((repeat (first | exact A0 | exact Up.here | apply A1 | apply Up.there)); first | done | fail) | (simp; first | done | omega | fail)) [c0, c0', c3, c4])))
     exact A9 (by simp [n4, j5, V1, c3, c4])
    ·(have hQq := trivial; repeat ((first | clear hQq | (with_reducible first | refine A3 ?_ | refine A4 fun _ => ?_ | refine A5 fun _ => ?_)); (try simp (disch := first | omega | assumption | ((repeat (first | exact A0 | exact Up.here | apply A1 | apply Up.there)); first | done | fail) | (simp; first | done | omega | fail)) [c0, c0', c3])))
     exact A9 (by simp [n4, j5, V1, c3])
  ·by_cases c2 : 0 ≤ y ∧ y ≤ 65535
   ·have c2' := c2.1; have c2'' := c2.2
    (have hQq := trivial; repeat ((first | clear hQq | (with_reducible first | refine A3 ?_ | refine A4 fun _ => ?_ | refine A5 fun _ => ?_)); (try simp (disch := first | omega | assumption | ((repeat (first | exact A0 | exact Up.here | apply A1 | apply Up.there)); first | done | fail) | (simp; first | done | omega | fail)) [c0, c2', c2''])))
    refine B7 G8 (fun w' hw' => Z0 w' _ _) ?_
    (have hQq := trivial; repeat ((first | clear hQq | (with_reducible first | refine A3 ?_ | refine A4 fun _ => ?_ | refine A5 fun _ => ?_)); (try simp (disch := first | omega | assumption | ((repeat (first | exact A0 | exact Up.here | apply A1 | apply Up.there)); first | done | fail) | (simp; first | done | omega | fail)) [c0, c2', c2'', P1])))
    exact A9 (by simp [n4, j5, V1, c2])
   ·by_cases c3 : 0 ≤ y
    ·have c4 : ¬ y ≤ 65535 := fun h => c2 ⟨c3, h⟩
     (have hQq := trivial; repeat ((first | clear hQq | (with_reducible first | refine A3 ?_ | refine A4 fun _ => ?_ | refine A5 fun _ => ?_)); (try simp (disch := first | omega | assumption | ((repeat (first | exact A0 | exact Up.here | apply A1 | apply Up.there)); first | done | fail) | (simp; first | done | omega | fail)) [c0, c3, c4])))
     exact A9 (by simp [n4, j5, V1, c3, c4])
    ·(have hQq := trivial; repeat ((first | clear hQq | (with_reducible first | refine A3 ?_ | refine A4 fun _ => ?_ | refine A5 fun _ => ?_)); (try simp (disch := first | omega | assumption | ((repeat (first | exact A0 | exact Up.here | apply A1 | apply Up.there)); first | done | fail) | (simp; first | done | omega | fail)) [c0, c3])))
     exact A9 (by simp [n4, j5, V1, c3])
def A2T (number f : Int) : ByteArray × Nat := if number = 6 then A3U f else if number = 17 then A5Z f else (P6, 7)
def V7 (number x y f : Int) : ByteArray × Nat := if number ≠ 6 ∧ number ≠ 17 then (P6, 7) else if G7 x y = false ∨ (A2T number f).2 ≠ 0 then (P6, 1) else (E4 x 2 ++ E4 y 2 ++ (A2T number f).1, 0)
theorem B6E {x y : Int} (h : G7 x y = true) : V1 x ++ V1 y = E4 x 2 ++ E4 y 2 := by
 simp only [G7, decide_eq_true_eq] at h
 unfold V1; rw [if_pos (by omega), if_pos (by omega)]
theorem A7J (w : World) (number x y f : Int) : Fn PR B5 101 #[.int .i64 number, .agg #[.int .i64 x, .int .i64 y, .int .i64 f]] w (fun v w' => v = .tuple #[.string (V7 number x y f).1, .int .i64 (V7 number x y f).2] ∧ C0 [] w w') := by
 refine Fn.pure (B6w (TW.go (κ := false) (S := []) ?_))
 unfold A99
 (have hQq := trivial; repeat ((first | clear hQq | (with_reducible first | refine A3 ?_ | refine A4 fun _ => ?_ | refine A5 fun _ => ?_)); (try simp (disch := first | omega | assumption | ((repeat (first | exact A0 | exact Up.here | apply A1 | apply Up.there)); first | done | fail) | (simp; first | done | omega | fail)) [])))
 refine F8 A5F (fun w' _ => B3T w') ?_
 rintro r v rfl
 (have hQq := trivial; repeat ((first | clear hQq | (with_reducible first | refine A3 ?_ | refine A4 fun _ => ?_ | refine A5 fun _ => ?_)); (try simp (disch := first | omega | assumption | ((repeat (first | exact A0 | exact Up.here | apply A1 | apply Up.there)); first | done | fail) | (simp; first | done | omega | fail)) [])))
 rw [B0z B4Z B4W (KeyT.int G3) (l := m6) (by ((repeat (first | exact A0 | exact Up.here | exact Sel.here | apply A1 | apply Up.there | apply Sel.there)); first | done | fail))]
 by_cases c1 : number = 6
 ·rw [show (m0 number m6).getD .nilIface = B5W by subst c1; rfl]
  (have hQq := trivial; repeat ((first | clear hQq | (with_reducible first | refine A3 ?_ | refine A4 fun _ => ?_ | refine A5 fun _ => ?_)); (try simp (disch := first | omega | assumption | ((repeat (first | exact A0 | exact Up.here | apply A1 | apply Up.there)); first | done | fail) | (simp; first | done | omega | fail)) [A2C, A2A])))
  refine B7 A6p (fun w' hw' => B5c w' _ _ _) ?_
  (have hQq := trivial; repeat ((first | clear hQq | (with_reducible first | refine A3 ?_ | refine A4 fun _ => ?_ | refine A5 fun _ => ?_)); (try simp (disch := first | omega | assumption | ((repeat (first | exact A0 | exact Up.here | apply A1 | apply Up.there)); first | done | fail) | (simp; first | done | omega | fail)) [])))
  refine B4f (fun w => B4M w f) (fun w' hw' => C0V w' f) ?_
  cases c3 : G7 x y with
  | false => (have hQq := trivial; repeat ((first | clear hQq | (with_reducible first | refine A3 ?_ | refine A4 fun _ => ?_ | refine A5 fun _ => ?_)); (try simp (disch := first | omega | assumption | ((repeat (first | exact A0 | exact Up.here | apply A1 | apply Up.there)); first | done | fail) | (simp; first | done | omega | fail)) [c3]))); exact A9 (by simp [V7, c1, c3])
  | true =>
   have hp := B6E c3
   by_cases c2 : (A3U f).2 = 0
   ·have hz : (V1 x).size + (V1 y).size + (A3U f).1.size < 2 ^ 30 := by
     have := congrArg ByteArray.size hp
     simp at this
     have h6 := S2 6
     have h8 := S2 8
     have : (A3U f).1.size ≤ 100 := by unfold A3U; split <;> simp [h6, h8]
     omega
    (have hQq := trivial; repeat ((first | clear hQq | (with_reducible first | refine A3 ?_ | refine A4 fun _ => ?_ | refine A5 fun _ => ?_)); (try simp (disch := first | omega | assumption | ((repeat (first | exact A0 | exact Up.here | apply A1 | apply Up.there)); first | done | fail) | (simp; first | done | omega | fail)) [c2, c3, P1])))
    exact A9 (by simp [V7, A2T, c1, c2, c3, hp])
   ·(have hQq := trivial; repeat ((first | clear hQq | (with_reducible first | refine A3 ?_ | refine A4 fun _ => ?_ | refine A5 fun _ => ?_)); (try simp (disch := first | omega | assumption | ((repeat (first | exact A0 | exact Up.here | apply A1 | apply Up.there)); first | done | fail) | (simp; first | done | omega | fail)) [c2, c3])))
    exact A9 (by simp [V7, A2T, c1, c2, c3])
 by_cases c1' : number = 17
 ·rw [show (m0 number m6).getD .nilIface = B4y by subst c1'; rfl]
  (have hQq := trivial; repeat ((first | clear hQq | (with_reducible first | refine A3 ?_ | refine A4 fun _ => ?_ | refine A5 fun _ => ?_)); (try simp (disch := first | omega | assumption | ((repeat (first | exact A0 | exact Up.here | apply A1 | apply Up.there)); first | done | fail) | (simp; first | done | omega | fail)) [A2C, A2A])))
  refine B7 A6p (fun w' hw' => B5c w' _ _ _) ?_
  (have hQq := trivial; repeat ((first | clear hQq | (with_reducible first | refine A3 ?_ | refine A4 fun _ => ?_ | refine A5 fun _ => ?_)); (try simp (disch := first | omega | assumption | ((repeat (first | exact A0 | exact Up.here | apply A1 | apply Up.there)); first | done | fail) | (simp; first | done | omega | fail)) [])))
  refine B4f (fun w => B4H w f) (fun w' hw' => C0E w' f) ?_
  cases c3 : G7 x y with
  | false => (have hQq := trivial; repeat ((first | clear hQq | (with_reducible first | refine A3 ?_ | refine A4 fun _ => ?_ | refine A5 fun _ => ?_)); (try simp (disch := first | omega | assumption | ((repeat (first | exact A0 | exact Up.here | apply A1 | apply Up.there)); first | done | fail) | (simp; first | done | omega | fail)) [c3]))); exact A9 (by simp [V7, c1', c3])
  | true =>
   have hp := B6E c3
   by_cases c2 : (A5Z f).2 = 0
   ·have hz : (V1 x).size + (V1 y).size + (A5Z f).1.size < 2 ^ 30 := by
     have := congrArg ByteArray.size hp
     simp at this
     have : (A5Z f).1.size ≤ 100 := by unfold A5Z; split <;> simp
     omega
    (have hQq := trivial; repeat ((first | clear hQq | (with_reducible first | refine A3 ?_ | refine A4 fun _ => ?_ | refine A5 fun _ => ?_)); (try simp (disch := first | omega | assumption | ((repeat (first | exact A0 | exact Up.here | apply A1 | apply Up.there)); first | done | fail) | (simp; first | done | omega | fail)) [c2, c3, P1])))
    exact A9 (by simp [V7, A2T, c1', c2, c3, hp])
   ·(have hQq := trivial; repeat ((first | clear hQq | (with_reducible first | refine A3 ?_ | refine A4 fun _ => ?_ | refine A5 fun _ => ?_)); (try simp (disch := first | omega | assumption | ((repeat (first | exact A0 | exact Up.here | apply A1 | apply Up.there)); first | done | fail) | (simp; first | done | omega | fail)) [c2, c3])))
    exact A9 (by simp [V7, A2T, c1', c2, c3])
 ·rw [show (m0 number m6).getD .nilIface = .nilIface by simp [m0, m6, c1, c1']]
  (have hQq := trivial; repeat ((first | clear hQq | (with_reducible first | refine A3 ?_ | refine A4 fun _ => ?_ | refine A5 fun _ => ?_)); (try simp (disch := first | omega | assumption | ((repeat (first | exact A0 | exact Up.here | apply A1 | apply Up.there)); first | done | fail) | (simp; first | done | omega | fail)) [A2C, A2A])))
  exact A9 (by simp [V7, c1, c1'])
end Go.Proofs.YtggakcpabomliaaGreat
