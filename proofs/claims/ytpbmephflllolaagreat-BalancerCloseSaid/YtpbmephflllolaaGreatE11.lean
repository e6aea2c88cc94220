/- The proof of a given statement, a part of it (Map ShIp6 ShIp4 ShSum Sum Ip4 Ip6 Port). No condition but what each lemma says. -/
import Derived.MapKept
import Derived.Test.YtpbmephflllolaaGreatE10
set_option linter.unusedVariables false
set_option linter.unusedSimpArgs false
namespace Go.Proofs.YtpbmephflllolaaGreat
open Go
section
variable {κ : Type} [DecidableEq κ]
def T0 (enc : κ → Value) : List (κ × Value) → Nat → List MapEntry
 | [], _ => []
 | p :: l, i => ⟨enc p.1, p.2, i⟩ :: T0 enc l (i + 1)
def k4 (enc : κ → Value) (l : List (κ × Value)) : Obj := .map (T0 enc l 0).toArray l.length
def A1W (k : κ) : List (κ × Value) → Nat → Option (Nat × Value)
 | [], _ => none
 | p :: l, i => if k = p.1 then some (i, p.2) else A1W k l (i + 1)
def g7 (k : κ) : List (κ × Value) → Option Value
 | [] => none
 | p :: l => if k = p.1 then some p.2 else g7 k l
def g8 (k : κ) (v : Value) : List (κ × Value) → List (κ × Value)
 | [] => [(k, v)]
 | p :: l => if k = p.1 then (k, v) :: l else p :: g8 k v l
theorem B7l (k k' : κ) (v : Value) (l : List (κ × Value)) : g7 k' (g8 k v l) = if k' = k then some v else g7 k' l := by
 induction l with
 | nil => simp [g8, g7]
 | cons p l ih =>
  simp only [g8]
  by_cases h : k = p.1
  ·rw [if_pos h]; simp only [g7]
   by_cases h' : k' = k
   ·rw [if_pos h', if_pos h']
   ·rw [if_neg h', if_neg h', if_neg (by rw [← h]; exact h')]
  ·rw [if_neg h]; simp only [g7, ih]
   by_cases h' : k' = p.1
   ·rw [if_pos h', if_pos h', if_neg (by rw [h']; exact fun e => h e.symm)]
   ·rw [if_neg h', if_neg h']
theorem B62 (k : κ) (l : List (κ × Value)) (i : Nat) : (A1W k l i).map (·.2) = g7 k l := by
 induction l generalizing i with
 | nil => rfl
 | cons p l ih => simp only [A1W, g7]; split <;> simp [ih]
@[simp] theorem C5u {α : Type} (enc : α → Value) (l : List (α × Value)) (i : Nat) : (T0 enc l i).length = l.length := by
 induction l generalizing i with
 | nil => rfl
 | cons p l ih => simp [T0, ih]
theorem B3M {α : Type} (enc : α → Value) (l m : List (α × Value)) (i : Nat) : T0 enc (l ++ m) i = T0 enc l i ++ T0 enc m (i + l.length) := by
 induction l generalizing i with
 | nil => simp [T0]
 | cons p l ih => simp only [List.cons_append, T0, ih, List.length_cons]; congr 3; omega
theorem B6b (k : κ) (v : Value) (l : List (κ × Value)) (j : Nat) (h : A1W k l j = none) : g8 k v l = l ++ [(k, v)] := by
 induction l generalizing j with
 | nil => rfl
 | cons p l ih =>
  simp only [A1W] at h
  split at h
  ·cases h
  ·rename_i hn; simp only [g8, if_neg hn, List.cons_append, ih _ h]
theorem B8H (enc : κ → Value) (k : κ) (v : Value) (l : List (κ × Value)) : ∀ (j n : Nat) (u : Value), A1W k l j = some (n, u) → j ≤ n ∧ n < j + l.length ∧ ((T0 enc l j)[n - j]?).map (·.key) = some (enc k) ∧
  T0 enc (g8 k v l) j = (T0 enc l j).modify (n - j) (fun e => { e with key := enc k, val := v }) := by
 induction l with
 | nil => intro j n u h; cases h
 | cons p l ih =>
  intro j n u h
  simp only [A1W] at h
  split at h
  ·rename_i hk; cases h
   refine ⟨Nat.le_refl _, by simp, by simp [T0, hk], ?_⟩
   simp only [g8, if_pos hk, T0, Nat.sub_self, List.modify_zero_cons]
  ·rename_i hn
   obtain ⟨h1, h2, h3, h4⟩ := ih _ _ _ h
   have e : n - j = n - (j + 1) + 1 := by omega
   refine ⟨by omega, by simp only [List.length_cons]; omega, by rw [e]; simpa [T0] using h3, ?_⟩
   simp only [g8, if_neg hn, T0, e, List.modify_succ_cons, h4]
structure KeyT (P : Program) (kt : TypeId) (enc : κ → Value) : Prop where
 find : ∀ k l j w, (Instr.findKey kt (enc k) (T0 enc l j)).run P w = .ok (A1W k l 0) w
 check : ∀ k e w, (Instr.checkKey e 10000 kt (enc k)).run P w = .ok () w
 stays : ∀ k, Instr.sameBits 10000 (enc k) (enc k) = true
theorem A5m {d : TypeDesc} {enc : κ → Value} (hs : ∀ a b, Instr.sameNow d (enc a) (enc b) = some (decide (a = b))) (k : κ) (l : List (κ × Value)) : ∀ j i, Instr.findNow d (enc k) (T0 enc l j) i = some (A1W k l i) := by
 induction l with
 | nil => intro j i; rfl
 | cons p l ih =>
  intro j i
  simp only [T0, Instr.findNow, hs, A1W]
  by_cases h : k = p.1
  ·simp [h]
  ·simp [h, ih]
end
theorem KeyT.int {P : Program} {kt : TypeId} {n m : Nat} {z : Value} (h : TI P kt (.int .i64) n m z) : KeyT P kt (fun a : Int => Value.int .i64 a) := by
 refine ⟨fun k l j w => ?_, fun k e w => ?_, fun k => ?_⟩
 ·exact MapKept.run_findKey h.und (A5m (fun a b => by simp [Instr.sameNow]; exact A9z a b) k l j 0)
 ·exact MapKept.run_checkKey h.und (by trivial) e 9999
 ·simp [Instr.sameBits]
theorem KeyT.string {P : Program} {kt : TypeId} {n m : Nat} {z : Value} (h : TI P kt .string n m z) : KeyT P kt Value.string := by
 refine ⟨fun k l j w => ?_, fun k e w => ?_, fun k => ?_⟩
 ·exact MapKept.run_findKey h.und (A5m (fun a b => by simp only [Instr.sameNow, B6H]) k l j 0)
 ·exact MapKept.run_checkKey h.und (by trivial) e 9999
 ·simp only [Instr.sameBits, B6H, decide_true]
section
variable {κ : Type} [DecidableEq κ] {enc : κ → Value} {σ : Bool} {P : Program} {X : Nat → Prop} {S : List Nat} {w0 : World} {H H' : List Res} {K : Value → WP} {K0 : WP} {t kt et : TypeId} {n m n2 m2 : Nat} {z z2 : Value} {d : TypeDesc}
theorem B4V {α : Type} (enc : α → Value) (hK : ∀ r, TW σ S w0 (.pt r (k4 enc []) :: H) (K (.map (some r)))) : TW σ S w0 H (B1 P X (Instr.makeMap t none) K) := fun w hw => by
 have : (Instr.makeMap t none).run P w = .ok (.map (some (sz w))) (w.alloc (k4 enc [])) := by simp [Instr.makeMap, run_newObj, k4, T0, sz]
 rw [T5 this (Sk.alloc X w _ (Or.inl rfl))]
 exact hK _ _ (hw.new rfl (Or.inl rfl))
theorem A79 (hm : TI P t (.map kt et) n m z) (he : TI P et d n2 m2 z2) (hk : KeyT P kt enc) {r : Nat} {l : List (κ × Value)} {k : κ} (hr : Res.pt r (k4 enc l) ∈ H) :
  TW σ S w0 H (A6 P (Instr.lookup t (.map (some r)) (enc k) false) K) = TW σ S w0 H (K ((g7 k l).getD z2)) := TW.congr fun w hw => by
 have hb : w.heap[r]? = some (.map (T0 enc l 0).toArray l.length) := hw.pt hr
 refine S5 ?_ K
 have h1 : (getObj r).run P w = .ok (.map (T0 enc l 0).toArray l.length) w := MapKept.run_getObj_map hb
 simp only [Instr.lookup, Sem.run_bind, hm.run_und, Result.andThen_ok, h1, Sem.run_pure, hk.check, hk.find]
 rw [← B62 k l 0]
 cases A1W k l 0 with
 | none => simp [he.run_zero]
 | some p => simp
theorem A7j (hm : TI P t (.map kt et) n m z) (hk : KeyT P kt enc) {r : Nat} {l : List (κ × Value)} {k : κ} {v : Value} (hu : Up (.pt r (k4 enc l)) (.pt r (k4 enc (g8 k v l))) H H') (hK : TW σ S w0 H' K0) :
  TW σ S w0 H (C3 P X (Instr.mapUpdate t (.map (some r)) (enc k) v) K0) := fun w hw => by
 have hmem : Res.pt r (k4 enc l) ∈ H := by obtain ⟨A, B, rfl, _⟩ := hu.parts; simp
 have hb0 := hw.pt hmem
 have hb : w.heap[r]? = some (.map (T0 enc l 0).toArray l.length) := hb0
 have h1 : (getObj r).run P w = .ok (.map (T0 enc l 0).toArray l.length) w := MapKept.run_getObj_map hb
 have hrun : (Instr.mapUpdate t (.map (some r)) (enc k) v).run P w = .ok () (World.putb w r (k4 enc (g8 k v l))) := by
  simp only [Instr.mapUpdate, Sem.run_bind, hm.run_und, Result.andThen_ok, h1, hk.check, hk.find]
  cases hf : A1W k l 0 with
  | none =>
   have e := B6b k v l 0 hf
   simp [k4, e, B3M, T0, World.putb, MapKept.run_setObj_map _ hb]
  | some p =>
   obtain ⟨i, u⟩ := p
   obtain ⟨_, h2, h3, h4⟩ := B8H enc k v l 0 i u hf
   have hl : (g8 k v l).length = l.length := by
    have := congrArg List.length h4; simpa using this
   simp only [Nat.sub_zero] at h3 h4
   simp [k4, h4, hl, World.putb, MapKept.run_setObj_map _ hb, Instr.keyThatStays, h3, hk.stays]
 have hks : KS σ [r] w (World.putb w r (k4 enc (g8 k v l))) := by
  refine ((C4.refl [r] w).putb _ (Or.inl (by simp))).ks fun _ => ?_
  have h2 : ∀ (q : Nat) x, (∀ c T, x ≠ Obj.map c T) → w.heap[q]? = some x → (World.putb w r (k4 enc (g8 k v l))).heap[q]? = some x := fun q x hx e => by
   have : r ≠ q := by rintro rfl; rw [hb] at e; cases e; exact hx _ _ rfl
   exact (j2 (w := w) (o := k4 enc (g8 k v l)) this).trans e
  exact ⟨by simp [World.putb], fun q d => h2 q _ (by simp), fun q lo _ => h2 q _ (by simp), rfl, rfl⟩
 have hsk : Sk X w (World.putb w r (k4 enc (g8 k v l))) := by
  have h2 : ∀ (q : Nat) x, (∀ c T, x ≠ Obj.map c T) → w.heap[q]? = some x → (World.putb w r (k4 enc (g8 k v l))).heap[q]? = some x := fun q x hx e => by
   have : r ≠ q := by rintro rfl; rw [hb] at e; cases e; exact hx _ _ rfl
   exact (j2 (w := w) (o := k4 enc (g8 k v l)) this).trans e
  exact ⟨by simp [World.putb], fun q d => h2 q _ (by simp), fun q lo _ => h2 q _ (by simp), rfl, rfl⟩
 rw [B6T hrun hsk]
 refine hK _ (hw.up hu ⟨hks, ?_, ?_, by simp⟩)
 ·simp only [List.mem_singleton, forall_eq, Res.holds]; exact ⟨P3 (G3 hb0), rfl⟩
 ·simp only [List.mem_singleton, forall_eq, Res.foot]; exact ⟨Or.inl (by simp), by have := G3 hb0; simpa using this⟩
end
end Go.Proofs.YtpbmephflllolaaGreat
namespace Go.Proofs.YtpbmephflllolaaGreat
open Go
def A9C (X : Nat → Prop) (t0 t1 : Value) (R : Value → WP) : WP :=
 B1 PR X (Instr.box 122 t0) fun t2 =>
 jn (n := 2) (fun t4 t5 =>
 B1 PR X (Instr.alloc 189 true (.tuple #[])) fun t6 =>
 B2 PR X 94 [t6, (.int .i64 1610612736), (.int .i64 4)] fun t34 =>
 A0 PR (A8 .len #[9] 0 [t1]) fun t36 =>
 B2 PR X 94 [t6, t36, (.int .i64 2)] fun t37 =>
 A0 PR (Instr.fieldAt 122 t2 2) fun t38 =>
 A6 PR (Instr.loadAt 3 t38) fun t39 =>
 B2 PR X 94 [t6, t39, (.int .i64 1)] fun t40 =>
 B2 PR X 94 [t6, (.int .i64 64), (.int .i64 1)] fun t41 =>
 jn (n := 1) (fun t49 =>
 A0 PR (Instr.fieldAt 189 t6 0) fun t57 =>
 B2 PR X 96 [t57] fun t58 =>
 R (.tuple #[t58, (.int .i64 0)])) fun J1 =>
 A0 PR (Instr.fieldAt 122 t2 0) fun t42 =>
 A6 PR (Instr.loadAt 9 t42) fun t43 =>
 A0 PR (Instr.fieldAt 122 t2 1) fun t44 =>
 A6 PR (Instr.loadAt 9 t44) fun t45 =>
 B1 PR X (Instr.buildSlice 48 3 #[(0, t43), (1, t45), (2, t1)]) fun t47 =>
 A0 PR (A8 .len #[48] 0 [t47]) fun t48 =>
 lp (n := 1) (fun L2 t49_1 =>
 A0 PR (binOp .lss 3 t49_1 t48) fun t50 =>
 jn (n := 0) (
 jn (n := 0) (
 A0 PR (binOp .add 3 t49_1 (.int .i64 1)) fun t56 =>
 L2 t56) fun J3 =>
 A0 PR (Instr.indexAt 48 t47 t49_1) fun t51 =>
 A6 PR (Instr.loadAt 9 t51) fun t52 =>
 A0 PR (Instr.fieldAt 189 t6 0) fun t53 =>
 B2 PR X 95 [t53, t52] fun t55 =>
 J3) fun J4 =>
 C5 t50 (
 J4) (
 J1 t49_1)) (.int .i64 0)) fun J5 =>
 A0 PR (Instr.fieldAt 122 t2 0) fun t10 =>
 A6 PR (Instr.loadAt 9 t10) fun t11 =>
 A0 PR (A8 .len #[9] 0 [t11]) fun t12 =>
 A0 PR (binOp .neq 3 t12 (.int .i64 16)) fun t13 =>
 gj t13 false (fun J => A0 PR (Instr.fieldAt 122 t2 1) J) fun t15 =>
 gj t13 false (fun J => A6 PR (Instr.loadAt 9 t15) J) fun t16 =>
 gj t13 false (fun J => A0 PR (A8 .len #[9] 0 [t16]) J) fun t17 =>
 gj t13 false (fun J => A0 PR (binOp .neq 3 t17 (.int .i64 16)) J) fun t18 =>
 A0 PR (do pure (if ← asBool t13 then (.bool true) else t18)) fun t19 =>
 gj t19 false (fun J => A0 PR (Instr.fieldAt 122 t2 2) J) fun t21 =>
 gj t19 false (fun J => A6 PR (Instr.loadAt 3 t21) J) fun t22 =>
 gj t19 false (fun J => A0 PR (binOp .lss 3 t22 (.int .i64 0)) J) fun t23 =>
 A0 PR (do pure (if ← asBool t19 then (.bool true) else t23)) fun t24 =>
 gj t24 false (fun J => A0 PR (Instr.fieldAt 122 t2 2) J) fun t26 =>
 gj t24 false (fun J => A6 PR (Instr.loadAt 3 t26) J) fun t27 =>
 gj t24 false (fun J => A0 PR (binOp .gtr 3 t27 (.int .i64 255)) J) fun t28 =>
 A0 PR (do pure (if ← asBool t24 then (.bool true) else t28)) fun t29 =>
 C5 t29 (
 R (.tuple #[(.string (ByteArray.mk #[])), (.int .i64 1)])) (
 A0 PR (A8 .len #[9] 0 [t1]) fun t32 =>
 A0 PR (binOp .gtr 3 t32 (.int .i64 65535)) fun t33 =>
 C5 t33 (
 R (.tuple #[(.string (ByteArray.mk #[])), (.int .i64 4)])) (
 J5 (.string (ByteArray.mk #[])) (.int .i64 0)))
theorem B3l : A9 PR 52 := A7 Tryz.func52 (by kernel_rfl) rfl
theorem B5k {X : Nat → Prop} {t0 t1 : Value} {R : Value → WP} {w : World} (h : A9C X t0 t1 R w) : Fn PR X 52 #[t0, t1] w R := D5 (args := [t0, t1]) mixed Tryz.func52 (by kernel_rfl) h
def y6 (X : Nat → Prop) (t0 t1 t2 : Value) (R : Value → WP) : WP :=
 drw <|
 A0 PR (F5 t0) fun t7 =>
 A0 PR (Instr.fieldAt 189 t7 0) fun t8 =>
 A0 PR (convert 3 129 t1) fun t10 =>
 B2 PR X 55 [t10, t2] fun t12 =>
 B2 PR X 95 [t8, t12] fun t13 =>
 R (.tuple #[])
theorem S6 : A9 PR 94 := A7 Tryz.func94 (by kernel_rfl) rfl
theorem A4Y {X : Nat → Prop} {t0 t1 t2 : Value} {R : Value → WP} {w : World} (h : y6 X t0 t1 t2 R w) : Fn PR X 94 #[t0, t1, t2] w R := D5 (args := [t0, t1, t2]) mixed Tryz.func94 (by kernel_rfl) h
def A6l (X : Nat → Prop) (t0 : Value) (R : Value → WP) : WP :=
 B1 PR X (Instr.alloc 122 true (.tuple #[])) fun t2 =>
 jn (n := 2) (fun t3 t4 =>
 jn (n := 2) (fun t3_1 t4_1 =>
 B1 PR X (Instr.buildSlice 34 6 #[(0, (.int .i64 4)), (1, (.int .i64 2)), (2, (.int .i64 1)), (3, (.int .i64 1)), (4, (.int .i64 16)), (5, (.int .i64 16))]) fun t19 =>
 B2 PR X 195 [t0, t19] fun t20 =>
 A0 PR (Instr.indexAt 48 t20 (.int .i64 1)) fun t23 =>
 A6 PR (Instr.loadAt 9 t23) fun t24 =>
 B2 PR X 148 [t24, (.int .i64 0), (.int .i64 2)] fun t25 =>
 A0 PR (Instr.extract t25 0) fun t26 =>
 A0 PR (Instr.extract t25 1) fun t27 =>
 A0 PR (Instr.indexAt 48 t20 (.int .i64 6)) fun t29 =>
 A6 PR (Instr.loadAt 9 t29) fun t30 =>
 jn (n := 2) (fun t3_2 t4_2 =>
 drw <|
 A0 PR (Instr.indexAt 48 t20 (.int .i64 4)) fun t38 =>
 A6 PR (Instr.loadAt 9 t38) fun t39 =>
 A0 PR (Instr.indexAt 48 t20 (.int .i64 5)) fun t41 =>
 A6 PR (Instr.loadAt 9 t41) fun t42 =>
 A0 PR (Instr.indexAt 48 t20 (.int .i64 2)) fun t44 =>
 A6 PR (Instr.loadAt 9 t44) fun t45 =>
 A0 PR (Instr.index 9 t45 (.int .i64 0)) fun t46 =>
 A0 PR (convert 5 3 t46) fun t47 =>
 A0 PR (Instr.build 122 #[(0, t39), (1, t42), (2, t47)]) fun t48 =>
 A0 PR (Instr.sliceAt 9 t30 none (some t26) none) fun t51 =>
 C3 PR X (Instr.storeAt 122 t2 t48) <|
 A6 PR (E3 [.c 122 t2, .v t51, .v (.int .i64 0)]) R) fun J1 =>
 A0 PR (A8 .len #[9] 0 [t30]) fun t33 =>
 A0 PR (convert 3 129 t33) fun t34 =>
 A0 PR (binOp .gtr 129 t26 t34) fun t35 =>
 C5 t35 (
 A0 PR (Instr.build 122 #[]) fun t36 =>
 C3 PR X (Instr.storeAt 122 t2 t36) <|
 A6 PR (E3 [.c 122 t2, .v (.string (ByteArray.mk #[])), .v (.int .i64 4)]) R) (
 J1 t3_1 t4_1)) fun J2 =>
 A0 PR (Instr.index 9 t0 (.int .i64 0)) fun t14 =>
 A0 PR (binOp .shr 5 t14 (.int .u64 4)) fun t15 =>
 A0 PR (binOp .neq 5 t15 (.int .u8 6)) fun t16 =>
 C5 t16 (
 A0 PR (Instr.build 122 #[]) fun t17 =>
 C3 PR X (Instr.storeAt 122 t2 t17) <|
 A6 PR (E3 [.c 122 t2, .v (.string (ByteArray.mk #[])), .v (.int .i64 3)]) R) (
 J2 t3 t4)) fun J3 =>
 A0 PR (A8 .len #[9] 0 [t0]) fun t10 =>
 A0 PR (binOp .lss 3 t10 (.int .i64 40)) fun t11 =>
 C5 t11 (
 A0 PR (Instr.build 122 #[]) fun t12 =>
 C3 PR X (Instr.storeAt 122 t2 t12) <|
 A6 PR (E3 [.c 122 t2, .v (.string (ByteArray.mk #[])), .v (.int .i64 2)]) R) (
 J3 (.string (ByteArray.mk #[])) (.int .i64 0))
theorem B1H : A9 PR 146 := A7 Tryz.func146 (by kernel_rfl) rfl
theorem B2j {X : Nat → Prop} {t0 : Value} {R : Value → WP} {w : World} (h : A6l X t0 R w) : Fn PR X 146 #[t0] w R := D5 (args := [t0]) mixed Tryz.func146 (by kernel_rfl) h
def A8K (X : Nat → Prop) (t0 t1 : Value) (R : Value → WP) : WP :=
 jn (n := 3) (fun t5 t0_1 t10 =>
 B1 PR X (Instr.buildSlice 48 1 #[(0, t0_1)]) fun t26 =>
 B1 PR X (A8 .append #[48, 48] 48 [t5, t26]) fun t27 =>
 R t27) fun J1 =>
 A0 PR (A8 .len #[34] 0 [t1]) fun t9 =>
 lp (n := 3) (fun L2 t5_1 t0_2 t10_1 =>
 A0 PR (binOp .lss 3 t10_1 t9) fun t11 =>
 jn (n := 0) (
 jn (n := 2) (fun t5_2 t0_3 =>
 A0 PR (binOp .add 3 t10_1 (.int .i64 1)) fun t23 =>
 L2 t5_2 t0_3 t23) fun J3 =>
 A0 PR (Instr.indexAt 34 t1 t10_1) fun t12 =>
 A6 PR (Instr.loadAt 3 t12) fun t13 =>
 A0 PR (Instr.sliceAt 9 t0_2 none (some t13) none) fun t17 =>
 B1 PR X (Instr.buildSlice 48 1 #[(0, t17)]) fun t18 =>
 B1 PR X (A8 .append #[48, 48] 48 [t5_1, t18]) fun t19 =>
 A0 PR (Instr.sliceAt 9 t0_2 (some t13) none none) fun t22 =>
 J3 t19 t22) fun J4 =>
 C5 t11 (
 J4) (
 J1 t5_1 t0_2 t10_1)) (.slice none 0 0) t0 (.int .i64 0)
theorem B3n : A9 PR 195 := A7 Tryz.func195 (by kernel_rfl) rfl
theorem B5N {X : Nat → Prop} {t0 t1 : Value} {R : Value → WP} {w : World} (h : A8K X t0 t1 R w) : Fn PR X 195 #[t0, t1] w R := D5 (args := [t0, t1]) mixed Tryz.func195 (by kernel_rfl) h
end Go.Proofs.YtpbmephflllolaaGreat
namespace Go.Proofs.YtpbmephflllolaaGreat
open Go
def A87 (X : Nat → Prop) (t0 t1 : Value) (R : Value → WP) : WP :=
 B1 PR X (Instr.box 124 t0) fun t2 =>
 B1 PR X (Instr.box 9 t1) fun t3 =>
 jn (n := 2) (fun t4 t5 =>
 A0 PR (Instr.makeFunc (.func 97) #[] #[t3, t2]) fun t32 =>
 drw <|
 A6 PR (Instr.loadAt 9 t3) fun t38 =>
 H3 PR X t32 [(.int .i64 0)] fun t35 =>
 watch PR [(none, (Instr.loadAt 9 t3), t38)] <|
 B2 PR X 98 [t35] fun t36 =>
 watch PR [(none, (Instr.loadAt 9 t3), t38)] <|
 H3 PR X t32 [t36] fun t37 =>
 watch PR [(none, (Instr.loadAt 9 t3), t38)] <|
 A0 PR (binOp .add 9 t37 t38) fun t39 =>
 R (.tuple #[t39, (.int .i64 0)])) fun J1 =>
 A0 PR (Instr.fieldAt 124 t2 0) fun t8 =>
 A6 PR (Instr.loadAt 9 t8) fun t9 =>
 A0 PR (A8 .len #[9] 0 [t9]) fun t10 =>
 A0 PR (binOp .neq 3 t10 (.int .i64 4)) fun t11 =>
 gj t11 false (fun J => A0 PR (Instr.fieldAt 124 t2 1) J) fun t13 =>
 gj t11 false (fun J => A6 PR (Instr.loadAt 9 t13) J) fun t14 =>
 gj t11 false (fun J => A0 PR (A8 .len #[9] 0 [t14]) J) fun t15 =>
 gj t11 false (fun J => A0 PR (binOp .neq 3 t15 (.int .i64 4)) J) fun t16 =>
 A0 PR (do pure (if ← asBool t11 then (.bool true) else t16)) fun t17 =>
 gj t17 false (fun J => A0 PR (Instr.fieldAt 124 t2 2) J) fun t19 =>
 gj t17 false (fun J => A6 PR (Instr.loadAt 3 t19) J) fun t20 =>
 gj t17 false (fun J => A0 PR (binOp .lss 3 t20 (.int .i64 0)) J) fun t21 =>
 A0 PR (do pure (if ← asBool t17 then (.bool true) else t21)) fun t22 =>
 gj t22 false (fun J => A0 PR (Instr.fieldAt 124 t2 2) J) fun t24 =>
 gj t22 false (fun J => A6 PR (Instr.loadAt 3 t24) J) fun t25 =>
 gj t22 false (fun J => A0 PR (binOp .gtr 3 t25 (.int .i64 255)) J) fun t26 =>
 A0 PR (do pure (if ← asBool t22 then (.bool true) else t26)) fun t27 =>
 C5 t27 (
 R (.tuple #[(.string (ByteArray.mk #[])), (.int .i64 1)])) (
 A6 PR (Instr.loadAt 9 t3) fun t29 =>
 A0 PR (A8 .len #[9] 0 [t29]) fun t30 =>
 A0 PR (binOp .gtr 3 t30 (.int .i64 65515)) fun t31 =>
 C5 t31 (
 R (.tuple #[(.string (ByteArray.mk #[])), (.int .i64 4)])) (
 J1 (.string (ByteArray.mk #[])) (.int .i64 0)))
theorem B3c : A9 PR 53 := A7 Tryz.func53 (by kernel_rfl) rfl
theorem B5L {X : Nat → Prop} {t0 t1 : Value} {R : Value → WP} {w : World} (h : A87 X t0 t1 R w) : Fn PR X 53 #[t0, t1] w R := D5 (args := [t0, t1]) mixed Tryz.func53 (by kernel_rfl) h
def A5C (X : Nat → Prop) (t0 t1 t2 : Value) (R : Value → WP) : WP :=
 drw <|
 A6 PR (Instr.loadAt 9 t1) fun t5 =>
 A0 PR (A8 .len #[9] 0 [t5]) fun t6 =>
 A0 PR (binOp .add 3 (.int .i64 20) t6) fun t7 =>
 A0 PR (convert 3 129 t7) fun t8 =>
 A0 PR (Instr.fieldAt 124 t2 2) fun t12 =>
 A6 PR (Instr.loadAt 3 t12) fun t13 =>
 A0 PR (convert 3 129 t13) fun t14 =>
 A0 PR (convert 3 129 t0) fun t18 =>
 A0 PR (Instr.fieldAt 124 t2 0) fun t21 =>
 A6 PR (Instr.loadAt 9 t21) fun t22 =>
 A0 PR (Instr.fieldAt 124 t2 1) fun t24 =>
 A6 PR (Instr.loadAt 9 t24) fun t25 =>
 B2 PR X 55 [t8, (.int .i64 2)] fun t9 =>
 watch PR [(none, (Instr.loadAt 9 t24), t25), (none, (Instr.loadAt 9 t21), t22), (none, (Instr.loadAt 3 t12), t13)] <|
 A0 PR (binOp .add 9 (.string (ByteArray.mk #[69, 0])) t9) fun t10 =>
 A0 PR (binOp .add 9 t10 (.string (ByteArray.mk #[0, 0, 64, 0, 64]))) fun t11 =>
 B2 PR X 55 [t14, (.int .i64 1)] fun t15 =>
 watch PR [(none, (Instr.loadAt 9 t24), t25), (none, (Instr.loadAt 9 t21), t22)] <|
 A0 PR (binOp .add 9 t11 t15) fun t16 =>
 B2 PR X 55 [t18, (.int .i64 2)] fun t19 =>
 watch PR [(none, (Instr.loadAt 9 t24), t25), (none, (Instr.loadAt 9 t21), t22)] <|
 A0 PR (binOp .add 9 t16 t19) fun t20 =>
 A0 PR (binOp .add 9 t20 t22) fun t23 =>
 A0 PR (binOp .add 9 t23 t25) fun t26 =>
 R t26
theorem A4C : A9 PR 97 := A7 Tryz.func97 (by kernel_rfl) rfl
theorem B1E {X : Nat → Prop} {t0 t1 t2 : Value} {R : Value → WP} {w : World} (h : A5C X t0 t1 t2 R w) : Fn PR X 97 #[t0, t1, t2] w R := D5 (args := [t0, t1, t2]) mixed Tryz.func97 (by kernel_rfl) h
def A58 (X : Nat → Prop) (t0 : Value) (R : Value → WP) : WP :=
 B1 PR X (Instr.box 9 t0) fun t1 =>
 B1 PR X (Instr.alloc 124 true (.tuple #[])) fun t2 =>
 A0 PR (Instr.makeFunc (.func 187) #[] #[t1]) fun t9 =>
 B1 PR X (Instr.alloc 149 true (.tuple #[])) fun t5 =>
 C3 PR X (Instr.storeAt 149 t5 t9) <|
 drw <|
 kt (n := 2) (fun t6 t7 =>
 A0 PR (Instr.makeFunc (.func 189) #[] #[t1]) fun t16 =>
 A0 PR (Instr.build 296 #[(0, t16), (1, (.int .i64 2))]) fun t17 =>
 A0 PR (Instr.makeFunc (.func 190) #[] #[t5]) fun t18 =>
 A0 PR (Instr.build 296 #[(0, t18), (1, (.int .i64 3))]) fun t19 =>
 A0 PR (Instr.makeFunc (.func 191) #[] #[t6, t1, t7]) fun t20 =>
 A0 PR (Instr.build 296 #[(0, t20), (1, (.int .i64 4))]) fun t21 =>
 A0 PR (Instr.makeFunc (.func 192) #[] #[t1, t6]) fun t22 =>
 A0 PR (Instr.build 296 #[(0, t22), (1, (.int .i64 5))]) fun t23 =>
 A0 PR (Instr.makeFunc (.func 194) #[] #[t5]) fun t24 =>
 A0 PR (Instr.build 296 #[(0, t24), (1, (.int .i64 6))]) fun t25 =>
 B1 PR X (Instr.buildSlice 320 5 #[(0, t17), (1, t19), (2, t21), (3, t23), (4, t25)]) fun t26 =>
 B2 PR X 188 [t26] fun t27 =>
 jn (n := 2) (fun t3 t4 =>
 drw <|
 A6 PR (Instr.loadAt 9 t1) fun t32 =>
 A0 PR (Instr.sliceAt 9 t32 (some (.int .i64 12)) (some (.int .i64 16)) none) fun t33 =>
 A6 PR (Instr.loadAt 9 t1) fun t34 =>
 A0 PR (Instr.sliceAt 9 t34 (some (.int .i64 16)) (some (.int .i64 20)) none) fun t35 =>
 A6 PR (Instr.loadAt 149 t5) fun t36 =>
 A6 PR (Instr.loadAt 9 t1) fun t39 =>
 A6 PR (Instr.loadAt 3 t6) fun t40 =>
 A6 PR (Instr.loadAt 3 t7) fun t41 =>
 A0 PR (Instr.sliceAt 9 t39 (some t40) (some t41) none) fun t42 =>
 H3 PR X t36 [(.int .i64 9), (.int .i64 1)] fun t37 =>
 watch PR [(none, (Instr.loadAt 3 t7), t41), (none, (Instr.loadAt 3 t6), t40), (none, (Instr.loadAt 9 t1), t39), (none, (Instr.loadAt 9 t1), t34), (none, (Instr.loadAt 9 t1), t32)] <|
 A0 PR (Instr.build 124 #[(0, t33), (1, t35), (2, t37)]) fun t38 =>
 C3 PR X (Instr.storeAt 124 t2 t38) <|
 watch PR [(none, (Instr.loadAt 3 t7), t41), (none, (Instr.loadAt 3 t6), t40), (none, (Instr.loadAt 9 t1), t39)] <|
 A6 PR (E3 [.c 124 t2, .v t42, .v (.int .i64 0)]) R) fun J1 =>
 A0 PR (binOp .neq 28 t27 (.int .i64 0)) fun t29 =>
 C5 t29 (
 A0 PR (Instr.build 124 #[]) fun t30 =>
 C3 PR X (Instr.storeAt 124 t2 t30) <|
 A6 PR (E3 [.c 124 t2, .v (.string (ByteArray.mk #[])), .v t27]) R) (
 J1 (.string (ByteArray.mk #[])) (.int .i64 0))) fun C2 =>
 A6 PR (Instr.loadAt 149 t5) fun t10_1 =>
 A6 PR (Instr.loadAt 149 t5) fun t14_1 =>
 both (H3 PR X t10_1 [(.int .i64 0), (.int .i64 1)] fun t11_5 =>
 watch PR [(none, (Instr.loadAt 149 t5), t14_1)] <|
 A0 PR (binOp .and 3 t11_5 (.int .i64 15)) fun t12_5 =>
 A0 PR (binOp .mul 3 t12_5 (.int .i64 4)) fun t13_5 =>
 both (H3 PR X t14_1 [(.int .i64 2), (.int .i64 2)] fun t15_11 =>
 both (B1 PR X (Instr.alloc 3 true (.tuple #[])) fun t6_9 =>
 B1 PR X (Instr.alloc 3 true (.tuple #[])) fun t7_9 =>
 C3 PR X (Instr.storeAt 3 t6_9 t13_5) <|
 C3 PR X (Instr.storeAt 3 t7_9 t15_11) <|
 C2 t6_9 t7_9) (both (B1 PR X (Instr.alloc 3 true (.tuple #[])) fun t7_8 =>
 B1 PR X (Instr.alloc 3 true (.tuple #[])) fun t6_8 =>
 C3 PR X (Instr.storeAt 3 t6_8 t13_5) <|
 C3 PR X (Instr.storeAt 3 t7_8 t15_11) <|
 C2 t6_8 t7_8) ((fun _ => True)))) (both (B1 PR X (Instr.alloc 3 true (.tuple #[])) fun t6_7 =>
 watch PR [(none, (Instr.loadAt 149 t5), t14_1)] <|
 both (H3 PR X t14_1 [(.int .i64 2), (.int .i64 2)] fun t15_10 =>
 B1 PR X (Instr.alloc 3 true (.tuple #[])) fun t7_7 =>
 C3 PR X (Instr.storeAt 3 t6_7 t13_5) <|
 C3 PR X (Instr.storeAt 3 t7_7 t15_10) <|
 C2 t6_7 t7_7) (both (B1 PR X (Instr.alloc 3 true (.tuple #[])) fun t7_6 =>
 watch PR [(none, (Instr.loadAt 149 t5), t14_1)] <|
 H3 PR X t14_1 [(.int .i64 2), (.int .i64 2)] fun t15_9 =>
 C3 PR X (Instr.storeAt 3 t6_7 t13_5) <|
 C3 PR X (Instr.storeAt 3 t7_6 t15_9) <|
 C2 t6_7 t7_6) ((fun _ => True)))) (both (B1 PR X (Instr.alloc 3 true (.tuple #[])) fun t7_5 =>
 watch PR [(none, (Instr.loadAt 149 t5), t14_1)] <|
 both (H3 PR X t14_1 [(.int .i64 2), (.int .i64 2)] fun t15_8 =>
 B1 PR X (Instr.alloc 3 true (.tuple #[])) fun t6_6 =>
 C3 PR X (Instr.storeAt 3 t6_6 t13_5) <|
 C3 PR X (Instr.storeAt 3 t7_5 t15_8) <|
 C2 t6_6 t7_5) (both (B1 PR X (Instr.alloc 3 true (.tuple #[])) fun t6_5 =>
 watch PR [(none, (Instr.loadAt 149 t5), t14_1)] <|
 H3 PR X t14_1 [(.int .i64 2), (.int .i64 2)] fun t15_7 =>
 C3 PR X (Instr.storeAt 3 t6_5 t13_5) <|
 C3 PR X (Instr.storeAt 3 t7_5 t15_7) <|
 C2 t6_5 t7_5) ((fun _ => True)))) ((fun _ => True))))) (both (B1 PR X (Instr.alloc 3 true (.tuple #[])) fun t6_4 =>
 watch PR [(none, (Instr.loadAt 149 t5), t14_1), (none, (Instr.loadAt 149 t5), t10_1)] <|
 both (H3 PR X t10_1 [(.int .i64 0), (.int .i64 1)] fun t11_4 =>
 watch PR [(none, (Instr.loadAt 149 t5), t14_1)] <|
 A0 PR (binOp .and 3 t11_4 (.int .i64 15)) fun t12_4 =>
 A0 PR (binOp .mul 3 t12_4 (.int .i64 4)) fun t13_4 =>
 both (H3 PR X t14_1 [(.int .i64 2), (.int .i64 2)] fun t15_6 =>
 B1 PR X (Instr.alloc 3 true (.tuple #[])) fun t7_4 =>
 C3 PR X (Instr.storeAt 3 t6_4 t13_4) <|
 C3 PR X (Instr.storeAt 3 t7_4 t15_6) <|
 C2 t6_4 t7_4) (both (B1 PR X (Instr.alloc 3 true (.tuple #[])) fun t7_3 =>
 watch PR [(none, (Instr.loadAt 149 t5), t14_1)] <|
 H3 PR X t14_1 [(.int .i64 2), (.int .i64 2)] fun t15_5 =>
 C3 PR X (Instr.storeAt 3 t6_4 t13_4) <|
 C3 PR X (Instr.storeAt 3 t7_3 t15_5) <|
 C2 t6_4 t7_3) ((fun _ => True)))) (both (B1 PR X (Instr.alloc 3 true (.tuple #[])) fun t7_2 =>
 watch PR [(none, (Instr.loadAt 149 t5), t14_1), (none, (Instr.loadAt 149 t5), t10_1)] <|
 H3 PR X t10_1 [(.int .i64 0), (.int .i64 1)] fun t11_3 =>
 watch PR [(none, (Instr.loadAt 149 t5), t14_1)] <|
 A0 PR (binOp .and 3 t11_3 (.int .i64 15)) fun t12_3 =>
 A0 PR (binOp .mul 3 t12_3 (.int .i64 4)) fun t13_3 =>
 H3 PR X t14_1 [(.int .i64 2), (.int .i64 2)] fun t15_4 =>
 C3 PR X (Instr.storeAt 3 t6_4 t13_3) <|
 C3 PR X (Instr.storeAt 3 t7_2 t15_4) <|
 C2 t6_4 t7_2) ((fun _ => True)))) (both (B1 PR X (Instr.alloc 3 true (.tuple #[])) fun t7_1 =>
 watch PR [(none, (Instr.loadAt 149 t5), t14_1), (none, (Instr.loadAt 149 t5), t10_1)] <|
 both (H3 PR X t10_1 [(.int .i64 0), (.int .i64 1)] fun t11_2 =>
 watch PR [(none, (Instr.loadAt 149 t5), t14_1)] <|
 A0 PR (binOp .and 3 t11_2 (.int .i64 15)) fun t12_2 =>
 A0 PR (binOp .mul 3 t12_2 (.int .i64 4)) fun t13_2 =>
 both (H3 PR X t14_1 [(.int .i64 2), (.int .i64 2)] fun t15_3 =>
 B1 PR X (Instr.alloc 3 true (.tuple #[])) fun t6_3 =>
 C3 PR X (Instr.storeAt 3 t6_3 t13_2) <|
 C3 PR X (Instr.storeAt 3 t7_1 t15_3) <|
 C2 t6_3 t7_1) (both (B1 PR X (Instr.alloc 3 true (.tuple #[])) fun t6_2 =>
 watch PR [(none, (Instr.loadAt 149 t5), t14_1)] <|
 H3 PR X t14_1 [(.int .i64 2), (.int .i64 2)] fun t15_2 =>
 C3 PR X (Instr.storeAt 3 t6_2 t13_2) <|
 C3 PR X (Instr.storeAt 3 t7_1 t15_2) <|
 C2 t6_2 t7_1) ((fun _ => True)))) (both (B1 PR X (Instr.alloc 3 true (.tuple #[])) fun t6_1 =>
 watch PR [(none, (Instr.loadAt 149 t5), t14_1), (none, (Instr.loadAt 149 t5), t10_1)] <|
 H3 PR X t10_1 [(.int .i64 0), (.int .i64 1)] fun t11_1 =>
 watch PR [(none, (Instr.loadAt 149 t5), t14_1)] <|
 A0 PR (binOp .and 3 t11_1 (.int .i64 15)) fun t12_1 =>
 A0 PR (binOp .mul 3 t12_1 (.int .i64 4)) fun t13_1 =>
 H3 PR X t14_1 [(.int .i64 2), (.int .i64 2)] fun t15_1 =>
 C3 PR X (Instr.storeAt 3 t6_1 t13_1) <|
 C3 PR X (Instr.storeAt 3 t7_1 t15_1) <|
 C2 t6_1 t7_1) ((fun _ => True)))) ((fun _ => True))))
theorem B1K : A9 PR 143 := A7 Tryz.func143 (by kernel_rfl) rfl
theorem B2r {X : Nat → Prop} {t0 : Value} {R : Value → WP} {w : World} (h : A58 X t0 R w) : Fn PR X 143 #[t0] w R := D5 (args := [t0]) mixed Tryz.func143 (by kernel_rfl) h
def A3L (X : Nat → Prop) (t0 t1 t2 : Value) (R : Value → WP) : WP :=
 A6 PR (Instr.loadAt 9 t2) fun t9 =>
 B2 PR X 148 [t9, t0, t1] fun t12 =>
 A0 PR (Instr.extract t12 0) fun t13 =>
 A0 PR (Instr.extract t12 1) fun t14 =>
 A0 PR (convert 129 3 t13) fun t16 =>
 R t16
theorem g5 : A9 PR 187 := A7 Tryz.func187 (by kernel_rfl) rfl
theorem A83 {X : Nat → Prop} {t0 t1 t2 : Value} {R : Value → WP} {w : World} (h : A3L X t0 t1 t2 R w) : Fn PR X 187 #[t0, t1, t2] w R := D5 (args := [t0, t1, t2]) mixed Tryz.func187 (by kernel_rfl) h
def A6M (X : Nat → Prop) (t0 : Value) (R : Value → WP) : WP :=
 jn (n := 2) (fun t3 t8 =>
 R t3) fun J1 =>
 A0 PR (A8 .len #[320] 0 [t0]) fun t7 =>
 lp (n := 2) (fun L2 t3_1 t8_1 =>
 A0 PR (binOp .lss 3 t8_1 t7) fun t9 =>
 jn (n := 0) (
 jn (n := 1) (fun t3_2 =>
 A0 PR (binOp .add 3 t8_1 (.int .i64 1)) fun t17 =>
 L2 t3_2 t17) fun J3 =>
 A0 PR (Instr.indexAt 320 t0 t8_1) fun t10 =>
 A6 PR (Instr.loadAt 296 t10) fun t11 =>
 B1 PR X (Instr.alloc 296 true (.tuple #[])) fun t5 =>
 C3 PR X (Instr.storeAt 296 t5 t11) <|
 A0 PR (Instr.fieldAt 296 t5 0) fun t12 =>
 A6 PR (Instr.loadAt 25 t12) fun t13 =>
 H3 PR X t13 [] fun t14 =>
 C5 t14 (
 A0 PR (Instr.fieldAt 296 t5 1) fun t15 =>
 A6 PR (Instr.loadAt 28 t15) fun t16 =>
 J1 t16 t8_1) (
 J3 t3_1)) fun J4 =>
 C5 t9 (
 J4) (
 J1 t3_1 t8_1)) (.int .i64 0) (.int .i64 0)
theorem B04 : A9 PR 188 := A7 Tryz.func188 (by kernel_rfl) rfl
theorem B1g {X : Nat → Prop} {t0 : Value} {R : Value → WP} {w : World} (h : A6M X t0 R w) : Fn PR X 188 #[t0] w R := D5 (args := [t0]) mixed Tryz.func188 (by kernel_rfl) h
def A3K (X : Nat → Prop) (t0 : Value) (R : Value → WP) : WP :=
 A6 PR (Instr.loadAt 9 t0) fun t2 =>
 A0 PR (A8 .len #[9] 0 [t2]) fun t3 =>
 A0 PR (binOp .lss 3 t3 (.int .i64 20)) fun t4 =>
 R t4
theorem A7k : A9 PR 189 := A7 Tryz.func189 (by kernel_rfl) rfl
theorem A8b {X : Nat → Prop} {t0 : Value} {R : Value → WP} {w : World} (h : A3K X t0 R w) : Fn PR X 189 #[t0] w R := D5 (args := [t0]) mixed Tryz.func189 (by kernel_rfl) h
def A28 (X : Nat → Prop) (t0 : Value) (R : Value → WP) : WP :=
 A6 PR (Instr.loadAt 149 t0) fun t2 =>
 H3 PR X t2 [(.int .i64 0), (.int .i64 1)] fun t3 =>
 A0 PR (binOp .shr 3 t3 (.int .u64 4)) fun t4 =>
 A0 PR (binOp .neq 3 t4 (.int .i64 4)) fun t5 =>
 R t5
theorem A7d : A9 PR 190 := A7 Tryz.func190 (by kernel_rfl) rfl
theorem A8x {X : Nat → Prop} {t0 : Value} {R : Value → WP} {w : World} (h : A28 X t0 R w) : Fn PR X 190 #[t0] w R := D5 (args := [t0]) mixed Tryz.func190 (by kernel_rfl) h
def A3B (X : Nat → Prop) (t0 t1 t2 : Value) (R : Value → WP) : WP :=
 A6 PR (Instr.loadAt 3 t0) fun t4 =>
 A0 PR (binOp .lss 3 t4 (.int .i64 20)) fun t5 =>
 gj t5 false (fun J => A6 PR (Instr.loadAt 3 t0) J) fun t7 =>
 gj t5 false (fun J => A6 PR (Instr.loadAt 9 t1) J) fun t8 =>
 gj t5 false (fun J => A0 PR (A8 .len #[9] 0 [t8]) J) fun t9 =>
 gj t5 false (fun J => A0 PR (binOp .gtr 3 t7 t9) J) fun t10 =>
 A0 PR (do pure (if ← asBool t5 then (.bool true) else t10)) fun t11 =>
 gj t11 false (fun J => A6 PR (Instr.loadAt 3 t2) J) fun t13 =>
 gj t11 false (fun J => A6 PR (Instr.loadAt 3 t0) J) fun t14 =>
 gj t11 false (fun J => A0 PR (binOp .lss 3 t13 t14) J) fun t15 =>
 A0 PR (do pure (if ← asBool t11 then (.bool true) else t15)) fun t16 =>
 gj t16 false (fun J => A6 PR (Instr.loadAt 3 t2) J) fun t18 =>
 gj t16 false (fun J => A6 PR (Instr.loadAt 9 t1) J) fun t19 =>
 gj t16 false (fun J => A0 PR (A8 .len #[9] 0 [t19]) J) fun t20 =>
 gj t16 false (fun J => A0 PR (binOp .gtr 3 t18 t20) J) fun t21 =>
 A0 PR (do pure (if ← asBool t16 then (.bool true) else t21)) fun t22 =>
 R t22
theorem A8C : A9 PR 191 := A7 Tryz.func191 (by kernel_rfl) rfl
theorem A8U {X : Nat → Prop} {t0 t1 t2 : Value} {R : Value → WP} {w : World} (h : A3B X t0 t1 t2 R w) : Fn PR X 191 #[t0, t1, t2] w R := D5 (args := [t0, t1, t2]) mixed Tryz.func191 (by kernel_rfl) h
def A3A (X : Nat → Prop) (t0 t1 : Value) (R : Value → WP) : WP :=
 A6 PR (Instr.loadAt 9 t0) fun t3 =>
 A6 PR (Instr.loadAt 3 t1) fun t4 =>
 A0 PR (Instr.sliceAt 9 t3 none (some t4) none) fun t5 =>
 B2 PR X 193 [t5] fun t6 =>
 A0 PR (Op.unary .not t6) fun t7 =>
 R t7
theorem A7g : A9 PR 192 := A7 Tryz.func192 (by kernel_rfl) rfl
theorem A8d {X : Nat → Prop} {t0 t1 : Value} {R : Value → WP} {w : World} (h : A3A X t0 t1 R w) : Fn PR X 192 #[t0, t1] w R := D5 (args := [t0, t1]) mixed Tryz.func192 (by kernel_rfl) h
def A25 (X : Nat → Prop) (t0 : Value) (R : Value → WP) : WP :=
 A6 PR (Instr.loadAt 149 t0) fun t2 =>
 H3 PR X t2 [(.int .i64 6), (.int .i64 2)] fun t3 =>
 A0 PR (binOp .and 3 t3 (.int .i64 16383)) fun t4 =>
 A0 PR (binOp .neq 3 t4 (.int .i64 0)) fun t5 =>
 R t5
theorem A76 : A9 PR 194 := A7 Tryz.func194 (by kernel_rfl) rfl
theorem A9L {X : Nat → Prop} {t0 : Value} {R : Value → WP} {w : World} (h : A25 X t0 R w) : Fn PR X 194 #[t0] w R := D5 (args := [t0]) mixed Tryz.func194 (by kernel_rfl) h
end Go.Proofs.YtpbmephflllolaaGreat
namespace Go.Proofs.YtpbmephflllolaaGreat
open Go
def A9K (X : Nat → Prop) (t0 : Value) (R : Value → WP) : WP :=
 B2 PR X 140 [t0] fun t4 =>
 A0 PR (binOp .sub 3 (.int .i64 65535) t4) fun t5 =>
 R t5
theorem B3C : A9 PR 98 := A7 Tryz.func98 (by kernel_rfl) rfl
theorem B49 {X : Nat → Prop} {t0 : Value} {R : Value → WP} {w : World} (h : A9K X t0 R w) : Fn PR X 98 #[t0] w R := D5 (args := [t0]) mixed Tryz.func98 (by kernel_rfl) h
def A7S (X : Nat → Prop) (t0 : Value) (R : Value → WP) : WP :=
 B1 PR X (Instr.alloc 129 true (.tuple #[])) fun t3 =>
 jn (n := 0) (
 jn (n := 0) (
 A6 PR (Instr.loadAt 129 t3) fun t18 =>
 A0 PR (convert 129 3 t18) fun t19 =>
 V5 (R t19)) fun J1 =>
 lp (n := 0) (fun L2 =>
 jn (n := 0) (
 A6 PR (Instr.loadAt 129 t3) fun t13 =>
 A0 PR (binOp .shr 129 t13 (.int .u64 16)) fun t14 =>
 A6 PR (Instr.loadAt 129 t3) fun t15 =>
 A0 PR (binOp .and 129 t15 (.int .u64 65535)) fun t16 =>
 A0 PR (binOp .add 129 t14 t16) fun t17 =>
 C3 PR X (Instr.storeAt 129 t3 t17) <|
 L2) fun J3 =>
 A6 PR (Instr.loadAt 129 t3) fun t11 =>
 A0 PR (binOp .leq 129 t11 (.int .u64 65535)) fun t12 =>
 C5 t12 (
 J1) (
 J3)) ) fun J4 =>
 B2 PR X 186 [t0] fun t6 =>
 rng (N := 1) PR X (fun t7 K5 =>
 bgn <|
 A6 PR (Instr.loadAt 129 t3) fun t8 =>
 A0 PR (binOp .add 129 t8 t7) fun t10 =>
 C3 PR (fun _ => False) (Instr.storeAt 129 t3 t10) <|
 K5 none) t6 (fun j => match j with | none => (J4) | some (.exit i) => (match Nat.beq i 0 with | true => (J4) | false => (E0)) | some .ret => (V5 (R (.int .i64 0))) | some _ => E0)
theorem A50 : A9 PR 140 := A7 Tryz.func140 (by kernel_rfl) rfl
theorem B3Z {X : Nat → Prop} {t0 : Value} {R : Value → WP} {w : World} (h : A7S X t0 R w) : Fn PR X 140 #[t0] w R := D5 (args := [t0]) mixed Tryz.func140 (by kernel_rfl) h
def A5e (X : Nat → Prop) (t0 : Value) (R : Value → WP) : WP :=
 B1 PR X (Instr.box 9 t0) fun t1 =>
 A0 PR (Instr.makeFunc (.func 218) #[] #[t1]) fun t3 =>
 R t3
theorem B1S : A9 PR 186 := A7 Tryz.func186 (by kernel_rfl) rfl
theorem B2F {X : Nat → Prop} {t0 : Value} {R : Value → WP} {w : World} (h : A5e X t0 R w) : Fn PR X 186 #[t0] w R := D5 (args := [t0]) mixed Tryz.func186 (by kernel_rfl) h
def A7Z (X : Nat → Prop) (t0 : Value) (R : Value → WP) : WP :=
 B2 PR X 140 [t0] fun t4 =>
 A0 PR (binOp .eql 3 t4 (.int .i64 65535)) fun t5 =>
 R t5
theorem B2K : A9 PR 193 := A7 Tryz.func193 (by kernel_rfl) rfl
theorem B3w {X : Nat → Prop} {t0 : Value} {R : Value → WP} {w : World} (h : A7Z X t0 R w) : Fn PR X 193 #[t0] w R := D5 (args := [t0]) mixed Tryz.func193 (by kernel_rfl) h
def A27 (X : Nat → Prop) (t0 t1 : Value) (R : Value → WP) : WP :=
 jn (n := 0) (
 lp (n := 1) (fun L1 t3 =>
 jn (n := 0) (
 jn (n := 0) (
 A0 PR (binOp .add 3 t3 (.int .i64 2)) fun t17 =>
 L1 t17) fun J2 =>
 A6 PR (Instr.loadAt 9 t1) fun t19 =>
 B2 PR X 148 [t19, t3, (.int .i64 2)] fun t21 =>
 A0 PR (Instr.extract t21 0) fun t22 =>
 A0 PR (Instr.extract t21 1) fun t23 =>
 H3 PR X t0 [t22] fun t26 =>
 A0 PR (Op.unary .not t26) fun t27 =>
 C5 t27 (
 R (.tuple #[])) (
 J2)) fun J3 =>
 A6 PR (Instr.loadAt 9 t1) fun t13 =>
 A0 PR (A8 .len #[9] 0 [t13]) fun t14 =>
 A0 PR (binOp .lss 3 t3 t14) fun t15 =>
 C5 t15 (
 J3) (
 R (.tuple #[]))) (.int .i64 0)) fun J4 =>
 A6 PR (Instr.loadAt 9 t1) fun t6 =>
 A0 PR (A8 .len #[9] 0 [t6]) fun t7 =>
 A0 PR (binOp .rem 3 t7 (.int .i64 2)) fun t8 =>
 A0 PR (binOp .eql 3 t8 (.int .i64 1)) fun t9 =>
 C5 t9 (
 A6 PR (Instr.loadAt 9 t1) fun t10 =>
 A0 PR (binOp .add 9 t10 (.string (ByteArray.mk #[0]))) fun t11 =>
 C3 PR X (Instr.storeAt 9 t1 t11) <|
 J4) (
 J4)
theorem A73 : A9 PR 218 := A7 Tryz.func218 (by kernel_rfl) rfl
theorem A8v {X : Nat → Prop} {t0 t1 : Value} {R : Value → WP} {w : World} (h : A27 X t0 t1 R w) : Fn PR X 218 #[t0, t1] w R := D5 (args := [t0, t1]) mixed Tryz.func218 (by kernel_rfl) h
theorem A8W {X : Nat → Prop} {t0 t1 : Value} {K : Value → WP} {w : World} (h : Fn PR X 218 #[t0, t1] w K) : s7 PR X 218 [t0, t1] K w := ⟨A73, h⟩
end Go.Proofs.YtpbmephflllolaaGreat
namespace Go.Proofs.YtpbmephflllolaaGreat
open Go
abbrev B6v (b : Nat) : Value := .func (.func 218) #[] #[.pointer (some ⟨b, 0, none⟩)]
theorem B8v (w : World) (s : ByteArray) : Fn PR B5 186 #[.string s] w (Rn [] w (fun b v => v = B6v b) fun b => [.pt b (.cells #[.string s] 9)]) := by
 refine B2F (TW.go (κ := false) (S := []) ?_)
 unfold A5e
 (have zz:=trivial;repeat((first|clear zz|with_reducible first|refine A3 ?_|refine A5 fun _=>?_|refine A4 fun _=>?_);try simp(disch:=first|omega|assumption|((repeat(first|exact A1|exact uH|apply A2|apply uT));first|done|fail)|(simp;first|done|omega|fail))[]))
 rename_i b
 exact W9 b rfl (by simp)
def B1V (s : ByteArray) (i : Nat) : List Value := [.int .u64 (Q8 s (2 * i) 2 : Nat)]
def Q5 (s : ByteArray) : Nat := (s.size + 1) / 2
def pad (s : ByteArray) : ByteArray := if s.size % 2 = 1 then s ++ ByteArray.mk #[0] else s
theorem B8N (s : ByteArray) : (pad s).size = 2 * Q5 s := by
 unfold pad Q5; split
 ·rw [ByteArray.size_append, show (ByteArray.mk #[0]).size = 1 from rfl]; omega
 ·omega
theorem B0v (s t : ByteArray) (i : Nat) : B6 (s ++ t) i = if i < s.size then B6 s i else B6 t (i - s.size) := by
 unfold B6
 rw [ByteArray.data_append, Array.getD_eq_getD_getElem?, Array.getElem?_append, Array.getD_eq_getD_getElem?, Array.getD_eq_getD_getElem?]
 simp only [ByteArray.size]
 split <;> rfl
theorem B58 (s : ByteArray) (i : Nat) : B6 (pad s) i = B6 s i := by
 unfold pad; split
 ·rw [B0v]; split
  ·rfl
  ·rename_i h
   have h1 : B6 s i = 0 := by unfold B6; rw [Array.getD_eq_getD_getElem?, Array.getElem?_eq_none (by simp only [ByteArray.size] at h; omega)]; rfl
   rw [h1]; unfold B6
   by_cases h2 : i - s.size = 0
   ·rw [h2]; rfl
   ·rw [Array.getD_eq_getD_getElem?, Array.getElem?_eq_none (by simp; omega)]; rfl
 ·rfl
theorem C0c (s : ByteArray) (a n : Nat) : Q8 (pad s) a n = Q8 s a n := by
 induction n with
 | zero => rfl
 | succ n ih => simp only [Q8, ih, B58]
theorem B8K (b : Nat) (s : ByteArray) (hs : s.size < 2 ^ 60) : A1u (B6v b) [.pt b (.cells #[.string s] 9)] (fun _ _ => True) ((List.range (Q5 s)).map (B1V s)) := by
 refine ⟨_, _, _, rfl, fun l J E hJ hE stJ stE hy w0 h0 => ?_⟩
 refine A8W (A8v (TW.at (κ := true) ?_ (hJ _ _ _ h0).1))
 unfold A27
 have hp := B8N s
 have hnw : Q5 s ≤ s.size := by unfold Q5; omega
 have key : ∀ Lp : WP, TW true (B3 [Res.pt b (.cells #[.string s] 9)]) w0 [.pt b (.cells #[.string (pad s)] 9)] Lp → (if s.size % 2 = 1 then TW true (B3 [Res.pt b (.cells #[.string s] 9)]) w0 [.pt b (.cells #[.string (s ++ ByteArray.mk #[0])] 9)] Lp else TW true (B3 [Res.pt b (.cells #[.string s] 9)]) w0 [.pt b (.cells #[.string s] 9)] Lp) := by
  intro Lp h; unfold pad at h; split <;> simp_all
 have hrem : ((s.size : Int).tmod 2 = 1) = (s.size % 2 = 1) := by
  rw [Int.tmod_eq_emod_of_nonneg (by omega)]; exact propext (by omega)
 have hadd : s.size + (ByteArray.mk #[0]).size ≤ 9223372036854775807 := by rw [show (ByteArray.mk #[0]).size = 1 from rfl]; omega
 (have zz:=trivial;repeat((first|clear zz|with_reducible first|refine A3 ?_|refine A5 fun _=>?_|refine A4 fun _=>?_);try simp(disch:=first|omega|assumption|((repeat(first|exact A1|exact uH|apply A2|apply uT));first|done|fail)|(simp;first|done|omega|fail))[A1z, T7, hrem]))
 refine key _ ?_
 clear key
 refine B54 (fun i => i) (fun _ => [.pt b (.cells #[.string (pad s)] 9)]) (fun i => i ≤ Q5 s) (fun i => Q5 s - i) (fun i : Nat => .int .i64 (2 * (i : Int))) 0 hJ stJ h0 (Nat.zero_le _) fun i a hi hJi _ L hL => ?_
 by_cases hlt : i < Q5 s
 ·have h2 : 2 * (i : Int) < (pad s).size := by omega
  (have zz:=trivial;repeat((first|clear zz|with_reducible first|refine A3 ?_|refine A5 fun _=>?_|refine A4 fun _=>?_);try simp(disch:=first|omega|assumption|((repeat(first|exact A1|exact uH|apply A2|apply uT));first|done|fail)|(simp;first|done|omega|fail))[h2]))
  refine D2 Q0 (fun w' _ => A05 w' (pad s) (by omega) _ _) ?_
  have hg : A0s (pad s) (2 * (i : Int)) 2 = true := by simp only [A0s, decide_eq_true_eq]; omega
  have hv : A3Y (pad s) (2 * (i : Int)) 2 = (Q8 s (2 * i) 2 : Nat) := by
   unfold A3Y; rw [if_pos hg, C0c]; congr 2
  rw [hv, hg]
  (have zz:=trivial;repeat((first|clear zz|with_reducible first|refine A3 ?_|refine A5 fun _=>?_|refine A4 fun _=>?_);try simp(disch:=first|omega|assumption|((repeat(first|exact A1|exact uH|apply A2|apply uT));first|done|fail)|(simp;first|done|omega|fail))[]))
  refine A3H hJ hE stJ hy hJi (by simpa using hlt) (by simp [B1V]) (fun w3 h => ?_) (fun w3 h => ?_)
  ·(have zz:=trivial;repeat((first|clear zz|with_reducible first|refine A3 ?_|refine A5 fun _=>?_|refine A4 fun _=>?_);try simp(disch:=first|omega|assumption|((repeat(first|exact A1|exact uH|apply A2|apply uT));first|done|fail)|(simp;first|done|omega|fail))[]))
   intro w' hw'
   have := hL (i + 1) w' hlt (by omega) (stJ _ _ _ _ _ h hw')
   simpa [Int.mul_add] using this
  ·(have zz:=trivial;repeat((first|clear zz|with_reducible first|refine A3 ?_|refine A5 fun _=>?_|refine A4 fun _=>?_);try simp(disch:=first|omega|assumption|((repeat(first|exact A1|exact uH|apply A2|apply uT));first|done|fail)|(simp;first|done|omega|fail))[]))
   exact A1B stE h
 ·have h2 : ¬ 2 * (i : Int) < (pad s).size := by omega
  obtain rfl : i = Q5 s := by omega
  (have zz:=trivial;repeat((first|clear zz|with_reducible first|refine A3 ?_|refine A5 fun _=>?_|refine A4 fun _=>?_);try simp(disch:=first|omega|assumption|((repeat(first|exact A1|exact uH|apply A2|apply uT));first|done|fail)|(simp;first|done|omega|fail))[h2]))
  exact A1N stJ (by simpa using hJi)
def q6 (s : ByteArray) : Nat → Nat
 | 0 => 0
 | i + 1 => q6 s i + Q8 s (2 * i) 2
def fld (n : Nat) : Nat := if n = 0 then 0 else (n - 1) % 65535 + 1
def f9 (s : ByteArray) : Nat := fld (q6 s (Q5 s))
theorem B9Q (n : Nat) : fld (n / 65536 + n % 65536) = fld n := by
 unfold fld
 have h := Nat.div_add_mod n 65536
 by_cases h0 : n = 0
 ·subst h0; rfl
 ·rw [if_neg (by omega), if_neg h0]; omega
theorem B67 {n : Nat} (h : n ≤ 65535) : fld n = n := by unfold fld; split <;> omega
theorem B6k (n : Nat) : fld n ≤ 65535 := by unfold fld; split <;> omega
theorem B4L (s : ByteArray) (i : Nat) : q6 s i ≤ i * 65535 := by
 induction i with
 | zero => simp [q6]
 | succ i ih => have := A5y s (2 * i) 2; simp only [q6]; omega
theorem B8S (n : Nat) (h : n < 2 ^ 64) : IntKind.u64.wrap ((n % 2 ^ IntKind.u64.bits &&& 65535 % 2 ^ IntKind.u64.bits : Nat) : Int) = ((n % 65536 : Nat) : Int) := by
 rw [show (2 : Nat) ^ IntKind.u64.bits = 2 ^ 64 from rfl, Nat.mod_eq_of_lt h, show 65535 % 2 ^ 64 = 2 ^ 16 - 1 from rfl, Nat.and_two_pow_sub_one_eq_mod]
 exact A0a (by omega) (by omega)
theorem B32 (w : World) (s : ByteArray) (hs : s.size < 2 ^ 40) : Fn PR B5 140 #[.string s] w (fun v w' => v = .int .i64 (f9 s : Nat) ∧ C4 [] w w') := by
 refine Fn.pure (B3Z (TW.go (κ := false) (S := []) ?_))
 unfold A7S
 (have zz:=trivial;repeat((first|clear zz|with_reducible first|refine A3 ?_|refine A5 fun _=>?_|refine A4 fun _=>?_);try simp(disch:=first|omega|assumption|((repeat(first|exact A1|exact uH|apply A2|apply uT));first|done|fail)|(simp;first|done|omega|fail))[]))
 rename_i bn
 refine N7 B1S (fun w' _ => B8v w' s) ?_
 rintro b v rfl
 have hnw : Q5 s ≤ 2 ^ 39 := by unfold Q5; omega
 refine y4 (B8K b s (by omega)) (by simp [B1V]) (fun _ (_ : Unit) => True) (fun i _ => [.pt bn (.cells #[.int .u64 ((q6 s i : Nat) : Int)] 129)]) (fun _ (_ : Unit) => False) (fun _ => []) () trivial ?_ ?_ ?_ ?_
 ·intros; trivial
 ·rintro i hi _ F _ K' hK _
  have hi' : i < Q5 s := by simpa using hi
  have h1 := B4L s i
  have h2 := A5y s (2 * i) 2
  simp only [List.getElem_map, List.getElem_range, B1V, VF.app]
  (have zz:=trivial;repeat((first|clear zz|with_reducible first|refine A3 ?_|refine A5 fun _=>?_|refine A4 fun _=>?_);try simp(disch:=first|omega|assumption|((repeat(first|exact A1|exact uH|apply A2|apply uT));first|done|fail)|(simp;first|done|omega|fail))[]))
  refine TW.eqH ?_ (hK () trivial)
  simp [q6]
 ·rintro _ _
  (have zz:=trivial;repeat((first|clear zz|with_reducible first|refine A3 ?_|refine A5 fun _=>?_|refine A4 fun _=>?_);try simp(disch:=first|omega|assumption|((repeat(first|exact A1|exact uH|apply A2|apply uT));first|done|fail)|(simp;first|done|omega|fail))[]))
  refine C3p (fun n : Nat => [.pt bn (.cells #[.int .u64 (n : Int)] 129)]) (fun n => fld n = f9 s ∧ n < 2 ^ 63) (fun n => n) _ ⟨by simp [f9], by have := B4L s (Q5 s); simp; omega⟩ ?_
  rintro n ⟨h1, h2⟩ L hL
  by_cases h3 : n ≤ 65535
  ·have h4 : (n : Int) ≤ 65535 := by omega
   (have zz:=trivial;repeat((first|clear zz|with_reducible first|refine A3 ?_|refine A5 fun _=>?_|refine A4 fun _=>?_);try simp(disch:=first|omega|assumption|((repeat(first|exact A1|exact uH|apply A2|apply uT));first|done|fail)|(simp;first|done|omega|fail))[h4]))
   rw [B67 h3] at h1
   exact B0 (by rw [h1])
  ·have h4 : ¬ (n : Int) ≤ 65535 := by omega
   have e1 : (n : Int).fdiv (2 ^ min 16 IntKind.u64.bits) = (n / 65536 : Nat) := by rw [show (2 : Int) ^ min 16 IntKind.u64.bits = 65536 from rfl, Int.fdiv_eq_ediv_of_nonneg _ (by omega)]; omega
   (have zz:=trivial;repeat((first|clear zz|with_reducible first|refine A3 ?_|refine A5 fun _=>?_|refine A4 fun _=>?_);try simp(disch:=first|omega|assumption|((repeat(first|exact A1|exact uH|apply A2|apply uT));first|done|fail)|(simp;first|done|omega|fail))[h4]))
   refine TW.eqH ?_ (hL (n / 65536 + n % 65536) ⟨by rw [B9Q]; exact h1, by omega⟩ (by omega))
   rw [e1, B8S n (by omega), A0a (by omega) (by omega)]; simp
 ·rintro _ _ h; exact h.elim
def A3Q (s : ByteArray) : Int := 65535 - f9 s
theorem C1Y (w : World) (s : ByteArray) (hs : s.size < 2 ^ 40) : Fn PR B5 98 #[.string s] w (fun v w' => v = .int .i64 (A3Q s) ∧ C4 [] w w') := by
 refine Fn.pure (B49 (TW.go (κ := false) (S := []) ?_))
 unfold A9K
 refine D2 A50 (fun w' _ => B32 w' s hs) ?_
 have := B6k (q6 s (Q5 s))
 have h2 : ((f9 s : Nat) : Int) ≤ 65535 := by unfold f9; omega
 (have zz:=trivial;repeat((first|clear zz|with_reducible first|refine A3 ?_|refine A5 fun _=>?_|refine A4 fun _=>?_);try simp(disch:=first|omega|assumption|((repeat(first|exact A1|exact uH|apply A2|apply uT));first|done|fail)|(simp;first|done|omega|fail))[]))
 exact B0 rfl
theorem C0H (w : World) (s : ByteArray) (hs : s.size < 2 ^ 40) : Fn PR B5 193 #[.string s] w (fun v w' => v = .bool (decide (f9 s = 65535)) ∧ C4 [] w w') := by
 refine Fn.pure (B3w (TW.go (κ := false) (S := []) ?_))
 unfold A7Z
 refine D2 A50 (fun w' _ => B32 w' s hs) ?_
 (have zz:=trivial;repeat((first|clear zz|with_reducible first|refine A3 ?_|refine A5 fun _=>?_|refine A4 fun _=>?_);try simp(disch:=first|omega|assumption|((repeat(first|exact A1|exact uH|apply A2|apply uT));first|done|fail)|(simp;first|done|omega|fail))[]))
 exact B0 (by simp; omega)
end Go.Proofs.YtpbmephflllolaaGreat
namespace Go.Proofs.YtpbmephflllolaaGreat
open Go
def gv (s : ByteArray) (a n : Nat) : Nat := if a + n ≤ s.size then Q8 s a n else 0
theorem A3u (s : ByteArray) (a n : Nat) (h1 : 1 ≤ n) (h8 : n ≤ 8) : A3Y s a n = gv s a n := by
 unfold A3Y gv
 by_cases h : a + n ≤ s.size
 ·rw [if_pos (by simp only [A0s, decide_eq_true_eq]; omega), if_pos h]; simp
 ·rw [if_neg (by simp only [A0s, decide_eq_true_eq]; omega), if_neg h]; rfl
theorem A9E (s : ByteArray) (a : Nat) : gv s a 1 < 256 := by
 unfold gv; split
 ·exact A5y s a 1
 ·omega
theorem A01 (s : ByteArray) (a : Nat) : gv s a 2 < 65536 := by
 unfold gv; split
 ·exact A5y s a 2
 ·omega
theorem A2N (w : World) (s : ByteArray) (hs : s.size < 2 ^ 63) (b a n : Nat) (h1 : 1 ≤ n) (h2 : n ≤ 2) (hc : w.cell? ⟨b, 0, none⟩ = some (.string s)) :
  Fn PR B5 187 #[.int .i64 (a : Int), .int .i64 (n : Int), .pointer (some ⟨b, 0, none⟩)] w (fun v w' => v = .int .i64 (gv s a n : Nat) ∧ C4 [] w w') := by
 refine Fn.pure (A83 (TW.go (κ := false) (S := []) ?_))
 unfold A3L
 (have zz:=trivial;repeat((first|clear zz|with_reducible first|refine A3 ?_|refine A5 fun _=>?_|refine A4 fun _=>?_|refine D0 fun _=>?_|refine C7 (hK:=fun _=>?_)|refine C9 (hK:=fun _=>?_)|refine D1 (hK:=fun _=>?_)|refine C8 (hK:=fun _=>?_)|refine C6 (hK:=fun _=>?_));try simp(disch:=first|omega|assumption|((repeat(first|exact A1|exact uH|apply A2|apply uT));first|done|fail)|(simp;first|done|omega|fail))[hc]))
 refine D2 Q0 (fun w' _ => A05 w' s (by omega) _ _) ?_
 rw [A3u s a n h1 (by omega)]
 have hlt : gv s a n < 65536 := by
  obtain rfl | rfl : n = 1 ∨ n = 2 := by omega
  ·have := A9E s a; omega
  ·exact A01 s a
 (have zz:=trivial;repeat((first|clear zz|with_reducible first|refine A3 ?_|refine A5 fun _=>?_|refine A4 fun _=>?_|refine D0 fun _=>?_|refine C7 (hK:=fun _=>?_)|refine C9 (hK:=fun _=>?_)|refine D1 (hK:=fun _=>?_)|refine C8 (hK:=fun _=>?_)|refine C6 (hK:=fun _=>?_));try simp(disch:=first|omega|assumption|((repeat(first|exact A1|exact uH|apply A2|apply uT));first|done|fail)|(simp;first|done|omega|fail))[]))
 exact B0 rfl
theorem C0n (w : World) (s : ByteArray) (hs : s.size < 2 ^ 63) (b : Nat) (hc : w.cell? ⟨b, 0, none⟩ = some (.string s)) :
  Fn PR B5 187 #[.int .i64 0, .int .i64 1, .pointer (some ⟨b, 0, none⟩)] w (fun v w' => v = .int .i64 (gv s 0 1 : Nat) ∧ C4 [] w w') := A2N w s hs b 0 1 (by omega) (by omega) hc
theorem B95 (w : World) (s : ByteArray) (hs : s.size < 2 ^ 63) (b : Nat) (hc : w.cell? ⟨b, 0, none⟩ = some (.string s)) :
  Fn PR B5 187 #[.int .i64 2, .int .i64 2, .pointer (some ⟨b, 0, none⟩)] w (fun v w' => v = .int .i64 (gv s 2 2 : Nat) ∧ C4 [] w w') := A2N w s hs b 2 2 (by omega) (by omega) hc
theorem C0r (w : World) (s : ByteArray) (hs : s.size < 2 ^ 63) (b : Nat) (hc : w.cell? ⟨b, 0, none⟩ = some (.string s)) :
  Fn PR B5 187 #[.int .i64 9, .int .i64 1, .pointer (some ⟨b, 0, none⟩)] w (fun v w' => v = .int .i64 (gv s 9 1 : Nat) ∧ C4 [] w w') := A2N w s hs b 9 1 (by omega) (by omega) hc
def B1Z (x : Value × Int × Bool) : List Value := [x.1, .int .i64 x.2.1]
def A2J (l : List (Value × Int × Bool)) : Int := match l.find? (·.2.2) with | some x => x.2.1 | none => 0
theorem B3u {l : List (Value × Int × Bool)} (h : ∀ i (hi : i < l.length), l[i].2.2 = false) : A2J l = 0 := by
 have : l.find? (·.2.2) = none := by
  rw [List.find?_eq_none]; intro x hx; obtain ⟨i, hi, rfl⟩ := List.getElem_of_mem hx; simp [h i hi]
 simp [A2J, this]
theorem B3G {l : List (Value × Int × Bool)} {i : Nat} (hi : i < l.length) (hp : l[i].2.2 = true) (h : ∀ j (hj : j < i), (l[j]'(by omega)).2.2 = false) : A2J l = l[i].2.1 := by
 have : l.find? (·.2.2) = some l[i] := by
  rw [List.find?_eq_some_iff_getElem]
  exact ⟨hp, i, hi, rfl, fun j hj => by simp [h j hj]⟩
 simp [A2J, this]
theorem B8L (w : World) (v : Value) (l : List (Value × Int × Bool)) (hl : l.length < 1000) (hv : G1 w v l.length (l.flatMap B1Z))
  (hg : ∀ i (hi : i < l.length), (∀ j (hj : j < i), (l[j]'(by omega)).2.2 = false) → ∃ f cap, l[i].1 = .func (.func f) #[] cap ∧ A9 PR f ∧ ∀ w', KS false [] w w' → Fn PR B5 f cap w' (fun v w'' => v = .bool l[i].2.2 ∧ C4 [] w' w'')) :
  Fn PR B5 188 #[v] w (fun u w' => u = .int .i64 (A2J l) ∧ C4 [] w w') := by
 refine Fn.pure (B1g (TW.go (κ := false) (S := []) ?_))
 unfold A6M
 obtain ⟨a, c, rfl, hrow⟩ := hv.form
 (have zz:=trivial;repeat((first|clear zz|with_reducible first|refine A3 ?_|refine A5 fun _=>?_|refine A4 fun _=>?_|refine D0 fun _=>?_|refine C7 (hK:=fun _=>?_)|refine C9 (hK:=fun _=>?_)|refine D1 (hK:=fun _=>?_)|refine C8 (hK:=fun _=>?_)|refine C6 (hK:=fun _=>?_));try simp(disch:=first|omega|assumption|((repeat(first|exact A1|exact uH|apply A2|apply uT));first|done|fail)|(simp;first|done|omega|fail))[]))
 refine r8 (α := Unit) l.length (fun _ _ => .int .i64 0) (fun _ _ => []) (fun i _ => ∀ j (hj : j < i), ∀ (h : j < l.length), l[j].2.2 = false) () (by intro j hj; omega) ?_
 rintro i _ hi hpre L hL
 by_cases hlt : i < l.length
 ·obtain ⟨b, o, rfl, hr⟩ := hrow (by omega)
  have hx : l[i]? = some l[i] := List.getElem?_eq_getElem hlt
  have hrn := hr.at (f := B1Z) (k := 2) (fun _ => rfl) hx
  have hpre' : ∀ j (hj : j < i), (l[j]'(by omega)).2.2 = false := fun j hj => hpre j hj (by omega)
  obtain ⟨f, cap, he, hent, hcall⟩ := hg i hlt hpre'
  rw [B1Z, he] at hrn
  (have zz:=trivial;repeat((first|clear zz|with_reducible first|refine A3 ?_|refine A5 fun _=>?_|refine A4 fun _=>?_|refine D0 fun _=>?_|refine C7 (hK:=fun _=>?_)|refine C9 (hK:=fun _=>?_)|refine D1 (hK:=fun _=>?_)|refine C8 (hK:=fun _=>?_)|refine C6 (hK:=fun _=>?_));try simp(disch:=first|omega|assumption|((repeat(first|exact A1|exact uH|apply A2|apply uT));first|done|fail)|(simp;first|done|omega|fail))[hlt, hrn]))
  refine A9x hent (φ := fun v => v = .bool l[i].2.2) (fun w' hw' => by simpa using hcall w' hw'.ks) ?_
  rintro _ rfl
  cases hb : l[i].2.2 with
  | true =>
   (have zz:=trivial;repeat((first|clear zz|with_reducible first|refine A3 ?_|refine A5 fun _=>?_|refine A4 fun _=>?_|refine D0 fun _=>?_|refine C7 (hK:=fun _=>?_)|refine C9 (hK:=fun _=>?_)|refine D1 (hK:=fun _=>?_)|refine C8 (hK:=fun _=>?_)|refine C6 (hK:=fun _=>?_));try simp(disch:=first|omega|assumption|((repeat(first|exact A1|exact uH|apply A2|apply uT));first|done|fail)|(simp;first|done|omega|fail))[]))
   exact B0 (by rw [B3G hlt hb hpre'])
  | false =>
   (have zz:=trivial;repeat((first|clear zz|with_reducible first|refine A3 ?_|refine A5 fun _=>?_|refine A4 fun _=>?_|refine D0 fun _=>?_|refine C7 (hK:=fun _=>?_)|refine C9 (hK:=fun _=>?_)|refine D1 (hK:=fun _=>?_)|refine C8 (hK:=fun _=>?_)|refine C6 (hK:=fun _=>?_));try simp(disch:=first|omega|assumption|((repeat(first|exact A1|exact uH|apply A2|apply uT));first|done|fail)|(simp;first|done|omega|fail))[]))
   refine Sels.tw .nil (hL hlt () ?_)
   intro j hj h
   by_cases hji : j = i
   ·subst hji; exact hb
   ·exact hpre j (by omega) h
 ·obtain rfl : i = l.length := by omega
  (have zz:=trivial;repeat((first|clear zz|with_reducible first|refine A3 ?_|refine A5 fun _=>?_|refine A4 fun _=>?_|refine D0 fun _=>?_|refine C7 (hK:=fun _=>?_)|refine C9 (hK:=fun _=>?_)|refine D1 (hK:=fun _=>?_)|refine C8 (hK:=fun _=>?_)|refine C6 (hK:=fun _=>?_));try simp(disch:=first|omega|assumption|((repeat(first|exact A1|exact uH|apply A2|apply uT));first|done|fail)|(simp;first|done|omega|fail))[]))
  exact B0 (by rw [B3u fun j hj => hpre j hj hj])
structure HeadV where
 src : ByteArray
 dst : ByteArray
 proto : Nat
 rest : ByteArray
 e : Nat
abbrev P4 : ByteArray := ByteArray.mk #[]
def HeadV.err (e : Nat) : HeadV := ⟨P4, P4, 0, P4, e⟩
def HeadV.val (h : HeadV) : Value := .tuple #[.agg #[.string h.src, .string h.dst, .int .i64 h.proto], .string h.rest, .int .i64 h.e]
def H8 (s : ByteArray) : Nat := gv s 0 1 % 16 * 4
def A4s (s : ByteArray) : Nat := if s.size < 20 then 2 else if gv s 0 1 / 16 ≠ 4 then 3 else if H8 s < 20 ∨ s.size < H8 s ∨ gv s 2 2 < H8 s ∨ s.size < gv s 2 2 then 4
 else if f9 (s.extract 0 (H8 s)) ≠ 65535 then 5 else if gv s 6 2 % 16384 ≠ 0 then 6 else 0
def l4 (s : ByteArray) : HeadV := if A4s s = 0 then ⟨s.extract 12 16, s.extract 16 20, gv s 9 1, s.extract (H8 s) (gv s 2 2), 0⟩ else .err (A4s s)
theorem C3l (n : Nat) (h : n < 256) : IntKind.i64.wrap ((n % 2 ^ IntKind.i64.bits &&& 15 % 2 ^ IntKind.i64.bits : Nat) : Int) = ((n % 16 : Nat) : Int) := by
 rw [show (2 : Nat) ^ IntKind.i64.bits = 2 ^ 64 from rfl, Nat.mod_eq_of_lt (by omega), show 15 % 2 ^ 64 = 2 ^ 4 - 1 from rfl, Nat.and_two_pow_sub_one_eq_mod]
 exact y8 (by omega) (by omega)
theorem C3D (n : Nat) (h : n < 65536) : IntKind.i64.wrap ((n % 2 ^ IntKind.i64.bits &&& 16383 % 2 ^ IntKind.i64.bits : Nat) : Int) = ((n % 16384 : Nat) : Int) := by
 rw [show (2 : Nat) ^ IntKind.i64.bits = 2 ^ 64 from rfl, Nat.mod_eq_of_lt (by omega), show 16383 % 2 ^ 64 = 2 ^ 14 - 1 from rfl, Nat.and_two_pow_sub_one_eq_mod]
 exact y8 (by omega) (by omega)
section
variable (w : World) (s : ByteArray) (hs : s.size < 2 ^ 63) (b1 b5 b6 b7 : Nat) (h1 : w.cell? ⟨b1, 0, none⟩ = some (.string s)) (h5 : w.cell? ⟨b5, 0, none⟩ = some (.func (.func 187) #[] #[.pointer (some ⟨b1, 0, none⟩)]))
 (h6 : w.cell? ⟨b6, 0, none⟩ = some (.int .i64 (H8 s : Nat))) (h7 : w.cell? ⟨b7, 0, none⟩ = some (.int .i64 (gv s 2 2 : Nat)))
include h1
theorem C30 : Fn PR B5 189 #[.pointer (some ⟨b1, 0, none⟩)] w (fun v w' => v = .bool (decide (s.size < 20)) ∧ C4 [] w w') := by
 refine Fn.pure (A8b (TW.go (κ := false) (S := []) ?_))
 unfold A3K
 (have zz:=trivial;repeat((first|clear zz|with_reducible first|refine A3 ?_|refine A5 fun _=>?_|refine A4 fun _=>?_|refine D0 fun _=>?_|refine C7 (hK:=fun _=>?_)|refine C9 (hK:=fun _=>?_)|refine D1 (hK:=fun _=>?_)|refine C8 (hK:=fun _=>?_)|refine C6 (hK:=fun _=>?_));try simp(disch:=first|omega|assumption|((repeat(first|exact A1|exact uH|apply A2|apply uT));first|done|fail)|(simp;first|done|omega|fail))[h1]))
 exact B0 (by simp; omega)
include hs h5
theorem C2p : Fn PR B5 190 #[.pointer (some ⟨b5, 0, none⟩)] w (fun v w' => v = .bool (decide (gv s 0 1 / 16 ≠ 4)) ∧ C4 [] w w') := by
 refine Fn.pure (A8x (TW.go (κ := false) (S := []) ?_))
 unfold A28
 (have zz:=trivial;repeat((first|clear zz|with_reducible first|refine A3 ?_|refine A5 fun _=>?_|refine A4 fun _=>?_|refine D0 fun _=>?_|refine C7 (hK:=fun _=>?_)|refine C9 (hK:=fun _=>?_)|refine D1 (hK:=fun _=>?_)|refine C8 (hK:=fun _=>?_)|refine C6 (hK:=fun _=>?_));try simp(disch:=first|omega|assumption|((repeat(first|exact A1|exact uH|apply A2|apply uT));first|done|fail)|(simp;first|done|omega|fail))[h1, h5]))
 refine D2 g5 (fun w' hw' => A2N w' s hs b1 0 1 (by omega) (by omega) (hw'.ks.cell (by simp) h1)) ?_
 have e1 : ((gv s 0 1 : Nat) : Int).fdiv (2 ^ min 4 IntKind.i64.bits) = (gv s 0 1 / 16 : Nat) := by rw [show (2 : Int) ^ min 4 IntKind.i64.bits = 16 from rfl, Int.fdiv_eq_ediv_of_nonneg _ (by omega)]; omega
 (have zz:=trivial;repeat((first|clear zz|with_reducible first|refine A3 ?_|refine A5 fun _=>?_|refine A4 fun _=>?_|refine D0 fun _=>?_|refine C7 (hK:=fun _=>?_)|refine C9 (hK:=fun _=>?_)|refine D1 (hK:=fun _=>?_)|refine C8 (hK:=fun _=>?_)|refine C6 (hK:=fun _=>?_));try simp(disch:=first|omega|assumption|((repeat(first|exact A1|exact uH|apply A2|apply uT));first|done|fail)|(simp;first|done|omega|fail))[]))
 rw [e1]
 exact B0 (by simp; omega)
theorem C2d : Fn PR B5 194 #[.pointer (some ⟨b5, 0, none⟩)] w (fun v w' => v = .bool (decide (gv s 6 2 % 16384 ≠ 0)) ∧ C4 [] w w') := by
 refine Fn.pure (A9L (TW.go (κ := false) (S := []) ?_))
 unfold A25
 (have zz:=trivial;repeat((first|clear zz|with_reducible first|refine A3 ?_|refine A5 fun _=>?_|refine A4 fun _=>?_|refine D0 fun _=>?_|refine C7 (hK:=fun _=>?_)|refine C9 (hK:=fun _=>?_)|refine D1 (hK:=fun _=>?_)|refine C8 (hK:=fun _=>?_)|refine C6 (hK:=fun _=>?_));try simp(disch:=first|omega|assumption|((repeat(first|exact A1|exact uH|apply A2|apply uT));first|done|fail)|(simp;first|done|omega|fail))[h1, h5]))
 refine D2 g5 (fun w' hw' => A2N w' s hs b1 6 2 (by omega) (by omega) (hw'.ks.cell (by simp) h1)) ?_
 have := A01 s 6
 (have zz:=trivial;repeat((first|clear zz|with_reducible first|refine A3 ?_|refine A5 fun _=>?_|refine A4 fun _=>?_|refine D0 fun _=>?_|refine C7 (hK:=fun _=>?_)|refine C9 (hK:=fun _=>?_)|refine D1 (hK:=fun _=>?_)|refine C8 (hK:=fun _=>?_)|refine C6 (hK:=fun _=>?_));try simp(disch:=first|omega|assumption|((repeat(first|exact A1|exact uH|apply A2|apply uT));first|done|fail)|(simp;first|done|omega|fail))[]))
 rw [C3D _ this]
 exact B0 (by simp; omega)
omit h5
include h6
omit hs in
theorem C2g (hl : H8 s ≤ s.size) : Fn PR B5 192 #[.pointer (some ⟨b1, 0, none⟩), .pointer (some ⟨b6, 0, none⟩)] w (fun v w' => v = .bool (decide (f9 (s.extract 0 (H8 s)) ≠ 65535)) ∧ C4 [] w w') := by
 refine Fn.pure (A8d (TW.go (κ := false) (S := []) ?_))
 unfold A3A
 have hl' : ((H8 s : Nat) : Int) ≤ s.size := by omega
 have hl60 : H8 s ≤ 60 := by unfold H8; omega
 (have zz:=trivial;repeat((first|clear zz|with_reducible first|refine A3 ?_|refine A5 fun _=>?_|refine A4 fun _=>?_|refine D0 fun _=>?_|refine C7 (hK:=fun _=>?_)|refine C9 (hK:=fun _=>?_)|refine D1 (hK:=fun _=>?_)|refine C8 (hK:=fun _=>?_)|refine C6 (hK:=fun _=>?_));try simp(disch:=first|omega|assumption|((repeat(first|exact A1|exact uH|apply A2|apply uT));first|done|fail)|(simp;first|done|omega|fail))[h1, h6]))
 refine D2 B2K (fun w' hw' => C0H w' _ (by simp [ByteArray.size_extract]; omega)) ?_
 (have zz:=trivial;repeat((first|clear zz|with_reducible first|refine A3 ?_|refine A5 fun _=>?_|refine A4 fun _=>?_|refine D0 fun _=>?_|refine C7 (hK:=fun _=>?_)|refine C9 (hK:=fun _=>?_)|refine D1 (hK:=fun _=>?_)|refine C8 (hK:=fun _=>?_)|refine C6 (hK:=fun _=>?_));try simp(disch:=first|omega|assumption|((repeat(first|exact A1|exact uH|apply A2|apply uT));first|done|fail)|(simp;first|done|omega|fail))[]))
 exact B0 (by simp)
include h7
theorem C2c : Fn PR B5 191 #[.pointer (some ⟨b6, 0, none⟩), .pointer (some ⟨b1, 0, none⟩), .pointer (some ⟨b7, 0, none⟩)] w
  (fun v w' => v = .bool (decide (H8 s < 20 ∨ s.size < H8 s ∨ gv s 2 2 < H8 s ∨ s.size < gv s 2 2)) ∧ C4 [] w w') := by
 have hs_ := hs
 refine Fn.pure (A8U (TW.go (κ := false) (S := []) ?_))
 unfold A3B
 by_cases g1 : H8 s < 20
 ·have g1' : ((H8 s : Nat) : Int) < 20 := by omega
  (have zz:=trivial;repeat((first|clear zz|with_reducible first|refine A3 ?_|refine A5 fun _=>?_|refine A4 fun _=>?_|refine D0 fun _=>?_|refine C7 (hK:=fun _=>?_)|refine C9 (hK:=fun _=>?_)|refine D1 (hK:=fun _=>?_)|refine C8 (hK:=fun _=>?_)|refine C6 (hK:=fun _=>?_));try simp(disch:=first|omega|assumption|((repeat(first|exact A1|exact uH|apply A2|apply uT));first|done|fail)|(simp;first|done|omega|fail))[h1, h6, h7, g1, g1']))
  exact B0 (by simp [g1])
 have g1' : ¬ ((H8 s : Nat) : Int) < 20 := by omega
 by_cases g2 : s.size < H8 s
 ·have g2' : ((s.size : Nat) : Int) < H8 s := by omega
  (have zz:=trivial;repeat((first|clear zz|with_reducible first|refine A3 ?_|refine A5 fun _=>?_|refine A4 fun _=>?_|refine D0 fun _=>?_|refine C7 (hK:=fun _=>?_)|refine C9 (hK:=fun _=>?_)|refine D1 (hK:=fun _=>?_)|refine C8 (hK:=fun _=>?_)|refine C6 (hK:=fun _=>?_));try simp(disch:=first|omega|assumption|((repeat(first|exact A1|exact uH|apply A2|apply uT));first|done|fail)|(simp;first|done|omega|fail))[h1, h6, h7, g1, g1', g2, g2']))
  exact B0 (by simp [g2])
 have g2' : ¬ ((s.size : Nat) : Int) < H8 s := by omega
 by_cases g3 : gv s 2 2 < H8 s
 ·have g3' : ((gv s 2 2 : Nat) : Int) < H8 s := by omega
  (have zz:=trivial;repeat((first|clear zz|with_reducible first|refine A3 ?_|refine A5 fun _=>?_|refine A4 fun _=>?_|refine D0 fun _=>?_|refine C7 (hK:=fun _=>?_)|refine C9 (hK:=fun _=>?_)|refine D1 (hK:=fun _=>?_)|refine C8 (hK:=fun _=>?_)|refine C6 (hK:=fun _=>?_));try simp(disch:=first|omega|assumption|((repeat(first|exact A1|exact uH|apply A2|apply uT));first|done|fail)|(simp;first|done|omega|fail))[h1, h6, h7, g1, g1', g2, g2', g3, g3']))
  exact B0 (by simp [g3])
 have g3' : ¬ ((gv s 2 2 : Nat) : Int) < H8 s := by omega
 (have zz:=trivial;repeat((first|clear zz|with_reducible first|refine A3 ?_|refine A5 fun _=>?_|refine A4 fun _=>?_|refine D0 fun _=>?_|refine C7 (hK:=fun _=>?_)|refine C9 (hK:=fun _=>?_)|refine D1 (hK:=fun _=>?_)|refine C8 (hK:=fun _=>?_)|refine C6 (hK:=fun _=>?_));try simp(disch:=first|omega|assumption|((repeat(first|exact A1|exact uH|apply A2|apply uT));first|done|fail)|(simp;first|done|omega|fail))[h1, h6, h7, g1, g1', g2, g2', g3, g3']))
 exact B0 (by simp [g1, g2, g3])
end
theorem B3W (w : World) (s : ByteArray) (hs : s.size < 2 ^ 63) : Fn PR B5 143 #[.string s] w (fun v w' => v = (l4 s).val ∧ C4 [] w w') := by
 refine Fn.pure (B2r (TW.go (κ := false) (S := []) ?_))
 unfold A58
 (have zz:=trivial;repeat((first|clear zz|with_reducible first|refine A3 ?_|refine A5 fun _=>?_|refine A4 fun _=>?_|refine D0 fun _=>?_|refine C7 (hK:=fun _=>?_)|refine C9 (hK:=fun _=>?_)|refine D1 (hK:=fun _=>?_)|refine C8 (hK:=fun _=>?_)|refine C6 (hK:=fun _=>?_));try simp(disch:=first|omega|assumption|((repeat(first|exact A1|exact uH|apply A2|apply uT));first|done|fail)|(simp;first|done|omega|fail))[]))
 rename_i b1 b2 b5
 refine C2j (α := Nat × Nat) (fun _ => True) (fun x => [.pt x.1 (.cells #[.int .i64 (H8 s : Nat)] 3), .pt x.2 (.cells #[.int .i64 (gv s 2 2 : Nat)] 3),
  .pt b5 (.cells #[.func (.func 187) #[] #[.pointer (some ⟨b1, 0, none⟩)]] 149), .pt b2 (.cells #[.string P4, .string P4, .int .i64 0] 124), .pt b1 (.cells #[.string s] 9)])
  (fun x => .pointer (some ⟨x.1, 0, none⟩)) (fun x => .pointer (some ⟨x.2, 0, none⟩)) ?_ ?_
 ·rintro ⟨b6, b7⟩ _
  simp only
  (have zz:=trivial;repeat((first|clear zz|with_reducible first|refine A3 ?_|refine A5 fun _=>?_|refine A4 fun _=>?_|refine D0 fun _=>?_|refine C7 (hK:=fun _=>?_)|refine C9 (hK:=fun _=>?_)|refine D1 (hK:=fun _=>?_)|refine C8 (hK:=fun _=>?_)|refine C6 (hK:=fun _=>?_));try simp(disch:=first|omega|assumption|((repeat(first|exact A1|exact uH|apply A2|apply uT));first|done|fail)|(simp;first|done|omega|fail))[]))
  rename_i bl
  refine D2 (u := .int .i64 (A4s s : Nat)) B04 (fun w' hw' => ?_) ?_
  ·have h1 := hw'.cell1 (b := b1) (by (repeat constructor))
   have h5 := hw'.cell1 (b := b5) (by (repeat constructor))
   have h6 := hw'.cell1 (b := b6) (by (repeat constructor))
   have h7 := hw'.cell1 (b := b7) (by (repeat constructor))
   have hk : ∀ {w2 : World} {b : Nat} {v : Value}, KS false [] w' w2 → w'.cell? ⟨b, 0, none⟩ = some v → w2.cell? ⟨b, 0, none⟩ = some v := fun h e => h.cell (by simp) e
   have hE : A2J [(.func (.func 189) #[] #[.pointer (some ⟨b1, 0, none⟩)], 2, decide (s.size < 20)), (.func (.func 190) #[] #[.pointer (some ⟨b5, 0, none⟩)], 3, decide (gv s 0 1 / 16 ≠ 4)),
    (.func (.func 191) #[] #[.pointer (some ⟨b6, 0, none⟩), .pointer (some ⟨b1, 0, none⟩), .pointer (some ⟨b7, 0, none⟩)], 4, decide (H8 s < 20 ∨ s.size < H8 s ∨ gv s 2 2 < H8 s ∨ s.size < gv s 2 2)),
    (.func (.func 192) #[] #[.pointer (some ⟨b1, 0, none⟩), .pointer (some ⟨b6, 0, none⟩)], 5, decide (f9 (s.extract 0 (H8 s)) ≠ 65535)), (.func (.func 194) #[] #[.pointer (some ⟨b5, 0, none⟩)], 6, decide (gv s 6 2 % 16384 ≠ 0))] = (A4s s : Nat) := by
    unfold A2J A4s
    by_cases c1 : s.size < 20
    ·simp [c1]
    by_cases c2 : gv s 0 1 / 16 ≠ 4
    ·simp [c1, c2]
    by_cases c3 : H8 s < 20 ∨ s.size < H8 s ∨ gv s 2 2 < H8 s ∨ s.size < gv s 2 2
    ·simp [c1, c2, c3]
    by_cases c4 : f9 (s.extract 0 (H8 s)) ≠ 65535
    ·simp [c1, c2, c3, c4]
    by_cases c5 : gv s 6 2 % 16384 ≠ 0
    ·simp [c1, c2, c3, c4, c5]
    ·simp [c1, c2, c3, c4, c5]
   rw [← hE]
   refine B8L w' _ _ (by simp) ?_ ?_
   ·have := P2.own (κ := false) (S := []) (w0 := w) (e := 296) (k := 2) (q := 5) (v := .slice (some ⟨bl, 0, none⟩) 5 5) (by (repeat constructor)) w' hw'
    simpa [B1Z] using this
   ·intro i hi hpre
    have hi' : i = 0 ∨ i = 1 ∨ i = 2 ∨ i = 3 ∨ i = 4 := by simp at hi; omega
    rcases hi' with rfl | rfl | rfl | rfl | rfl
    ·exact ⟨_, _, rfl, A7k, fun w2 h => C30 w2 s b1 (hk h h1)⟩
    ·exact ⟨_, _, rfl, A7d, fun w2 h => C2p w2 s hs b1 b5 (hk h h1) (hk h h5)⟩
    ·exact ⟨_, _, rfl, A8C, fun w2 h => C2c w2 s hs b1 b6 b7 (hk h h1) (hk h h6) (hk h h7)⟩
    ·have h2 := hpre 2 (by omega)
     simp only [List.getElem_cons_succ, List.getElem_cons_zero, decide_eq_false_iff_not] at h2
     exact ⟨_, _, rfl, A7g, fun w2 h => C2g w2 s b1 b6 (hk h h1) (hk h h6) (by omega)⟩
    ·exact ⟨_, _, rfl, A76, fun w2 h => C2d w2 s hs b1 b5 (hk h h1) (hk h h5)⟩
  ·by_cases he : A4s s = 0
   ·have hE := he
    unfold A4s at hE
    by_cases c1 : s.size < 20
    ·simp [c1] at hE
    by_cases c2 : gv s 0 1 / 16 ≠ 4
    ·simp [c1, c2] at hE
    by_cases c3 : H8 s < 20 ∨ s.size < H8 s ∨ gv s 2 2 < H8 s ∨ s.size < gv s 2 2
    ·simp [c1, c2, c3] at hE
    clear hE
    have hg91 := A9E s 9
    (have zz:=trivial;repeat((first|clear zz|with_reducible first|refine A3 ?_|refine A5 fun _=>?_|refine A4 fun _=>?_|refine D0 fun _=>?_|refine C7 (hK:=fun _=>?_)|refine C9 (hK:=fun _=>?_)|refine D1 (hK:=fun _=>?_)|refine C8 (hK:=fun _=>?_)|refine C6 (hK:=fun _=>?_));try simp(disch:=first|omega|assumption|((repeat(first|exact A1|exact uH|apply A2|apply uT));first|done|fail)|(simp;first|done|omega|fail))[he]))
    refine D2 g5 (fun w' hw' => C0r w' s hs b1 (hw'.cell1 (by (repeat constructor)))) ?_
    (have zz:=trivial;repeat((first|clear zz|with_reducible first|refine A3 ?_|refine A5 fun _=>?_|refine A4 fun _=>?_|refine D0 fun _=>?_|refine C7 (hK:=fun _=>?_)|refine C9 (hK:=fun _=>?_)|refine D1 (hK:=fun _=>?_)|refine C8 (hK:=fun _=>?_)|refine C6 (hK:=fun _=>?_));try simp(disch:=first|omega|assumption|((repeat(first|exact A1|exact uH|apply A2|apply uT));first|done|fail)|(simp;first|done|omega|fail))[]))
    exact B0 (by simp [l4, he, HeadV.val])
   ·(have zz:=trivial;repeat((first|clear zz|with_reducible first|refine A3 ?_|refine A5 fun _=>?_|refine A4 fun _=>?_|refine D0 fun _=>?_|refine C7 (hK:=fun _=>?_)|refine C9 (hK:=fun _=>?_)|refine D1 (hK:=fun _=>?_)|refine C8 (hK:=fun _=>?_)|refine C6 (hK:=fun _=>?_));try simp(disch:=first|omega|assumption|((repeat(first|exact A1|exact uH|apply A2|apply uT));first|done|fail)|(simp;first|done|omega|fail))[he]))
    exact B0 (by simp [l4, he, HeadV.val, HeadV.err])
 ·intro J hJ
  have hl := A9E s 0
  have e15 := C3l _ hl
  have em : ((gv s 0 1 : Nat) : Int) % 16 * 4 = (H8 s : Nat) := by simp [H8]
  have hJ' := fun b6 b7 => hJ (b6, b7) trivial
  simp only at hJ'
  clear hJ
  iterate 16 all_goals (try (first
   | exact fun _ _ => trivial
   | with_reducible refine And.intro ?_ ?_
   | (with_reducible apply D2 g5); (first | with_reducible exact fun w' hw' => C0n w' s hs b1 (hw'.cell1 (by ((repeat (first | exact A1 | exact Up.here | exact Sel.here | apply A2 | apply Up.there | apply Sel.there)); first | done | fail))) | with_reducible exact fun w' hw' => B95 w' s hs b1 (hw'.cell1 (by ((repeat (first | exact A1 | exact Up.here | exact Sel.here | apply A2 | apply Up.there | apply Sel.there)); first | done | fail))))
   | with_reducible refine A4 fun _ => ?_
   | simp(disch:=first|omega|assumption|((repeat(first|exact A1|exact uH|apply A2|apply uT));first|done|fail)|(simp;first|done|omega|fail))[e15, em]
   | with_reducible exact Sels.tw (by ((repeat (first | exact Sels.nil | (apply Sels.cons; · ((repeat (first | exact A1 | exact Up.here | exact Sel.here | apply A2 | apply Up.there | apply Sel.there)); first | done | fail)))); first | done | fail)) (hJ' _ _)))
  all_goals trace_state
def u3 (src dst : ByteArray) (proto : Int) (n : Nat) (own : Int) : ByteArray :=
 ByteArray.mk #[69, 0] ++ B7 (20 + n) 2 ++ ByteArray.mk #[0, 0, 64, 0, 64] ++ B7 proto 1 ++ B7 own 2 ++ src ++ dst
theorem B5g (w : World) (src dst rest : ByteArray) (proto own : Int) (b1 b2 : Nat) (h1 : w.cell? ⟨b1, 0, none⟩ = some (.string rest)) (h2 : w.cell? ⟨b2, 0, none⟩ = some (.string src)) (h3 : w.cell? ⟨b2, 1, none⟩ = some (.string dst))
  (h4 : w.cell? ⟨b2, 2, none⟩ = some (.int .i64 proto)) (hr : rest.size ≤ 65515) (hs : src.size = 4) (hd : dst.size = 4) (hp0 : 0 ≤ proto) (hp : proto ≤ 255) (ho0 : 0 ≤ own) (ho : own ≤ 65535) :
  Fn PR B5 97 #[.int .i64 own, .pointer (some ⟨b1, 0, none⟩), .pointer (some ⟨b2, 0, none⟩)] w (fun v w' => v = .string (u3 src dst proto rest.size own) ∧ C4 [] w w') := by
 refine Fn.pure (B1E (TW.go (κ := false) (S := []) ?_))
 unfold A5C
 (have zz:=trivial;repeat((first|clear zz|with_reducible first|refine A3 ?_|refine A5 fun _=>?_|refine A4 fun _=>?_|refine D0 fun _=>?_|refine C7 (hK:=fun _=>?_)|refine C9 (hK:=fun _=>?_)|refine D1 (hK:=fun _=>?_)|refine C8 (hK:=fun _=>?_)|refine C6 (hK:=fun _=>?_));try simp(disch:=first|omega|assumption|((repeat(first|exact A1|exact uH|apply A2|apply uT));first|done|fail)|(simp;first|done|omega|fail))[h1, h2, h3, h4]))
 refine D2 F6 (fun w' hw' => V8 w' _ _) ?_
 (have zz:=trivial;repeat((first|clear zz|with_reducible first|refine A3 ?_|refine A5 fun _=>?_|refine A4 fun _=>?_|refine D0 fun _=>?_|refine C7 (hK:=fun _=>?_)|refine C9 (hK:=fun _=>?_)|refine D1 (hK:=fun _=>?_)|refine C8 (hK:=fun _=>?_)|refine C6 (hK:=fun _=>?_));try simp(disch:=first|omega|assumption|((repeat(first|exact A1|exact uH|apply A2|apply uT));first|done|fail)|(simp;first|done|omega|fail))[h1, h2, h3, h4, T7]))
 refine D2 F6 (fun w' hw' => V8 w' _ _) ?_
 (have zz:=trivial;repeat((first|clear zz|with_reducible first|refine A3 ?_|refine A5 fun _=>?_|refine A4 fun _=>?_|refine D0 fun _=>?_|refine C7 (hK:=fun _=>?_)|refine C9 (hK:=fun _=>?_)|refine D1 (hK:=fun _=>?_)|refine C8 (hK:=fun _=>?_)|refine C6 (hK:=fun _=>?_));try simp(disch:=first|omega|assumption|((repeat(first|exact A1|exact uH|apply A2|apply uT));first|done|fail)|(simp;first|done|omega|fail))[h1, h2, h3, h4, T7]))
 refine D2 F6 (fun w' hw' => V8 w' _ _) ?_
 (have zz:=trivial;repeat((first|clear zz|with_reducible first|refine A3 ?_|refine A5 fun _=>?_|refine A4 fun _=>?_|refine D0 fun _=>?_|refine C7 (hK:=fun _=>?_)|refine C9 (hK:=fun _=>?_)|refine D1 (hK:=fun _=>?_)|refine C8 (hK:=fun _=>?_)|refine C6 (hK:=fun _=>?_));try simp(disch:=first|omega|assumption|((repeat(first|exact A1|exact uH|apply A2|apply uT));first|done|fail)|(simp;first|done|omega|fail))[h1, h2, h3, h4, T7, hs, hd]))
 exact B0 rfl
def A1Z (src dst rest : ByteArray) (proto : Int) : ByteArray × Nat :=
 if src.size ≠ 4 ∨ dst.size ≠ 4 ∨ proto < 0 ∨ 255 < proto then (P4, 1) else if 65515 < rest.size then (P4, 4) else (u3 src dst proto rest.size (A3Q (u3 src dst proto rest.size 0)) ++ rest, 0)
theorem A5n {src dst : ByteArray} {proto own : Int} {n : Nat} (hs : src.size = 4) (hd : dst.size = 4) : (u3 src dst proto n own).size = 20 := by simp [u3, hs, hd]
theorem B4H (s : ByteArray) : 0 ≤ A3Q s ∧ A3Q s ≤ 65535 := by
 have := B6k (q6 s (Q5 s)); unfold A3Q f9; omega
theorem B6G (w : World) (src dst rest : ByteArray) (proto : Int) (hrs : rest.size < 2 ^ 40) :
  Fn PR B5 53 #[.agg #[.string src, .string dst, .int .i64 proto], .string rest] w (fun v w' => v = .tuple #[.string (A1Z src dst rest proto).1, .int .i64 (A1Z src dst rest proto).2] ∧ C4 [] w w') := by
 refine Fn.pure (B5L (TW.go (κ := false) (S := []) ?_))
 unfold A87
 by_cases c1 : src.size = 4
 case neg =>
  have c1' : ¬ (src.size : Int) = 4 := by omega
  (have zz:=trivial;repeat((first|clear zz|with_reducible first|refine A3 ?_|refine A5 fun _=>?_|refine A4 fun _=>?_|refine D0 fun _=>?_|refine C7 (hK:=fun _=>?_)|refine C9 (hK:=fun _=>?_)|refine D1 (hK:=fun _=>?_)|refine C8 (hK:=fun _=>?_)|refine C6 (hK:=fun _=>?_));try simp(disch:=first|omega|assumption|((repeat(first|exact A1|exact uH|apply A2|apply uT));first|done|fail)|(simp;first|done|omega|fail))[c1'])); exact B0 (by simp [A1Z, c1])
 by_cases c2 : dst.size = 4
 case neg =>
  have c2' : ¬ (dst.size : Int) = 4 := by omega
  (have zz:=trivial;repeat((first|clear zz|with_reducible first|refine A3 ?_|refine A5 fun _=>?_|refine A4 fun _=>?_|refine D0 fun _=>?_|refine C7 (hK:=fun _=>?_)|refine C9 (hK:=fun _=>?_)|refine D1 (hK:=fun _=>?_)|refine C8 (hK:=fun _=>?_)|refine C6 (hK:=fun _=>?_));try simp(disch:=first|omega|assumption|((repeat(first|exact A1|exact uH|apply A2|apply uT));first|done|fail)|(simp;first|done|omega|fail))[c1, c2'])); exact B0 (by simp [A1Z, c2])
 by_cases c3 : proto < 0
 ·(have zz:=trivial;repeat((first|clear zz|with_reducible first|refine A3 ?_|refine A5 fun _=>?_|refine A4 fun _=>?_|refine D0 fun _=>?_|refine C7 (hK:=fun _=>?_)|refine C9 (hK:=fun _=>?_)|refine D1 (hK:=fun _=>?_)|refine C8 (hK:=fun _=>?_)|refine C6 (hK:=fun _=>?_));try simp(disch:=first|omega|assumption|((repeat(first|exact A1|exact uH|apply A2|apply uT));first|done|fail)|(simp;first|done|omega|fail))[c1, c2, c3])); exact B0 (by simp [A1Z, c3])
 by_cases c4 : 255 < proto
 ·(have zz:=trivial;repeat((first|clear zz|with_reducible first|refine A3 ?_|refine A5 fun _=>?_|refine A4 fun _=>?_|refine D0 fun _=>?_|refine C7 (hK:=fun _=>?_)|refine C9 (hK:=fun _=>?_)|refine D1 (hK:=fun _=>?_)|refine C8 (hK:=fun _=>?_)|refine C6 (hK:=fun _=>?_));try simp(disch:=first|omega|assumption|((repeat(first|exact A1|exact uH|apply A2|apply uT));first|done|fail)|(simp;first|done|omega|fail))[c1, c2, c3, c4])); exact B0 (by simp [A1Z, c4])
 by_cases c5 : 65515 < rest.size
 ·have c5' : 65515 < (rest.size : Int) := by omega
  (have zz:=trivial;repeat((first|clear zz|with_reducible first|refine A3 ?_|refine A5 fun _=>?_|refine A4 fun _=>?_|refine D0 fun _=>?_|refine C7 (hK:=fun _=>?_)|refine C9 (hK:=fun _=>?_)|refine D1 (hK:=fun _=>?_)|refine C8 (hK:=fun _=>?_)|refine C6 (hK:=fun _=>?_));try simp(disch:=first|omega|assumption|((repeat(first|exact A1|exact uH|apply A2|apply uT));first|done|fail)|(simp;first|done|omega|fail))[c1, c2, c3, c4, c5'])); exact B0 (by simp [A1Z, c1, c2, c3, c4, c5])
 have c5' : ¬ 65515 < (rest.size : Int) := by omega
 (have zz:=trivial;repeat((first|clear zz|with_reducible first|refine A3 ?_|refine A5 fun _=>?_|refine A4 fun _=>?_|refine D0 fun _=>?_|refine C7 (hK:=fun _=>?_)|refine C9 (hK:=fun _=>?_)|refine D1 (hK:=fun _=>?_)|refine C8 (hK:=fun _=>?_)|refine C6 (hK:=fun _=>?_));try simp(disch:=first|omega|assumption|((repeat(first|exact A1|exact uH|apply A2|apply uT));first|done|fail)|(simp;first|done|omega|fail))[c1, c2, c3, c4, c5']))
 rename_i bh br
 have key : ∀ w', LW false [] w [.pt br (.cells #[.string rest] 9), .pt bh (.cells #[.string src, .string dst, .int .i64 proto] 124)] w' → ∀ own : Int, 0 ≤ own → own ≤ 65535 → _ :=
  fun w' hw' own h0 h1 => B5g w' src dst rest proto own br bh (hw'.cell1 (by (repeat constructor))) (hw'.cell (by (repeat constructor)) (by rfl)) (hw'.cell (by (repeat constructor)) (by rfl)) (hw'.cell (by (repeat constructor)) (by rfl)) (by omega) c1 c2 (by omega) (by omega) h0 h1
 refine D2 A4C (fun w' hw' => key w' hw' 0 (by omega) (by omega)) ?_
 (have zz:=trivial;repeat((first|clear zz|with_reducible first|refine A3 ?_|refine A5 fun _=>?_|refine A4 fun _=>?_|refine D0 fun _=>?_|refine C7 (hK:=fun _=>?_)|refine C9 (hK:=fun _=>?_)|refine D1 (hK:=fun _=>?_)|refine C8 (hK:=fun _=>?_)|refine C6 (hK:=fun _=>?_));try simp(disch:=first|omega|assumption|((repeat(first|exact A1|exact uH|apply A2|apply uT));first|done|fail)|(simp;first|done|omega|fail))[]))
 have hz : (u3 src dst proto rest.size 0).size = 20 := A5n c1 c2
 have hv := B4H (u3 src dst proto rest.size 0)
 refine D2 B3C (fun w' hw' => C1Y w' _ (by omega)) ?_
 (have zz:=trivial;repeat((first|clear zz|with_reducible first|refine A3 ?_|refine A5 fun _=>?_|refine A4 fun _=>?_|refine D0 fun _=>?_|refine C7 (hK:=fun _=>?_)|refine C9 (hK:=fun _=>?_)|refine D1 (hK:=fun _=>?_)|refine C8 (hK:=fun _=>?_)|refine C6 (hK:=fun _=>?_));try simp(disch:=first|omega|assumption|((repeat(first|exact A1|exact uH|apply A2|apply uT));first|done|fail)|(simp;first|done|omega|fail))[]))
 refine D2 A4C (fun w' hw' => key w' hw' _ hv.1 hv.2) ?_
 have hz2 : (u3 src dst proto rest.size (A3Q (u3 src dst proto rest.size 0))).size = 20 := A5n c1 c2
 (have zz:=trivial;repeat((first|clear zz|with_reducible first|refine A3 ?_|refine A5 fun _=>?_|refine A4 fun _=>?_|refine D0 fun _=>?_|refine C7 (hK:=fun _=>?_)|refine C9 (hK:=fun _=>?_)|refine D1 (hK:=fun _=>?_)|refine C8 (hK:=fun _=>?_)|refine C6 (hK:=fun _=>?_));try simp(disch:=first|omega|assumption|((repeat(first|exact A1|exact uH|apply A2|apply uT));first|done|fail)|(simp;first|done|omega|fail))[T7]))
 exact B0 (by simp [A1Z, c1, c2, c3, c4, c5])
end Go.Proofs.YtpbmephflllolaaGreat
namespace Go.Proofs.YtpbmephflllolaaGreat
open Go
def A40 : List Nat → ByteArray → List ByteArray
 | [], s => [s]
 | n :: ns, s => s.extract 0 n :: A40 ns (s.extract n s.size)
theorem C1j (w : World) (v : Value) (ns : List Nat) (s : ByteArray) (hn : ns.length < 100) (hv : G1 w v ns.length (ns.map fun n : Nat => Value.int .i64 (n : Int))) (hs : ns.sum ≤ s.size) (hs2 : s.size < 2 ^ 63) :
  Fn PR B5 195 #[.string s, v] w (Rn [] w (fun v u => u = v) fun v => [.own 9 1 v (ns.length + 1) ((A40 ns s).map .string)]) := by
 refine B5N (TW.go (κ := false) (S := []) ?_)
 unfold A8K
 obtain ⟨a, c, rfl, hrow⟩ := hv.form
 (have zz:=trivial;repeat((first|clear zz|with_reducible first|refine A3 ?_|refine A5 fun _=>?_|refine A4 fun _=>?_|refine D0 fun _=>?_|refine C7 (hK:=fun _=>?_)|refine C9 (hK:=fun _=>?_)|refine D1 (hK:=fun _=>?_)|refine C8 (hK:=fun _=>?_)|refine C6 (hK:=fun _=>?_));try simp(disch:=first|omega|assumption|((repeat(first|exact A1|exact uH|apply A2|apply uT));first|done|fail)|(simp;first|done|omega|fail))[]))
 refine s6 9 1 ?_
 refine C2G (α := Value × ByteArray × List ByteArray) ns.length (fun _ x => x.1) (fun _ x => .string x.2.1) (fun i x => [.own 9 1 x.1 i (x.2.2.map .string)])
  (fun i x => A40 ns s = x.2.2 ++ A40 (ns.drop i) x.2.1 ∧ (ns.drop i).sum ≤ x.2.1.size ∧ x.2.1.size ≤ s.size) (.slice none 0 0, s, []) ⟨by simp, by simpa using hs, Nat.le_refl _⟩ ?_
 rintro i ⟨v, r, d⟩ hi ⟨h1, h2, h3⟩ L hL
 simp only at h1 h2 h3 hL ⊢
 by_cases hlt : i < ns.length
 ·obtain ⟨b, o, rfl, hr⟩ := hrow (by omega)
  have hx : ns[i]? = some ns[i] := List.getElem?_eq_getElem hlt
  have hc := hr.one hx
  rw [List.drop_eq_getElem_cons hlt] at h1 h2
  simp only [List.sum_cons, A40] at h1 h2
  have hle : ((ns[i] : Nat) : Int) ≤ r.size := by omega
  (have zz:=trivial;repeat((first|clear zz|with_reducible first|refine A3 ?_|refine A5 fun _=>?_|refine A4 fun _=>?_|refine D0 fun _=>?_|refine C7 (hK:=fun _=>?_)|refine C9 (hK:=fun _=>?_)|refine D1 (hK:=fun _=>?_)|refine C8 (hK:=fun _=>?_)|refine C6 (hK:=fun _=>?_));try simp(disch:=first|omega|assumption|((repeat(first|exact A1|exact uH|apply A2|apply uT));first|done|fail)|(simp;first|done|omega|fail))[hlt, hc]))
  refine A0v (by (repeat constructor)) (P2.own (by (repeat constructor))) (by decide) (by simp) (by simp) (by simp only [maxLen]; omega) (by omega) fun a' c' => ?_
  (have zz:=trivial;repeat((first|clear zz|with_reducible first|refine A3 ?_|refine A5 fun _=>?_|refine A4 fun _=>?_|refine D0 fun _=>?_|refine C7 (hK:=fun _=>?_)|refine C9 (hK:=fun _=>?_)|refine D1 (hK:=fun _=>?_)|refine C8 (hK:=fun _=>?_)|refine C6 (hK:=fun _=>?_));try simp(disch:=first|omega|assumption|((repeat(first|exact A1|exact uH|apply A2|apply uT));first|done|fail)|(simp;first|done|omega|fail))[hlt, hle]))
  have := hL hlt (.slice a' (i + 1) c', r.extract ns[i] r.size, d ++ [r.extract 0 ns[i]]) ⟨by rw [h1]; simp, by rw [ByteArray.size_extract]; omega, by rw [ByteArray.size_extract]; omega⟩
  simp only [List.map_append, List.map_cons, List.map_nil] at this
  exact Sels.tw (by (repeat' constructor)) this
 ·obtain rfl : i = ns.length := by omega
  (have zz:=trivial;repeat((first|clear zz|with_reducible first|refine A3 ?_|refine A5 fun _=>?_|refine A4 fun _=>?_|refine D0 fun _=>?_|refine C7 (hK:=fun _=>?_)|refine C9 (hK:=fun _=>?_)|refine D1 (hK:=fun _=>?_)|refine C8 (hK:=fun _=>?_)|refine C6 (hK:=fun _=>?_));try simp(disch:=first|omega|assumption|((repeat(first|exact A1|exact uH|apply A2|apply uT));first|done|fail)|(simp;first|done|omega|fail))[]))
  refine A0v (by (repeat constructor)) (P2.own (by (repeat constructor))) (by decide) (by simp) (by simp) (by simp only [maxLen]; omega) (by omega) fun a' c' => ?_
  simp only [List.drop_length, A40] at h1
  rw [h1]
  exact W9 _ rfl (by simp)
def A5w (s : ByteArray) : Nat := if s.size < 40 then 2 else if gv s 0 1 / 16 ≠ 6 then 3 else if s.size - 40 < gv s 4 2 then 4 else 0
def j0 (s : ByteArray) : HeadV := if A5w s = 0 then ⟨s.extract 8 24, s.extract 24 40, gv s 6 1, s.extract 40 (40 + gv s 4 2), 0⟩ else .err (A5w s)
theorem A3x (s : ByteArray) (a b i : Nat) (hb : b ≤ s.size) (hi : i < b - a) : B6 (s.extract a b) i = B6 s (a + i) := by
 unfold B6
 rw [Array.getD_eq_getD_getElem?, Array.getD_eq_getD_getElem?, ByteArray.data_extract, Array.getElem?_extract]
 rw [if_pos (by simp only [ByteArray.size] at hb; omega)]
theorem B3g (s : ByteArray) (a b i n : Nat) (hb : b ≤ s.size) (hn : i + n ≤ b - a) : Q8 (s.extract a b) i n = Q8 s (a + i) n := by
 induction n with
 | zero => rfl
 | succ n ih => simp only [Q8]; rw [ih (by omega), A3x s a b _ hb (by omega), Nat.add_assoc]
theorem B4d {s : ByteArray} {a n : Nat} (h : a + n ≤ s.size) : gv s a n = Q8 s a n := if_pos h
theorem B5H (s : ByteArray) (a b i n : Nat) (hb : b ≤ s.size) (hn : i + n ≤ b - a) (hab : a ≤ b) : gv (s.extract a b) i n = gv s (a + i) n := by
 rw [B4d (by rw [ByteArray.size_extract]; omega), B4d (by omega), B3g s a b i n hb hn]
theorem B7G {s : ByteArray} {a : Nat} (h : a < s.size) : gv s a 1 = B6 s a := by rw [B4d (by omega)]; simp [Q8]
theorem A7e (s : ByteArray) (a b c d : Nat) (hb : b ≤ s.size) (hd : a + d ≤ b) : (s.extract a b).extract c d = s.extract (a + c) (a + d) := by
 apply ByteArray.ext
 rw [ByteArray.data_extract, ByteArray.data_extract, ByteArray.data_extract, Array.extract_extract]
 congr 1; omega
def B8E (s : ByteArray) : Nat → List Nat → List ByteArray
 | a, [] => [s.extract a s.size]
 | a, n :: ns => s.extract a (a + n) :: B8E s (a + n) ns
theorem C0j (s : ByteArray) (ns : List Nat) : ∀ a, a + ns.sum ≤ s.size → A40 ns (s.extract a s.size) = B8E s a ns := by
 induction ns with
 | nil => intro a _; rfl
 | cons n ns ih =>
  intro a h
  simp only [List.sum_cons] at h
  simp only [A40, B8E]
  rw [A7e _ _ _ _ _ (by omega) (by omega), A7e _ _ _ _ _ (by omega) (by rw [ByteArray.size_extract]; omega), ByteArray.size_extract, Nat.add_zero]
  rw [show a + (min s.size s.size - a) = s.size from by omega, ih _ (by omega)]
theorem B3A (s : ByteArray) : s.extract 0 s.size = s := by
 apply ByteArray.ext; rw [ByteArray.data_extract]; exact Array.extract_size ..
theorem B5S {s : ByteArray} (h : 40 ≤ s.size) : A40 [4, 2, 1, 1, 16, 16] s = [s.extract 0 4, s.extract 4 6, s.extract 6 7, s.extract 7 8, s.extract 8 24, s.extract 24 40, s.extract 40 s.size] := by
 have := C0j s [4, 2, 1, 1, 16, 16] 0 (by simp; omega)
 rw [B3A] at this; rw [this]; rfl
theorem B3K (w : World) (s : ByteArray) (hs : s.size < 2 ^ 63) : Fn PR B5 146 #[.string s] w (fun v w' => v = (j0 s).val ∧ C4 [] w w') := by
 refine Fn.pure (B2j (TW.go (κ := false) (S := []) ?_))
 unfold A6l
 by_cases c1 : s.size < 40
 ·have c1' : (s.size : Int) < 40 := by omega
  (have zz:=trivial;repeat((first|clear zz|with_reducible first|refine A3 ?_|refine A5 fun _=>?_|refine A4 fun _=>?_|refine D0 fun _=>?_|refine C7 (hK:=fun _=>?_)|refine C9 (hK:=fun _=>?_)|refine D1 (hK:=fun _=>?_)|refine C8 (hK:=fun _=>?_)|refine C6 (hK:=fun _=>?_));try simp(disch:=first|omega|assumption|((repeat(first|exact A1|exact uH|apply A2|apply uT));first|done|fail)|(simp;first|done|omega|fail))[c1'])); exact B0 (by simp [j0, A5w, c1, HeadV.val, HeadV.err])
 have c1' : ¬ (s.size : Int) < 40 := by omega
 obtain ⟨by0, hb0, hb1⟩ := s9 (s := s) (i := 0) (by omega)
 have hg0 : gv s 0 1 = B6 s 0 := B7G (by omega)
 have e1 : ((by0.toNat : Nat) : Int).fdiv (2 ^ min 4 IntKind.u8.bits) = (gv s 0 1 / 16 : Nat) := by rw [show (2 : Int) ^ min 4 IntKind.u8.bits = 16 from rfl, Int.fdiv_eq_ediv_of_nonneg _ (by omega), hb1, hg0]; omega
 have hb0' : s[(0 : Int).toNat]? = some by0 := hb0
 by_cases c2 : gv s 0 1 / 16 = 6
 case neg =>
  have c2' : ¬ ((gv s 0 1 / 16 : Nat) : Int) = 6 := by omega
  (have zz:=trivial;repeat((first|clear zz|with_reducible first|refine A3 ?_|refine A5 fun _=>?_|refine A4 fun _=>?_|refine D0 fun _=>?_|refine C7 (hK:=fun _=>?_)|refine C9 (hK:=fun _=>?_)|refine D1 (hK:=fun _=>?_)|refine C8 (hK:=fun _=>?_)|refine C6 (hK:=fun _=>?_));try simp(disch:=first|omega|assumption|((repeat(first|exact A1|exact uH|apply A2|apply uT));first|done|fail)|(simp;first|done|omega|fail))[c1', Y1]))
  rw [e1, if_neg c2']
  (have zz:=trivial;repeat((first|clear zz|with_reducible first|refine A3 ?_|refine A5 fun _=>?_|refine A4 fun _=>?_|refine D0 fun _=>?_|refine C7 (hK:=fun _=>?_)|refine C9 (hK:=fun _=>?_)|refine D1 (hK:=fun _=>?_)|refine C8 (hK:=fun _=>?_)|refine C6 (hK:=fun _=>?_));try simp(disch:=first|omega|assumption|((repeat(first|exact A1|exact uH|apply A2|apply uT));first|done|fail)|(simp;first|done|omega|fail))[])); exact B0 (by simp [j0, A5w, c1, c2, HeadV.val, HeadV.err])
 have c2' : ((gv s 0 1 / 16 : Nat) : Int) = 6 := by omega
 (have zz:=trivial;repeat((first|clear zz|with_reducible first|refine A3 ?_|refine A5 fun _=>?_|refine A4 fun _=>?_|refine D0 fun _=>?_|refine C7 (hK:=fun _=>?_)|refine C9 (hK:=fun _=>?_)|refine D1 (hK:=fun _=>?_)|refine C8 (hK:=fun _=>?_)|refine C6 (hK:=fun _=>?_));try simp(disch:=first|omega|assumption|((repeat(first|exact A1|exact uH|apply A2|apply uT));first|done|fail)|(simp;first|done|omega|fail))[c1', Y1]))
 rw [e1, if_pos c2']
 (have zz:=trivial;repeat((first|clear zz|with_reducible first|refine A3 ?_|refine A5 fun _=>?_|refine A4 fun _=>?_|refine D0 fun _=>?_|refine C7 (hK:=fun _=>?_)|refine C9 (hK:=fun _=>?_)|refine D1 (hK:=fun _=>?_)|refine C8 (hK:=fun _=>?_)|refine C6 (hK:=fun _=>?_));try simp(disch:=first|omega|assumption|((repeat(first|exact A1|exact uH|apply A2|apply uT));first|done|fail)|(simp;first|done|omega|fail))[]))
 rename_i bh bl
 refine N7 B3n (fun w' hw' => C1j w' _ [4, 2, 1, 1, 16, 16] s (by simp) ?_ (by simp; omega) (by omega)) ?_
 ·have := P2.own (κ := false) (S := []) (w0 := w) (e := 3) (k := 1) (q := 6) (v := .slice (some ⟨bl, 0, none⟩) 6 6) (by (repeat constructor)) w' hw'
  simpa using this
 rintro v _ rfl
 rw [B5S (by omega)]
 simp only [List.length_cons, List.length_nil, List.map_cons, List.map_nil, List.cons_append, List.nil_append]
 refine x9 (by (repeat constructor)) (by omega) fun g c hv => ?_
 subst hv
 (have zz:=trivial;repeat((first|clear zz|with_reducible first|refine A3 ?_|refine A5 fun _=>?_|refine A4 fun _=>?_|refine D0 fun _=>?_|refine C7 (hK:=fun _=>?_)|refine C9 (hK:=fun _=>?_)|refine D1 (hK:=fun _=>?_)|refine C8 (hK:=fun _=>?_)|refine C6 (hK:=fun _=>?_));try simp(disch:=first|omega|assumption|((repeat(first|exact A1|exact uH|apply A2|apply uT));first|done|fail)|(simp;first|done|omega|fail))[]))
 refine D2 Q0 (fun w' _ => A05 w' _ (by simp; omega) _ _) ?_
 have hgv := A3u (s.extract 4 6) 0 2 (by omega) (by omega)
 rw [B5H s 4 6 0 2 (by omega) (by omega) (by omega)] at hgv
 simp only [Int.natCast_zero, Int.cast_ofNat_Int] at hgv
 have hlt := A01 s 4
 rw [hgv]
 (have zz:=trivial;repeat((first|clear zz|with_reducible first|refine A3 ?_|refine A5 fun _=>?_|refine A4 fun _=>?_|refine D0 fun _=>?_|refine C7 (hK:=fun _=>?_)|refine C9 (hK:=fun _=>?_)|refine D1 (hK:=fun _=>?_)|refine C8 (hK:=fun _=>?_)|refine C6 (hK:=fun _=>?_));try simp(disch:=first|omega|assumption|((repeat(first|exact A1|exact uH|apply A2|apply uT));first|done|fail)|(simp;first|done|omega|fail))[]))
 refine B4e (fun c3 => ?_) (fun c3 => ?_)
 ·(have zz:=trivial;repeat((first|clear zz|with_reducible first|refine A3 ?_|refine A5 fun _=>?_|refine A4 fun _=>?_|refine D0 fun _=>?_|refine C7 (hK:=fun _=>?_)|refine C9 (hK:=fun _=>?_)|refine D1 (hK:=fun _=>?_)|refine C8 (hK:=fun _=>?_)|refine C6 (hK:=fun _=>?_));try simp(disch:=first|omega|assumption|((repeat(first|exact A1|exact uH|apply A2|apply uT));first|done|fail)|(simp;first|done|omega|fail))[]))
  exact B0 (by simp [j0, A5w, c1, c2, c3, HeadV.val, HeadV.err])
 ·obtain ⟨by6, hb6, hb6'⟩ := s9 (s := s.extract 6 7) (i := 0) (by simp; omega)
  have hp : B6 (s.extract 6 7) 0 = gv s 6 1 := by rw [A3x s 6 7 0 (by omega) (by omega), B7G (by omega)]
  have hb6'' : (s.extract 6 7)[(0 : Int).toNat]? = some by6 := hb6
  have hle : ((gv s 4 2 : Nat) : Int) ≤ (s.extract 40 s.size).size := by rw [ByteArray.size_extract]; omega
  (have zz:=trivial;repeat((first|clear zz|with_reducible first|refine A3 ?_|refine A5 fun _=>?_|refine A4 fun _=>?_|refine D0 fun _=>?_|refine C7 (hK:=fun _=>?_)|refine C9 (hK:=fun _=>?_)|refine D1 (hK:=fun _=>?_)|refine C8 (hK:=fun _=>?_)|refine C6 (hK:=fun _=>?_));try simp(disch:=first|omega|assumption|((repeat(first|exact A1|exact uH|apply A2|apply uT));first|done|fail)|(simp;first|done|omega|fail))[Y1]))
  have h6 := A9E s 6
  have w6 : IntKind.i64.wrap (gv s 6 1 : Nat) = (gv s 6 1 : Nat) := y8 (by omega) (by omega)
  rw [hb6', hp]
  exact B0 (by rw [A7e s 40 s.size 0 _ (by omega) (by omega)]; simp [j0, A5w, c1, c2, c3, HeadV.val, w6])
theorem A0r : liesAt PR PR.depth 189 (2 / PR.cellsOf 189) 0 187 1 = true := by kernel_rfl
theorem A2y (w : World) (b : Nat) (a : Option Addr) (v : Value) (q : Nat) (xs : List Value) (x n : Int) (ha : a = none ∨ a = some ⟨b, 0, none⟩) (hx0 : 0 ≤ x) (hx : x < 2 ^ 62) (hs : q < 2 ^ 39)
  (hw : LW false (B3 (Bd b 189 a v q xs)) w (Bd b 189 a v q xs) w) : Fn PR B5 94 #[.pointer (some ⟨b, 0, none⟩), .int .i64 x, .int .i64 n] w
   (Rn (B3 (Bd b 189 a v q xs)) w (fun (_ : Value) u => u = .tuple #[]) fun v' => Bd b 189 (some ⟨b, 0, none⟩) v' (q + (B7 x n).size) (xs ++ E1 (B7 x n))) := by
 refine A4Y (TW.goH (κ := false) (S := B3 (Bd b 189 a v q xs)) ?_ hw)
 unfold y6
 (have zz:=trivial;repeat((first|clear zz|with_reducible first|refine A3 ?_|refine A5 fun _=>?_|refine A4 fun _=>?_|refine D0 fun _=>?_|refine C7 (hK:=fun _=>?_)|refine C9 (hK:=fun _=>?_)|refine D1 (hK:=fun _=>?_)|refine C8 (hK:=fun _=>?_)|refine C6 (hK:=fun _=>?_));try simp(disch:=first|omega|assumption|((repeat(first|exact A1|exact uH|apply A2|apply uT));first|done|fail)|(simp;first|done|omega|fail))[]))
 refine D2 F6 (fun w' _ => V8 w' _ _) ?_
 have hp : (B7 x n).size ≤ 8 := by
  by_cases h : 1 ≤ n ∧ n ≤ 8
  ·rw [B7d h.1 h.2]; omega
  ·simp [B7, h]
 refine A88 (Hc := Bd b 189 a v q xs) (Hk := []) J7 (by rfl) (fun w' hw' => n5 w' b _ a v q xs _ ha A0r (by omega) hw'.self) ?_
 rintro v' _ rfl
 (have zz:=trivial;repeat((first|clear zz|with_reducible first|refine A3 ?_|refine A5 fun _=>?_|refine A4 fun _=>?_|refine D0 fun _=>?_|refine C7 (hK:=fun _=>?_)|refine C9 (hK:=fun _=>?_)|refine D1 (hK:=fun _=>?_)|refine C8 (hK:=fun _=>?_)|refine C6 (hK:=fun _=>?_));try simp(disch:=first|omega|assumption|((repeat(first|exact A1|exact uH|apply A2|apply uT));first|done|fail)|(simp;first|done|omega|fail))[]))
 exact D4 v' rfl (by simp only [Bd]; (repeat' constructor))
def A0G (src dst rest : ByteArray) (proto : Int) : ByteArray := B7 1610612736 4 ++ B7 rest.size 2 ++ B7 proto 1 ++ B7 64 1 ++ src ++ dst ++ rest
def A9d (rest : ByteArray) : Nat → Nat | 0 => 8 | 1 => 24 | 2 => 40 | _ => 40 + rest.size
def A9M (src dst rest : ByteArray) (proto : Int) : Nat → ByteArray
 | 0 => B7 1610612736 4 ++ B7 rest.size 2 ++ B7 proto 1 ++ B7 64 1
 | 1 => B7 1610612736 4 ++ B7 rest.size 2 ++ B7 proto 1 ++ B7 64 1 ++ src
 | 2 => B7 1610612736 4 ++ B7 rest.size 2 ++ B7 proto 1 ++ B7 64 1 ++ src ++ dst
 | _ => A0G src dst rest proto
def A1T (src dst rest : ByteArray) (proto : Int) : ByteArray × Nat :=
 if src.size ≠ 16 ∨ dst.size ≠ 16 ∨ proto < 0 ∨ 255 < proto then (P4, 1) else if 65535 < rest.size then (P4, 4) else (A0G src dst rest proto, 0)
theorem B7m (w : World) (src dst rest : ByteArray) (proto : Int) (hrs : rest.size < 2 ^ 40) :
  Fn PR B5 52 #[.agg #[.string src, .string dst, .int .i64 proto], .string rest] w (fun v w' => v = .tuple #[.string (A1T src dst rest proto).1, .int .i64 (A1T src dst rest proto).2] ∧ C4 [] w w') := by
 refine Fn.pure (B5k (TW.go (κ := false) (S := []) ?_))
 unfold A9C
 by_cases c1 : src.size = 16
 case neg =>
  have c1' : ¬ (src.size : Int) = 16 := by omega
  (have zz:=trivial;repeat((first|clear zz|with_reducible first|refine A3 ?_|refine A5 fun _=>?_|refine A4 fun _=>?_|refine D0 fun _=>?_|refine C7 (hK:=fun _=>?_)|refine C9 (hK:=fun _=>?_)|refine D1 (hK:=fun _=>?_)|refine C8 (hK:=fun _=>?_)|refine C6 (hK:=fun _=>?_));try simp(disch:=first|omega|assumption|((repeat(first|exact A1|exact uH|apply A2|apply uT));first|done|fail)|(simp;first|done|omega|fail))[c1'])); exact B0 (by simp [A1T, c1])
 by_cases c2 : dst.size = 16
 case neg =>
  have c2' : ¬ (dst.size : Int) = 16 := by omega
  (have zz:=trivial;repeat((first|clear zz|with_reducible first|refine A3 ?_|refine A5 fun _=>?_|refine A4 fun _=>?_|refine D0 fun _=>?_|refine C7 (hK:=fun _=>?_)|refine C9 (hK:=fun _=>?_)|refine D1 (hK:=fun _=>?_)|refine C8 (hK:=fun _=>?_)|refine C6 (hK:=fun _=>?_));try simp(disch:=first|omega|assumption|((repeat(first|exact A1|exact uH|apply A2|apply uT));first|done|fail)|(simp;first|done|omega|fail))[c1, c2'])); exact B0 (by simp [A1T, c2])
 by_cases c3 : proto < 0
 ·(have zz:=trivial;repeat((first|clear zz|with_reducible first|refine A3 ?_|refine A5 fun _=>?_|refine A4 fun _=>?_|refine D0 fun _=>?_|refine C7 (hK:=fun _=>?_)|refine C9 (hK:=fun _=>?_)|refine D1 (hK:=fun _=>?_)|refine C8 (hK:=fun _=>?_)|refine C6 (hK:=fun _=>?_));try simp(disch:=first|omega|assumption|((repeat(first|exact A1|exact uH|apply A2|apply uT));first|done|fail)|(simp;first|done|omega|fail))[c1, c2, c3])); exact B0 (by simp [A1T, c3])
 by_cases c4 : 255 < proto
 ·(have zz:=trivial;repeat((first|clear zz|with_reducible first|refine A3 ?_|refine A5 fun _=>?_|refine A4 fun _=>?_|refine D0 fun _=>?_|refine C7 (hK:=fun _=>?_)|refine C9 (hK:=fun _=>?_)|refine D1 (hK:=fun _=>?_)|refine C8 (hK:=fun _=>?_)|refine C6 (hK:=fun _=>?_));try simp(disch:=first|omega|assumption|((repeat(first|exact A1|exact uH|apply A2|apply uT));first|done|fail)|(simp;first|done|omega|fail))[c1, c2, c3, c4])); exact B0 (by simp [A1T, c4])
 by_cases c5 : 65535 < rest.size
 ·have c5' : 65535 < (rest.size : Int) := by omega
  (have zz:=trivial;repeat((first|clear zz|with_reducible first|refine A3 ?_|refine A5 fun _=>?_|refine A4 fun _=>?_|refine D0 fun _=>?_|refine C7 (hK:=fun _=>?_)|refine C9 (hK:=fun _=>?_)|refine D1 (hK:=fun _=>?_)|refine C8 (hK:=fun _=>?_)|refine C6 (hK:=fun _=>?_));try simp(disch:=first|omega|assumption|((repeat(first|exact A1|exact uH|apply A2|apply uT));first|done|fail)|(simp;first|done|omega|fail))[c1, c2, c3, c4, c5'])); exact B0 (by simp [A1T, c1, c2, c3, c4, c5])
 have c5' : ¬ 65535 < (rest.size : Int) := by omega
 (have zz:=trivial;repeat((first|clear zz|with_reducible first|refine A3 ?_|refine A5 fun _=>?_|refine A4 fun _=>?_|refine D0 fun _=>?_|refine C7 (hK:=fun _=>?_)|refine C9 (hK:=fun _=>?_)|refine D1 (hK:=fun _=>?_)|refine C8 (hK:=fun _=>?_)|refine C6 (hK:=fun _=>?_));try simp(disch:=first|omega|assumption|((repeat(first|exact A1|exact uH|apply A2|apply uT));first|done|fail)|(simp;first|done|omega|fail))[c1, c2, c3, c4, c5']))
 rename_i bh bw
 refine s6 5 1 ?_
 refine D8 S6 (fun w' _ hs => A2y w' bw none (.slice none 0 0) 0 [] 1610612736 4 (Or.inl rfl) (by omega) (by omega) (by omega) hs) (by (repeat' constructor)) ?_
 rintro v1 _ rfl
 (have zz:=trivial;repeat((first|clear zz|with_reducible first|refine A3 ?_|refine A5 fun _=>?_|refine A4 fun _=>?_|refine D0 fun _=>?_|refine C7 (hK:=fun _=>?_)|refine C9 (hK:=fun _=>?_)|refine D1 (hK:=fun _=>?_)|refine C8 (hK:=fun _=>?_)|refine C6 (hK:=fun _=>?_));try simp(disch:=first|omega|assumption|((repeat(first|exact A1|exact uH|apply A2|apply uT));first|done|fail)|(simp;first|done|omega|fail))[]))
 refine D8 S6 (fun w' _ hs => A2y w' bw _ v1 4 _ rest.size 2 (Or.inr rfl) (by omega) (by omega) (by omega) hs) (by (repeat' constructor)) ?_
 rintro v2 _ rfl
 (have zz:=trivial;repeat((first|clear zz|with_reducible first|refine A3 ?_|refine A5 fun _=>?_|refine A4 fun _=>?_|refine D0 fun _=>?_|refine C7 (hK:=fun _=>?_)|refine C9 (hK:=fun _=>?_)|refine D1 (hK:=fun _=>?_)|refine C8 (hK:=fun _=>?_)|refine C6 (hK:=fun _=>?_));try simp(disch:=first|omega|assumption|((repeat(first|exact A1|exact uH|apply A2|apply uT));first|done|fail)|(simp;first|done|omega|fail))[]))
 refine D8 S6 (fun w' _ hs => A2y w' bw _ v2 6 _ proto 1 (Or.inr rfl) (by omega) (by omega) (by omega) hs) (by (repeat' constructor)) ?_
 rintro v3 _ rfl
 (have zz:=trivial;repeat((first|clear zz|with_reducible first|refine A3 ?_|refine A5 fun _=>?_|refine A4 fun _=>?_|refine D0 fun _=>?_|refine C7 (hK:=fun _=>?_)|refine C9 (hK:=fun _=>?_)|refine D1 (hK:=fun _=>?_)|refine C8 (hK:=fun _=>?_)|refine C6 (hK:=fun _=>?_));try simp(disch:=first|omega|assumption|((repeat(first|exact A1|exact uH|apply A2|apply uT));first|done|fail)|(simp;first|done|omega|fail))[]))
 refine D8 S6 (fun w' _ hs => A2y w' bw _ v3 7 _ 64 1 (Or.inr rfl) (by omega) (by omega) (by omega) hs) (by (repeat' constructor)) ?_
 rintro v4 _ rfl
 (have zz:=trivial;repeat((first|clear zz|with_reducible first|refine A3 ?_|refine A5 fun _=>?_|refine A4 fun _=>?_|refine D0 fun _=>?_|refine C7 (hK:=fun _=>?_)|refine C9 (hK:=fun _=>?_)|refine D1 (hK:=fun _=>?_)|refine C8 (hK:=fun _=>?_)|refine C6 (hK:=fun _=>?_));try simp(disch:=first|omega|assumption|((repeat(first|exact A1|exact uH|apply A2|apply uT));first|done|fail)|(simp;first|done|omega|fail))[]))
 rename_i bl
 refine B0D (α := Value) 3 (fun i v => [.own 9 1 (.slice (some ⟨bl, 0, none⟩) 3 3) 3 [.string src, .string dst, .string rest], .pt bw (.cells #[.pointer (some ⟨bw, 0, none⟩), v] 189),
  .own 5 1 v (A9d rest i) (E1 (A9M src dst rest proto i)), .pt bh (.cells #[.string src, .string dst, .int .i64 proto] 122)]) (fun _ _ => True) v4 trivial ?_ (by simp [A9d, A9M, y1])
 rintro i v hi _ L hL
 obtain rfl | rfl | rfl | rfl : i = 0 ∨ i = 1 ∨ i = 2 ∨ i = 3 := by omega
 ·have hL' := fun v' => hL (by omega) v' trivial
  simp only [A9d, A9M, y1, List.append_assoc] at hL' ⊢
  (have zz:=trivial;repeat((first|clear zz|with_reducible first|refine A3 ?_|refine A5 fun _=>?_|refine A4 fun _=>?_|refine D0 fun _=>?_|refine C7 (hK:=fun _=>?_)|refine C9 (hK:=fun _=>?_)|refine D1 (hK:=fun _=>?_)|refine C8 (hK:=fun _=>?_)|refine C6 (hK:=fun _=>?_));try simp(disch:=first|omega|assumption|((repeat(first|exact A1|exact uH|apply A2|apply uT));first|done|fail)|(simp;first|done|omega|fail))[]))
  refine D8 J7 (fun w' _ hs => n5 w' bw _ _ v 8 _ src (Or.inr rfl) A0r (by omega) hs) (by (repeat' constructor)) ?_
  rintro v' _ rfl
  (have zz:=trivial;repeat((first|clear zz|with_reducible first|refine A3 ?_|refine A5 fun _=>?_|refine A4 fun _=>?_|refine D0 fun _=>?_|refine C7 (hK:=fun _=>?_)|refine C9 (hK:=fun _=>?_)|refine D1 (hK:=fun _=>?_)|refine C8 (hK:=fun _=>?_)|refine C6 (hK:=fun _=>?_));try simp(disch:=first|omega|assumption|((repeat(first|exact A1|exact uH|apply A2|apply uT));first|done|fail)|(simp;first|done|omega|fail))[c1]))
  exact Sels.tw (by (repeat' constructor)) (hL' v')
 ·have hL' := fun v' => hL (by omega) v' trivial
  simp only [A9d, A9M, y1, List.append_assoc] at hL' ⊢
  (have zz:=trivial;repeat((first|clear zz|with_reducible first|refine A3 ?_|refine A5 fun _=>?_|refine A4 fun _=>?_|refine D0 fun _=>?_|refine C7 (hK:=fun _=>?_)|refine C9 (hK:=fun _=>?_)|refine D1 (hK:=fun _=>?_)|refine C8 (hK:=fun _=>?_)|refine C6 (hK:=fun _=>?_));try simp(disch:=first|omega|assumption|((repeat(first|exact A1|exact uH|apply A2|apply uT));first|done|fail)|(simp;first|done|omega|fail))[]))
  refine D8 J7 (fun w' _ hs => n5 w' bw _ _ v 24 _ dst (Or.inr rfl) A0r (by omega) hs) (by (repeat' constructor)) ?_
  rintro v' _ rfl
  (have zz:=trivial;repeat((first|clear zz|with_reducible first|refine A3 ?_|refine A5 fun _=>?_|refine A4 fun _=>?_|refine D0 fun _=>?_|refine C7 (hK:=fun _=>?_)|refine C9 (hK:=fun _=>?_)|refine D1 (hK:=fun _=>?_)|refine C8 (hK:=fun _=>?_)|refine C6 (hK:=fun _=>?_));try simp(disch:=first|omega|assumption|((repeat(first|exact A1|exact uH|apply A2|apply uT));first|done|fail)|(simp;first|done|omega|fail))[c2]))
  exact Sels.tw (by (repeat' constructor)) (hL' v')
 ·have hL' := fun v' => hL (by omega) v' trivial
  simp only [A9d, A9M, A0G, y1, List.append_assoc] at hL' ⊢
  (have zz:=trivial;repeat((first|clear zz|with_reducible first|refine A3 ?_|refine A5 fun _=>?_|refine A4 fun _=>?_|refine D0 fun _=>?_|refine C7 (hK:=fun _=>?_)|refine C9 (hK:=fun _=>?_)|refine D1 (hK:=fun _=>?_)|refine C8 (hK:=fun _=>?_)|refine C6 (hK:=fun _=>?_));try simp(disch:=first|omega|assumption|((repeat(first|exact A1|exact uH|apply A2|apply uT));first|done|fail)|(simp;first|done|omega|fail))[]))
  refine D8 J7 (fun w' _ hs => n5 w' bw _ _ v 40 _ rest (Or.inr rfl) A0r (by omega) hs) (by (repeat' constructor)) ?_
  rintro v' _ rfl
  (have zz:=trivial;repeat((first|clear zz|with_reducible first|refine A3 ?_|refine A5 fun _=>?_|refine A4 fun _=>?_|refine D0 fun _=>?_|refine C7 (hK:=fun _=>?_)|refine C9 (hK:=fun _=>?_)|refine D1 (hK:=fun _=>?_)|refine C8 (hK:=fun _=>?_)|refine C6 (hK:=fun _=>?_));try simp(disch:=first|omega|assumption|((repeat(first|exact A1|exact uH|apply A2|apply uT));first|done|fail)|(simp;first|done|omega|fail))[]))
  exact Sels.tw (by (repeat' constructor)) (hL' v')
 ·simp only [A9d, A9M]
  (have zz:=trivial;repeat((first|clear zz|with_reducible first|refine A3 ?_|refine A5 fun _=>?_|refine A4 fun _=>?_|refine D0 fun _=>?_|refine C7 (hK:=fun _=>?_)|refine C9 (hK:=fun _=>?_)|refine D1 (hK:=fun _=>?_)|refine C8 (hK:=fun _=>?_)|refine C6 (hK:=fun _=>?_));try simp(disch:=first|omega|assumption|((repeat(first|exact A1|exact uH|apply A2|apply uT));first|done|fail)|(simp;first|done|omega|fail))[]))
  have hz : (A0G src dst rest proto).size = 40 + rest.size := by simp [A0G, c1, c2]
  refine D8 A1V (fun w' _ hs => B6r w' bw _ _ v (40 + rest.size) (E1 (A0G src dst rest proto)) (A0G src dst rest proto) hz.symm rfl (by omega) (by omega) hs) (by (repeat' constructor)) ?_
  rintro _ _ rfl
  (have zz:=trivial;repeat((first|clear zz|with_reducible first|refine A3 ?_|refine A5 fun _=>?_|refine A4 fun _=>?_|refine D0 fun _=>?_|refine C7 (hK:=fun _=>?_)|refine C9 (hK:=fun _=>?_)|refine D1 (hK:=fun _=>?_)|refine C8 (hK:=fun _=>?_)|refine C6 (hK:=fun _=>?_));try simp(disch:=first|omega|assumption|((repeat(first|exact A1|exact uH|apply A2|apply uT));first|done|fail)|(simp;first|done|omega|fail))[]))
  exact B0 (by simp [A1T, c1, c2, c3, c4, c5])
end Go.Proofs.YtpbmephflllolaaGreat
namespace Go.Proofs.YtpbmephflllolaaGreat
open Go
theorem B1W {κ : Bool} {X : Nat → Prop} {S : List Nat} {w0 : World} {H : List Res} {K : Value → WP} {g u : Value} {name : String} {args : List Value} {f : FuncId} {args' : Array Value} (hr : ∀ w, (callMethod g name args.toArray).run PR w = .ok (.enter f args') w)
  (hf : ∀ w, LW κ S w0 H w → Fn PR B5 f args' w (fun v w' => v = u ∧ C4 [] w w')) (hK : TW κ S w0 H (K u)) : TW κ S w0 H (inv PR X g name args K) := fun w hw =>
 ⟨f, args', hr w, (hf w hw).use fun v w' ⟨h1, h2⟩ hsk => by subst h1; exact hK w' (hw.ext (h2.ks fun _ => hsk))⟩
theorem B43 {P : Program} {t : TypeId} {n m : Nat} {z : Value} {ms : Array (String × TypeId)} {e : Nat} (h : TI P t (.interface ms) n m z) : EqV P (e + 1) t .nilIface .nilIface true := by
 intro w
 simp only [Op.equalIn, Sem.run_bind, h.run_und, Result.andThen_ok]; rfl
theorem B4f {P : Program} {t : TypeId} {n m : Nat} {z : Value} {ms : Array (String × TypeId)} {e : Nat} (h : TI P t (.interface ms) n m z) (u : TypeId) (v : Value) : EqV P (e + 1) t (.iface u v) .nilIface false := by
 intro w
 simp only [Op.equalIn, Sem.run_bind, h.run_und, Result.andThen_ok]; rfl
theorem B34 {t : TypeId} {op : BinOp} {x y : Operand} {g : Value} {r : Bool} {K : Value → WP} (hg : (eqGuard .eql t x y g .nilIface) = pure ()) (he : EqV PR 10000 t g .nilIface r) : A6 PR (N4 .eql t x y g .nilIface) K = K (.bool r) := by
 funext w
 refine S5 ?_ K
 have := he w
 simp [N4, hg, binOp, Op.equal, Op.maxDepth, this]
theorem A0m {x : Operand} {c : Value} {K : Value → WP} : A6 PR (N4 .eql 180 x (.const c) .nilIface .nilIface) K = K (.bool true) := B34 (op := .eql) (by cases x <;> rfl) (B43 (e := 9999) B1b)
theorem A0c {x y : Operand} {K : Value → WP} {u : TypeId} {v : Value} : A6 PR (N4 .eql 180 x y (.iface u v) .nilIface) K = K (.bool false) := B34 (op := .eql) (by rfl) (B4f (e := 9999) B1b u v)
abbrev B21 : Value := .iface 246 (.agg #[])
abbrev B2E : Value := .iface 247 (.agg #[])
def j4 : List (Int × Value) := [(6, B21), (17, B2E)]
theorem B0N (w : World) : Fn PR B5 92 #[] w (Rn [] w (fun r v => v = .map (some r)) fun r => [.pt r (k4 (Value.int .i64) j4)]) := by
 refine A9e (TW.go (κ := false) (S := []) ?_)
 unfold A4T
 refine B4V (Value.int .i64) fun r => ?_
 (have zz:=trivial;repeat((first|clear zz|with_reducible first|refine A3 ?_|refine A5 fun _=>?_|refine A4 fun _=>?_);try simp(disch:=first|omega|assumption|((repeat(first|exact A1|exact uH|apply A2|apply uT));first|done|fail)|(simp;first|done|omega|fail))[]))
 refine A7j B1c (KeyT.int H9) (k := 6) (by (repeat constructor)) ?_
 (have zz:=trivial;repeat((first|clear zz|with_reducible first|refine A3 ?_|refine A5 fun _=>?_|refine A4 fun _=>?_);try simp(disch:=first|omega|assumption|((repeat(first|exact A1|exact uH|apply A2|apply uT));first|done|fail)|(simp;first|done|omega|fail))[]))
 refine A7j B1c (KeyT.int H9) (k := 17) (by (repeat constructor)) ?_
 exact W9 r rfl (by simp [g8, j4])
def A4V (s : ByteArray) : Nat × Nat := if s.size < 20 then (0, 2) else if B6 s 12 / 16 * 4 < 20 ∨ s.size < B6 s 12 / 16 * 4 then (0, 8) else (B6 s 13, 0)
def A6K (s : ByteArray) : Nat × Nat := if s.size < 8 then (0, 2) else if gv s 4 2 < 8 ∨ s.size < gv s 4 2 then (0, 4) else (0, 0)
theorem B3H (w : World) (s : ByteArray) (hs : s.size < 2 ^ 40) : Fn PR B5 265 #[.agg #[], .string s] w (fun v w' => v = .tuple #[.int .i64 (A4V s).1, .int .i64 (A4V s).2] ∧ C4 [] w w') := by
 refine Fn.pure (A7K (TW.go (κ := false) (S := []) ?_))
 unfold A1b
 by_cases c1 : s.size < 20
 ·have c1' : (s.size : Int) < 20 := by omega
  (have zz:=trivial;repeat((first|clear zz|with_reducible first|refine A3 ?_|refine A5 fun _=>?_|refine A4 fun _=>?_);try simp(disch:=first|omega|assumption|((repeat(first|exact A1|exact uH|apply A2|apply uT));first|done|fail)|(simp;first|done|omega|fail))[c1'])); exact B0 (by simp [A4V, c1])
 have c1' : ¬ (s.size : Int) < 20 := by omega
 obtain ⟨by0, hb0, hb1⟩ := s9 (s := s) (i := 12) (by omega)
 obtain ⟨by1, hb2, hb3⟩ := s9 (s := s) (i := 13) (by omega)
 have hb0' : s[(12 : Int).toNat]? = some by0 := hb0
 have hb2' : s[(13 : Int).toNat]? = some by1 := hb2
 have hl0 := v7 s 12
 have hl1 := v7 s 13
 have e1 : ((by0.toNat : Nat) : Int).fdiv (2 ^ min 4 IntKind.u8.bits) = (B6 s 12 / 16 : Nat) := by rw [show (2 : Int) ^ min 4 IntKind.u8.bits = 16 from rfl, Int.fdiv_eq_ediv_of_nonneg _ (by omega), hb1]; omega
 have e2 : IntKind.i64.wrap (by1.toNat : Nat) = (B6 s 13 : Nat) := by rw [y8 (by omega) (by omega), hb3]
 have l1 : ∀ n : Nat, ((n * 4 : Nat) : Int) = (n : Int) * 4 := by omega
 by_cases c2 : B6 s 12 / 16 * 4 < 20
 ·have c2' : ((B6 s 12 : Nat) : Int) / 16 * 4 < 20 := by omega
  (have zz:=trivial;repeat((first|clear zz|with_reducible first|refine A3 ?_|refine A5 fun _=>?_|refine A4 fun _=>?_);try simp(disch:=first|omega|assumption|((repeat(first|exact A1|exact uH|apply A2|apply uT));first|done|fail)|(simp;first|done|omega|fail))[c1', Y1]))
  rw [e1]
  (have zz:=trivial;repeat((first|clear zz|with_reducible first|refine A3 ?_|refine A5 fun _=>?_|refine A4 fun _=>?_);try simp(disch:=first|omega|assumption|((repeat(first|exact A1|exact uH|apply A2|apply uT));first|done|fail)|(simp;first|done|omega|fail))[c2']))
  exact B0 (by simp [A4V, c1, c2])
 have c2' : ¬ ((B6 s 12 : Nat) : Int) / 16 * 4 < 20 := by omega
 by_cases c3 : s.size < B6 s 12 / 16 * 4
 ·have c3' : (s.size : Int) < ((B6 s 12 : Nat) : Int) / 16 * 4 := by omega
  (have zz:=trivial;repeat((first|clear zz|with_reducible first|refine A3 ?_|refine A5 fun _=>?_|refine A4 fun _=>?_);try simp(disch:=first|omega|assumption|((repeat(first|exact A1|exact uH|apply A2|apply uT));first|done|fail)|(simp;first|done|omega|fail))[c1', Y1]))
  rw [e1]
  (have zz:=trivial;repeat((first|clear zz|with_reducible first|refine A3 ?_|refine A5 fun _=>?_|refine A4 fun _=>?_);try simp(disch:=first|omega|assumption|((repeat(first|exact A1|exact uH|apply A2|apply uT));first|done|fail)|(simp;first|done|omega|fail))[c2', c3']))
  exact B0 (by simp [A4V, c1, c2, c3])
 have c3' : ¬ (s.size : Int) < ((B6 s 12 : Nat) : Int) / 16 * 4 := by omega
 (have zz:=trivial;repeat((first|clear zz|with_reducible first|refine A3 ?_|refine A5 fun _=>?_|refine A4 fun _=>?_);try simp(disch:=first|omega|assumption|((repeat(first|exact A1|exact uH|apply A2|apply uT));first|done|fail)|(simp;first|done|omega|fail))[c1', Y1]))
 rw [e1]
 (have zz:=trivial;repeat((first|clear zz|with_reducible first|refine A3 ?_|refine A5 fun _=>?_|refine A4 fun _=>?_);try simp(disch:=first|omega|assumption|((repeat(first|exact A1|exact uH|apply A2|apply uT));first|done|fail)|(simp;first|done|omega|fail))[c2', c3', Y1, e2]))
 exact B0 (by simp [A4V, c1, c2, c3, hb3])
def z1 : ByteArray := ByteArray.mk #[0]
def A0g (f : Int) : ByteArray × Nat := if f < 0 ∨ 255 < f then (P4, 1) else (A0p z1 8 ++ ByteArray.mk #[80] ++ B7 f 1 ++ A0p z1 6, 0)
def A3g (f : Int) : ByteArray × Nat := if f ≠ 0 then (P4, 1) else (ByteArray.mk #[0, 8, 0, 0], 0)
theorem C3w (w : World) : Fn PR B5 267 #[.string (ByteArray.mk #[0]), .int .i64 8] w (fun v w' => v = .string (A0p z1 8) ∧ C4 [] w w') := B0l w z1 8 (by omega) (by decide)
theorem C24 (w : World) : Fn PR B5 267 #[.string (ByteArray.mk #[0]), .int .i64 6] w (fun v w' => v = .string (A0p z1 6) ∧ C4 [] w w') := B0l w z1 6 (by omega) (by decide)
theorem Y5 (c : Nat) : (A0p z1 c).size = c := by
 have : ∀ (l : List UInt8) (n : Nat), (Lib.repeatL l n).length = n * l.length := by
  intro l n
  induction n with
  | zero => simp [Lib.repeatL]
  | succ n ih => simp [Lib.repeatL, ih, Nat.add_mul, Nat.add_comm]
 show (Lib.repeatL z1.data.toList c).toArray.size = c
 rw [List.size_toArray, this]; simp [z1]
theorem B6K (w : World) (f : Int) : Fn PR B5 266 #[.agg #[], .int .i64 f] w (fun v w' => v = .tuple #[.string (A0g f).1, .int .i64 (A0g f).2] ∧ C4 [] w w') := by
 refine Fn.pure (A8f (TW.go (κ := false) (S := []) ?_))
 unfold A26
 by_cases c1 : f < 0
 ·(have zz:=trivial;repeat((first|clear zz|with_reducible first|refine A3 ?_|refine A5 fun _=>?_|refine A4 fun _=>?_);try simp(disch:=first|omega|assumption|((repeat(first|exact A1|exact uH|apply A2|apply uT));first|done|fail)|(simp;first|done|omega|fail))[c1])); exact B0 (by simp [A0g, c1])
 by_cases c2 : 255 < f
 ·(have zz:=trivial;repeat((first|clear zz|with_reducible first|refine A3 ?_|refine A5 fun _=>?_|refine A4 fun _=>?_);try simp(disch:=first|omega|assumption|((repeat(first|exact A1|exact uH|apply A2|apply uT));first|done|fail)|(simp;first|done|omega|fail))[c1, c2])); exact B0 (by simp [A0g, c2])
 (have zz:=trivial;repeat((first|clear zz|with_reducible first|refine A3 ?_|refine A5 fun _=>?_|refine A4 fun _=>?_);try simp(disch:=first|omega|assumption|((repeat(first|exact A1|exact uH|apply A2|apply uT));first|done|fail)|(simp;first|done|omega|fail))[c1, c2]))
 have h8 := Y5 8
 have h6 := Y5 6
 refine D2 A06 (fun w' hw' => C3w w') ?_
 (have zz:=trivial;repeat((first|clear zz|with_reducible first|refine A3 ?_|refine A5 fun _=>?_|refine A4 fun _=>?_);try simp(disch:=first|omega|assumption|((repeat(first|exact A1|exact uH|apply A2|apply uT));first|done|fail)|(simp;first|done|omega|fail))[c1, c2, T7]))
 refine D2 F6 (fun w' hw' => V8 w' _ _) ?_
 (have zz:=trivial;repeat((first|clear zz|with_reducible first|refine A3 ?_|refine A5 fun _=>?_|refine A4 fun _=>?_);try simp(disch:=first|omega|assumption|((repeat(first|exact A1|exact uH|apply A2|apply uT));first|done|fail)|(simp;first|done|omega|fail))[c1, c2, T7]))
 refine D2 A06 (fun w' hw' => C24 w') ?_
 (have zz:=trivial;repeat((first|clear zz|with_reducible first|refine A3 ?_|refine A5 fun _=>?_|refine A4 fun _=>?_);try simp(disch:=first|omega|assumption|((repeat(first|exact A1|exact uH|apply A2|apply uT));first|done|fail)|(simp;first|done|omega|fail))[c1, c2, T7]))
 exact B0 (by simp [A0g, c1, c2])
theorem B3U (w : World) (s : ByteArray) (hs : s.size < 2 ^ 40) : Fn PR B5 277 #[.agg #[], .string s] w (fun v w' => v = .tuple #[.int .i64 (A6K s).1, .int .i64 (A6K s).2] ∧ C4 [] w w') := by
 refine Fn.pure (A7A (TW.go (κ := false) (S := []) ?_))
 unfold A1c
 by_cases c1 : s.size < 8
 ·have c1' : (s.size : Int) < 8 := by omega
  (have zz:=trivial;repeat((first|clear zz|with_reducible first|refine A3 ?_|refine A5 fun _=>?_|refine A4 fun _=>?_);try simp(disch:=first|omega|assumption|((repeat(first|exact A1|exact uH|apply A2|apply uT));first|done|fail)|(simp;first|done|omega|fail))[c1'])); exact B0 (by simp [A6K, c1])
 have c1' : ¬ (s.size : Int) < 8 := by omega
 (have zz:=trivial;repeat((first|clear zz|with_reducible first|refine A3 ?_|refine A5 fun _=>?_|refine A4 fun _=>?_);try simp(disch:=first|omega|assumption|((repeat(first|exact A1|exact uH|apply A2|apply uT));first|done|fail)|(simp;first|done|omega|fail))[c1']))
 refine D2 Q0 (fun w' _ => A05 w' s (by omega) _ _) ?_
 have e1 := A3u s 4 2 (by omega) (by omega)
 have e1' : A3Y s 4 2 = gv s 4 2 := e1
 have hg := A01 s 4
 by_cases c2 : gv s 4 2 < 8
 ·have c2' : ((gv s 4 2 : Nat) : Int) < 8 := by omega
  (have zz:=trivial;repeat((first|clear zz|with_reducible first|refine A3 ?_|refine A5 fun _=>?_|refine A4 fun _=>?_);try simp(disch:=first|omega|assumption|((repeat(first|exact A1|exact uH|apply A2|apply uT));first|done|fail)|(simp;first|done|omega|fail))[e1', c2, c2']))
  exact B0 (by simp [A6K, c1, c2])
 have c2' : ¬ ((gv s 4 2 : Nat) : Int) < 8 := by omega
 by_cases c3 : s.size < gv s 4 2
 ·have c3' : ((s.size : Nat) : Int) < gv s 4 2 := by omega
  (have zz:=trivial;repeat((first|clear zz|with_reducible first|refine A3 ?_|refine A5 fun _=>?_|refine A4 fun _=>?_);try simp(disch:=first|omega|assumption|((repeat(first|exact A1|exact uH|apply A2|apply uT));first|done|fail)|(simp;first|done|omega|fail))[e1', c2, c2', c3, c3']))
  exact B0 (by simp [A6K, c1, c2, c3])
 have c3' : ¬ ((s.size : Nat) : Int) < gv s 4 2 := by omega
 (have zz:=trivial;repeat((first|clear zz|with_reducible first|refine A3 ?_|refine A5 fun _=>?_|refine A4 fun _=>?_);try simp(disch:=first|omega|assumption|((repeat(first|exact A1|exact uH|apply A2|apply uT));first|done|fail)|(simp;first|done|omega|fail))[e1', c2, c2', c3, c3']))
 exact B0 (by simp [A6K, c1, c2, c3])
theorem B6F (w : World) (f : Int) : Fn PR B5 278 #[.agg #[], .int .i64 f] w (fun v w' => v = .tuple #[.string (A3g f).1, .int .i64 (A3g f).2] ∧ C4 [] w w') := by
 refine Fn.pure (A8T (TW.go (κ := false) (S := []) ?_))
 unfold A21
 by_cases c1 : f = 0
 ·(have zz:=trivial;repeat((first|clear zz|with_reducible first|refine A3 ?_|refine A5 fun _=>?_|refine A4 fun _=>?_);try simp(disch:=first|omega|assumption|((repeat(first|exact A1|exact uH|apply A2|apply uT));first|done|fail)|(simp;first|done|omega|fail))[c1])); exact B0 (by simp [A3g, c1])
 ·(have zz:=trivial;repeat((first|clear zz|with_reducible first|refine A3 ?_|refine A5 fun _=>?_|refine A4 fun _=>?_);try simp(disch:=first|omega|assumption|((repeat(first|exact A1|exact uH|apply A2|apply uT));first|done|fail)|(simp;first|done|omega|fail))[c1])); exact B0 (by simp [A3g, c1])
def r4 (number : Int) (s : ByteArray) : Nat × Nat := if number = 6 then A4V s else if number = 17 then A6K s else (0, 7)
def U5 (number : Int) (s : ByteArray) : Nat × Nat × Nat × Nat := if (r4 number s).2 ≠ 0 then (0, 0, 0, (r4 number s).2) else (gv s 0 2, gv s 2 2, (r4 number s).1, 0)
def U5.val (x : Nat × Nat × Nat × Nat) : Value := .tuple #[.agg #[.int .i64 x.1, .int .i64 x.2.1, .int .i64 x.2.2.1], .int .i64 x.2.2.2]
theorem A8V (w : World) (s : ByteArray) : (callMethod B21 "gangplank/port.parse" [Value.string s].toArray).run PR w = .ok (.enter 265 #[.agg #[], .string s]) w := by kernel_rfl
theorem A9J (w : World) (s : ByteArray) : (callMethod B2E "gangplank/port.parse" [Value.string s].toArray).run PR w = .ok (.enter 277 #[.agg #[], .string s]) w := by kernel_rfl
theorem B05 (w : World) (f : Int) : (callMethod B21 "gangplank/port.put" [Value.int .i64 f].toArray).run PR w = .ok (.enter 266 #[.agg #[], .int .i64 f]) w := by kernel_rfl
theorem B1C (w : World) (f : Int) : (callMethod B2E "gangplank/port.put" [Value.int .i64 f].toArray).run PR w = .ok (.enter 278 #[.agg #[], .int .i64 f]) w := by kernel_rfl
theorem B2G (w : World) (s : ByteArray) (hs : s.size < 2 ^ 40) (number : Int) : Fn PR B5 101 #[.int .i64 number, .string s] w (fun v w' => v = U5.val (U5 number s) ∧ C4 [] w w') := by
 refine Fn.pure (B0w (TW.go (κ := false) (S := []) ?_))
 unfold A5M
 (have zz:=trivial;repeat((first|clear zz|with_reducible first|refine A3 ?_|refine A5 fun _=>?_|refine A4 fun _=>?_);try simp(disch:=first|omega|assumption|((repeat(first|exact A1|exact uH|apply A2|apply uT));first|done|fail)|(simp;first|done|omega|fail))[]))
 refine N7 A2x (fun w' _ => B0N w') ?_
 rintro r v rfl
 (have zz:=trivial;repeat((first|clear zz|with_reducible first|refine A3 ?_|refine A5 fun _=>?_|refine A4 fun _=>?_);try simp(disch:=first|omega|assumption|((repeat(first|exact A1|exact uH|apply A2|apply uT));first|done|fail)|(simp;first|done|omega|fail))[]))
 rw [A79 B1c B1b (KeyT.int H9) (l := j4) (by (repeat constructor))]
 have S7 : ∀ {f1 : Nat} {b : Nat}, True := fun {_ _} => trivial
 have hg0 := A01 s 0
 have hg2 := A01 s 2
 have e1 : A3Y s 0 2 = gv s 0 2 := A3u s 0 2 (by omega) (by omega)
 have e2 : A3Y s 2 2 = gv s 2 2 := A3u s 2 2 (by omega) (by omega)
 by_cases c1 : number = 6
 ·rw [show (g7 number j4).getD .nilIface = B21 by subst c1; rfl]
  (have zz:=trivial;repeat((first|clear zz|with_reducible first|refine A3 ?_|refine A5 fun _=>?_|refine A4 fun _=>?_);try simp(disch:=first|omega|assumption|((repeat(first|exact A1|exact uH|apply A2|apply uT));first|done|fail)|(simp;first|done|omega|fail))[A0m, A0c]))
  refine B1W (fun w => A8V w s) (fun w' hw' => B3H w' s hs) ?_
  by_cases c2 : (A4V s).2 = 0
  ·(have zz:=trivial;repeat((first|clear zz|with_reducible first|refine A3 ?_|refine A5 fun _=>?_|refine A4 fun _=>?_);try simp(disch:=first|omega|assumption|((repeat(first|exact A1|exact uH|apply A2|apply uT));first|done|fail)|(simp;first|done|omega|fail))[c2]))
   refine D2 Q0 (fun w' _ => A05 w' s (by omega) _ _) ?_
   (have zz:=trivial;repeat((first|clear zz|with_reducible first|refine A3 ?_|refine A5 fun _=>?_|refine A4 fun _=>?_);try simp(disch:=first|omega|assumption|((repeat(first|exact A1|exact uH|apply A2|apply uT));first|done|fail)|(simp;first|done|omega|fail))[e1]))
   refine D2 Q0 (fun w' _ => A05 w' s (by omega) _ _) ?_
   (have zz:=trivial;repeat((first|clear zz|with_reducible first|refine A3 ?_|refine A5 fun _=>?_|refine A4 fun _=>?_);try simp(disch:=first|omega|assumption|((repeat(first|exact A1|exact uH|apply A2|apply uT));first|done|fail)|(simp;first|done|omega|fail))[e1, e2]))
   exact B0 (by simp [U5, r4, U5.val, c1, c2])
  ·(have zz:=trivial;repeat((first|clear zz|with_reducible first|refine A3 ?_|refine A5 fun _=>?_|refine A4 fun _=>?_);try simp(disch:=first|omega|assumption|((repeat(first|exact A1|exact uH|apply A2|apply uT));first|done|fail)|(simp;first|done|omega|fail))[c2]))
   exact B0 (by simp [U5, r4, U5.val, c1, c2])
 by_cases c1' : number = 17
 ·rw [show (g7 number j4).getD .nilIface = B2E by subst c1'; rfl]
  (have zz:=trivial;repeat((first|clear zz|with_reducible first|refine A3 ?_|refine A5 fun _=>?_|refine A4 fun _=>?_);try simp(disch:=first|omega|assumption|((repeat(first|exact A1|exact uH|apply A2|apply uT));first|done|fail)|(simp;first|done|omega|fail))[A0m, A0c]))
  refine B1W (fun w => A9J w s) (fun w' hw' => B3U w' s hs) ?_
  by_cases c2 : (A6K s).2 = 0
  ·(have zz:=trivial;repeat((first|clear zz|with_reducible first|refine A3 ?_|refine A5 fun _=>?_|refine A4 fun _=>?_);try simp(disch:=first|omega|assumption|((repeat(first|exact A1|exact uH|apply A2|apply uT));first|done|fail)|(simp;first|done|omega|fail))[c2]))
   refine D2 Q0 (fun w' _ => A05 w' s (by omega) _ _) ?_
   (have zz:=trivial;repeat((first|clear zz|with_reducible first|refine A3 ?_|refine A5 fun _=>?_|refine A4 fun _=>?_);try simp(disch:=first|omega|assumption|((repeat(first|exact A1|exact uH|apply A2|apply uT));first|done|fail)|(simp;first|done|omega|fail))[e1]))
   refine D2 Q0 (fun w' _ => A05 w' s (by omega) _ _) ?_
   (have zz:=trivial;repeat((first|clear zz|with_reducible first|refine A3 ?_|refine A5 fun _=>?_|refine A4 fun _=>?_);try simp(disch:=first|omega|assumption|((repeat(first|exact A1|exact uH|apply A2|apply uT));first|done|fail)|(simp;first|done|omega|fail))[e1, e2]))
   exact B0 (by simp [U5, r4, U5.val, c1', c2])
  ·(have zz:=trivial;repeat((first|clear zz|with_reducible first|refine A3 ?_|refine A5 fun _=>?_|refine A4 fun _=>?_);try simp(disch:=first|omega|assumption|((repeat(first|exact A1|exact uH|apply A2|apply uT));first|done|fail)|(simp;first|done|omega|fail))[c2]))
   exact B0 (by simp [U5, r4, U5.val, c1', c2])
 ·rw [show (g7 number j4).getD .nilIface = .nilIface by simp [g7, j4, c1, c1']]
  (have zz:=trivial;repeat((first|clear zz|with_reducible first|refine A3 ?_|refine A5 fun _=>?_|refine A4 fun _=>?_);try simp(disch:=first|omega|assumption|((repeat(first|exact A1|exact uH|apply A2|apply uT));first|done|fail)|(simp;first|done|omega|fail))[A0m, A0c]))
  exact B0 (by simp [U5, r4, U5.val, c1, c1'])
theorem n7 (s : ByteArray) : s ++ P4 = s := by apply ByteArray.ext; rw [ByteArray.data_append]; simp
theorem m4 (s : ByteArray) : P4 ++ s = s := by apply ByteArray.ext; rw [ByteArray.data_append]; simp
def S9 (x : Int) : ByteArray := if 0 ≤ x ∧ x ≤ 65535 then B7 x 2 else P4
def K3 (x y : Int) : Bool := decide (0 ≤ x ∧ x ≤ 65535 ∧ 0 ≤ y ∧ y ≤ 65535)
theorem B2u (w : World) (x y z : Int) : Fn PR B5 93 #[.agg #[.int .i64 x, .int .i64 y, .int .i64 z]] w (fun v w' => v = .tuple #[.string (S9 x ++ S9 y), .bool (K3 x y)] ∧ C4 [] w w') := by
 refine Fn.pure (B1Q (TW.go (κ := false) (S := []) ?_))
 unfold A5P
 by_cases c1 : 0 ≤ x ∧ x ≤ 65535
 ·have c1' := c1.1; have c1'' := c1.2
  (have zz:=trivial;repeat((first|clear zz|with_reducible first|refine A3 ?_|refine A5 fun _=>?_|refine A4 fun _=>?_);try simp(disch:=first|omega|assumption|((repeat(first|exact A1|exact uH|apply A2|apply uT));first|done|fail)|(simp;first|done|omega|fail))[c1', c1'']))
  refine D2 F6 (fun w' hw' => V8 w' _ _) ?_
  by_cases c2 : 0 ≤ y ∧ y ≤ 65535
  ·have c2' := c2.1; have c2'' := c2.2
   (have zz:=trivial;repeat((first|clear zz|with_reducible first|refine A3 ?_|refine A5 fun _=>?_|refine A4 fun _=>?_);try simp(disch:=first|omega|assumption|((repeat(first|exact A1|exact uH|apply A2|apply uT));first|done|fail)|(simp;first|done|omega|fail))[c1', c1'', c2', c2'']))
   refine D2 F6 (fun w' hw' => V8 w' _ _) ?_
   (have zz:=trivial;repeat((first|clear zz|with_reducible first|refine A3 ?_|refine A5 fun _=>?_|refine A4 fun _=>?_);try simp(disch:=first|omega|assumption|((repeat(first|exact A1|exact uH|apply A2|apply uT));first|done|fail)|(simp;first|done|omega|fail))[c1', c1'', c2', c2'', T7]))
   exact B0 (by simp [n7, m4, S9, K3, c1, c2])
  ·by_cases c3 : 0 ≤ y
   ·have c4 : ¬ y ≤ 65535 := fun h => c2 ⟨c3, h⟩
    (have zz:=trivial;repeat((first|clear zz|with_reducible first|refine A3 ?_|refine A5 fun _=>?_|refine A4 fun _=>?_);try simp(disch:=first|omega|assumption|((repeat(first|exact A1|exact uH|apply A2|apply uT));first|done|fail)|(simp;first|done|omega|fail))[c1', c1'', c3, c4]))
    exact B0 (by simp [n7, m4, S9, K3, c1, c3, c4])
   ·(have zz:=trivial;repeat((first|clear zz|with_reducible first|refine A3 ?_|refine A5 fun _=>?_|refine A4 fun _=>?_);try simp(disch:=first|omega|assumption|((repeat(first|exact A1|exact uH|apply A2|apply uT));first|done|fail)|(simp;first|done|omega|fail))[c1', c1'', c3]))
    exact B0 (by simp [n7, m4, S9, K3, c1, c3])
 ·have hn : S9 x = P4 := by simp [S9, c1]
  have ho : K3 x y = false := by simp only [K3, decide_eq_false_iff_not]; exact fun h => c1 ⟨h.1, h.2.1⟩
  rw [hn, ho]
  have key : ∀ bx, TW false [] w [.pt bx (.cells #[.int .i64 x, .int .i64 y, .int .i64 z] 119)] = TW false [] w [.pt bx (.cells #[.int .i64 x, .int .i64 y, .int .i64 z] 119)] := fun _ => rfl
  by_cases c0 : 0 ≤ x
  ·have c0' : ¬ x ≤ 65535 := fun h => c1 ⟨c0, h⟩
   by_cases c2 : 0 ≤ y ∧ y ≤ 65535
   ·have c2' := c2.1; have c2'' := c2.2
    (have zz:=trivial;repeat((first|clear zz|with_reducible first|refine A3 ?_|refine A5 fun _=>?_|refine A4 fun _=>?_);try simp(disch:=first|omega|assumption|((repeat(first|exact A1|exact uH|apply A2|apply uT));first|done|fail)|(simp;first|done|omega|fail))[c0, c0', c2', c2'']))
    refine D2 F6 (fun w' hw' => V8 w' _ _) ?_
    (have zz:=trivial;repeat((first|clear zz|with_reducible first|refine A3 ?_|refine A5 fun _=>?_|refine A4 fun _=>?_);try simp(disch:=first|omega|assumption|((repeat(first|exact A1|exact uH|apply A2|apply uT));first|done|fail)|(simp;first|done|omega|fail))[c0, c0', c2', c2'', T7]))
    exact B0 (by simp [n7, m4, S9, c2])
   ·by_cases c3 : 0 ≤ y
    ·have c4 : ¬ y ≤ 65535 := fun h => c2 ⟨c3, h⟩
     (have zz:=trivial;repeat((first|clear zz|with_reducible first|refine A3 ?_|refine A5 fun _=>?_|refine A4 fun _=>?_);try simp(disch:=first|omega|assumption|((repeat(first|exact A1|exact uH|apply A2|apply uT));first|done|fail)|(simp;first|done|omega|fail))[c0, c0', c3, c4]))
     exact B0 (by simp [n7, m4, S9, c3, c4])
    ·(have zz:=trivial;repeat((first|clear zz|with_reducible first|refine A3 ?_|refine A5 fun _=>?_|refine A4 fun _=>?_);try simp(disch:=first|omega|assumption|((repeat(first|exact A1|exact uH|apply A2|apply uT));first|done|fail)|(simp;first|done|omega|fail))[c0, c0', c3]))
     exact B0 (by simp [n7, m4, S9, c3])
  ·by_cases c2 : 0 ≤ y ∧ y ≤ 65535
   ·have c2' := c2.1; have c2'' := c2.2
    (have zz:=trivial;repeat((first|clear zz|with_reducible first|refine A3 ?_|refine A5 fun _=>?_|refine A4 fun _=>?_);try simp(disch:=first|omega|assumption|((repeat(first|exact A1|exact uH|apply A2|apply uT));first|done|fail)|(simp;first|done|omega|fail))[c0, c2', c2'']))
    refine D2 F6 (fun w' hw' => V8 w' _ _) ?_
    (have zz:=trivial;repeat((first|clear zz|with_reducible first|refine A3 ?_|refine A5 fun _=>?_|refine A4 fun _=>?_);try simp(disch:=first|omega|assumption|((repeat(first|exact A1|exact uH|apply A2|apply uT));first|done|fail)|(simp;first|done|omega|fail))[c0, c2', c2'', T7]))
    exact B0 (by simp [n7, m4, S9, c2])
   ·by_cases c3 : 0 ≤ y
    ·have c4 : ¬ y ≤ 65535 := fun h => c2 ⟨c3, h⟩
     (have zz:=trivial;repeat((first|clear zz|with_reducible first|refine A3 ?_|refine A5 fun _=>?_|refine A4 fun _=>?_);try simp(disch:=first|omega|assumption|((repeat(first|exact A1|exact uH|apply A2|apply uT));first|done|fail)|(simp;first|done|omega|fail))[c0, c3, c4]))
     exact B0 (by simp [n7, m4, S9, c3, c4])
    ·(have zz:=trivial;repeat((first|clear zz|with_reducible first|refine A3 ?_|refine A5 fun _=>?_|refine A4 fun _=>?_);try simp(disch:=first|omega|assumption|((repeat(first|exact A1|exact uH|apply A2|apply uT));first|done|fail)|(simp;first|done|omega|fail))[c0, c3]))
     exact B0 (by simp [n7, m4, S9, c3])
def l6 (number f : Int) : ByteArray × Nat := if number = 6 then A0g f else if number = 17 then A3g f else (P4, 7)
def N5 (number x y f : Int) : ByteArray × Nat := if number ≠ 6 ∧ number ≠ 17 then (P4, 7) else if K3 x y = false ∨ (l6 number f).2 ≠ 0 then (P4, 1) else (B7 x 2 ++ B7 y 2 ++ (l6 number f).1, 0)
theorem B2y {x y : Int} (h : K3 x y = true) : S9 x ++ S9 y = B7 x 2 ++ B7 y 2 := by
 simp only [K3, decide_eq_true_eq] at h
 unfold S9; rw [if_pos (by omega), if_pos (by omega)]
theorem A4k (w : World) (number x y f : Int) : Fn PR B5 51 #[.int .i64 number, .agg #[.int .i64 x, .int .i64 y, .int .i64 f]] w (fun v w' => v = .tuple #[.string (N5 number x y f).1, .int .i64 (N5 number x y f).2] ∧ C4 [] w w') := by
 refine Fn.pure (B3j (TW.go (κ := false) (S := []) ?_))
 unfold A7L
 (have zz:=trivial;repeat((first|clear zz|with_reducible first|refine A3 ?_|refine A5 fun _=>?_|refine A4 fun _=>?_);try simp(disch:=first|omega|assumption|((repeat(first|exact A1|exact uH|apply A2|apply uT));first|done|fail)|(simp;first|done|omega|fail))[]))
 refine N7 A2x (fun w' _ => B0N w') ?_
 rintro r v rfl
 (have zz:=trivial;repeat((first|clear zz|with_reducible first|refine A3 ?_|refine A5 fun _=>?_|refine A4 fun _=>?_);try simp(disch:=first|omega|assumption|((repeat(first|exact A1|exact uH|apply A2|apply uT));first|done|fail)|(simp;first|done|omega|fail))[]))
 rw [A79 B1c B1b (KeyT.int H9) (l := j4) (by (repeat constructor))]
 by_cases c1 : number = 6
 ·rw [show (g7 number j4).getD .nilIface = B21 by subst c1; rfl]
  (have zz:=trivial;repeat((first|clear zz|with_reducible first|refine A3 ?_|refine A5 fun _=>?_|refine A4 fun _=>?_);try simp(disch:=first|omega|assumption|((repeat(first|exact A1|exact uH|apply A2|apply uT));first|done|fail)|(simp;first|done|omega|fail))[A0m, A0c]))
  refine D2 A3r (fun w' hw' => B2u w' _ _ _) ?_
  (have zz:=trivial;repeat((first|clear zz|with_reducible first|refine A3 ?_|refine A5 fun _=>?_|refine A4 fun _=>?_);try simp(disch:=first|omega|assumption|((repeat(first|exact A1|exact uH|apply A2|apply uT));first|done|fail)|(simp;first|done|omega|fail))[]))
  refine B1W (fun w => B05 w f) (fun w' hw' => B6K w' f) ?_
  cases c3 : K3 x y with
  | false => (have zz:=trivial;repeat((first|clear zz|with_reducible first|refine A3 ?_|refine A5 fun _=>?_|refine A4 fun _=>?_);try simp(disch:=first|omega|assumption|((repeat(first|exact A1|exact uH|apply A2|apply uT));first|done|fail)|(simp;first|done|omega|fail))[c3])); exact B0 (by simp [N5, c1, c3])
  | true =>
   have hp := B2y c3
   by_cases c2 : (A0g f).2 = 0
   ·have hz : (S9 x).size + (S9 y).size + (A0g f).1.size < 2 ^ 30 := by
     have := congrArg ByteArray.size hp
     simp at this
     have h6 := Y5 6
     have h8 := Y5 8
     have : (A0g f).1.size ≤ 100 := by unfold A0g; split <;> simp [h6, h8]
     omega
    (have zz:=trivial;repeat((first|clear zz|with_reducible first|refine A3 ?_|refine A5 fun _=>?_|refine A4 fun _=>?_);try simp(disch:=first|omega|assumption|((repeat(first|exact A1|exact uH|apply A2|apply uT));first|done|fail)|(simp;first|done|omega|fail))[c2, c3, T7]))
    exact B0 (by simp [N5, l6, c1, c2, c3, hp])
   ·(have zz:=trivial;repeat((first|clear zz|with_reducible first|refine A3 ?_|refine A5 fun _=>?_|refine A4 fun _=>?_);try simp(disch:=first|omega|assumption|((repeat(first|exact A1|exact uH|apply A2|apply uT));first|done|fail)|(simp;first|done|omega|fail))[c2, c3]))
    exact B0 (by simp [N5, l6, c1, c2, c3])
 by_cases c1' : number = 17
 ·rw [show (g7 number j4).getD .nilIface = B2E by subst c1'; rfl]
  (have zz:=trivial;repeat((first|clear zz|with_reducible first|refine A3 ?_|refine A5 fun _=>?_|refine A4 fun _=>?_);try simp(disch:=first|omega|assumption|((repeat(first|exact A1|exact uH|apply A2|apply uT));first|done|fail)|(simp;first|done|omega|fail))[A0m, A0c]))
  refine D2 A3r (fun w' hw' => B2u w' _ _ _) ?_
  (have zz:=trivial;repeat((first|clear zz|with_reducible first|refine A3 ?_|refine A5 fun _=>?_|refine A4 fun _=>?_);try simp(disch:=first|omega|assumption|((repeat(first|exact A1|exact uH|apply A2|apply uT));first|done|fail)|(simp;first|done|omega|fail))[]))
  refine B1W (fun w => B1C w f) (fun w' hw' => B6F w' f) ?_
  cases c3 : K3 x y with
  | false => (have zz:=trivial;repeat((first|clear zz|with_reducible first|refine A3 ?_|refine A5 fun _=>?_|refine A4 fun _=>?_);try simp(disch:=first|omega|assumption|((repeat(first|exact A1|exact uH|apply A2|apply uT));first|done|fail)|(simp;first|done|omega|fail))[c3])); exact B0 (by simp [N5, c1', c3])
  | true =>
   have hp := B2y c3
   by_cases c2 : (A3g f).2 = 0
   ·have hz : (S9 x).size + (S9 y).size + (A3g f).1.size < 2 ^ 30 := by
     have := congrArg ByteArray.size hp
     simp at this
     have : (A3g f).1.size ≤ 100 := by unfold A3g; split <;> simp
     omega
    (have zz:=trivial;repeat((first|clear zz|with_reducible first|refine A3 ?_|refine A5 fun _=>?_|refine A4 fun _=>?_);try simp(disch:=first|omega|assumption|((repeat(first|exact A1|exact uH|apply A2|apply uT));first|done|fail)|(simp;first|done|omega|fail))[c2, c3, T7]))
    exact B0 (by simp [N5, l6, c1', c2, c3, hp])
   ·(have zz:=trivial;repeat((first|clear zz|with_reducible first|refine A3 ?_|refine A5 fun _=>?_|refine A4 fun _=>?_);try simp(disch:=first|omega|assumption|((repeat(first|exact A1|exact uH|apply A2|apply uT));first|done|fail)|(simp;first|done|omega|fail))[c2, c3]))
    exact B0 (by simp [N5, l6, c1', c2, c3])
 ·rw [show (g7 number j4).getD .nilIface = .nilIface by simp [g7, j4, c1, c1']]
  (have zz:=trivial;repeat((first|clear zz|with_reducible first|refine A3 ?_|refine A5 fun _=>?_|refine A4 fun _=>?_);try simp(disch:=first|omega|assumption|((repeat(first|exact A1|exact uH|apply A2|apply uT));first|done|fail)|(simp;first|done|omega|fail))[A0m, A0c]))
  exact B0 (by simp [N5, c1, c1'])
end Go.Proofs.YtpbmephflllolaaGreat
