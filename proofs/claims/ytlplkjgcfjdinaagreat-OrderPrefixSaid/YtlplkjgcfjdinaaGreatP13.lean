/- The proof of a given statement, a part of it (Map ShIp6 ShIp4 ShSum Sum Ip4 Ip6 Port). No condition but what each lemma says. -/
import Derived.MapKept
import Derived.Test.YtlplkjgcfjdinaaGreatP12
set_option linter.unusedVariables false
set_option linter.unusedSimpArgs false
namespace Go.Proofs.YtlplkjgcfjdinaaGreat
open Go
section
variable {κ : Type} [DecidableEq κ]
def S1 (enc : κ → Value) : List (κ × Value) → Nat → List MapEntry
 | [], _ => []
 | p :: l, i => ⟨enc p.1, p.2, i⟩ :: S1 enc l (i + 1)
def d3 (enc : κ → Value) (l : List (κ × Value)) : Obj := .map (S1 enc l 0).toArray l.length
def A1K (k : κ) : List (κ × Value) → Nat → Option (Nat × Value)
 | [], _ => none
 | p :: l, i => if k = p.1 then some (i, p.2) else A1K k l (i + 1)
def T4 (k : κ) : List (κ × Value) → Option Value
 | [] => none
 | p :: l => if k = p.1 then some p.2 else T4 k l
def a8 (k : κ) (v : Value) : List (κ × Value) → List (κ × Value)
 | [] => [(k, v)]
 | p :: l => if k = p.1 then (k, v) :: l else p :: a8 k v l
theorem B0d (k k' : κ) (v : Value) (l : List (κ × Value)) : T4 k' (a8 k v l) = if k' = k then some v else T4 k' l := by
 induction l with
 | nil => simp [a8, T4]
 | cons p l ih =>
  simp only [a8]
  by_cases h : k = p.1
  ·rw [if_pos h]; simp only [T4]
   by_cases h' : k' = k
   ·rw [if_pos h', if_pos h']
   ·rw [if_neg h', if_neg h', if_neg (by rw [← h]; exact h')]
  ·rw [if_neg h]; simp only [T4, ih]
   by_cases h' : k' = p.1
   ·rw [if_pos h', if_pos h', if_neg (by rw [h']; exact fun e => h e.symm)]
   ·rw [if_neg h', if_neg h']
theorem B68 (k : κ) (l : List (κ × Value)) (i : Nat) : (A1K k l i).map (·.2) = T4 k l := by
 induction l generalizing i with
 | nil => rfl
 | cons p l ih => simp only [A1K, T4]; split <;> simp [ih]
@[simp] theorem C4z {α : Type} (enc : α → Value) (l : List (α × Value)) (i : Nat) : (S1 enc l i).length = l.length := by
 induction l generalizing i with
 | nil => rfl
 | cons p l ih => simp [S1, ih]
theorem B3V {α : Type} (enc : α → Value) (l m : List (α × Value)) (i : Nat) : S1 enc (l ++ m) i = S1 enc l i ++ S1 enc m (i + l.length) := by
 induction l generalizing i with
 | nil => simp [S1]
 | cons p l ih => simp only [List.cons_append, S1, ih, List.length_cons]; congr 3; omega
theorem B6N (k : κ) (v : Value) (l : List (κ × Value)) (j : Nat) (h : A1K k l j = none) : a8 k v l = l ++ [(k, v)] := by
 induction l generalizing j with
 | nil => rfl
 | cons p l ih =>
  simp only [A1K] at h
  split at h
  ·cases h
  ·rename_i hn; simp only [a8, if_neg hn, List.cons_append, ih _ h]
theorem B75 (enc : κ → Value) (k : κ) (v : Value) (l : List (κ × Value)) : ∀ (j n : Nat) (u : Value), A1K k l j = some (n, u) → j ≤ n ∧ n < j + l.length ∧ ((S1 enc l j)[n - j]?).map (·.key) = some (enc k) ∧
  S1 enc (a8 k v l) j = (S1 enc l j).modify (n - j) (fun e => { e with key := enc k, val := v }) := by
 induction l with
 | nil => intro j n u h; cases h
 | cons p l ih =>
  intro j n u h
  simp only [A1K] at h
  split at h
  ·rename_i hk; cases h
   refine ⟨Nat.le_refl _, by simp, by simp [S1, hk], ?_⟩
   simp only [a8, if_pos hk, S1, Nat.sub_self, List.modify_zero_cons]
  ·rename_i hn
   obtain ⟨h1, h2, h3, h4⟩ := ih _ _ _ h
   have e : n - j = n - (j + 1) + 1 := by omega
   refine ⟨by omega, by simp only [List.length_cons]; omega, by rw [e]; simpa [S1] using h3, ?_⟩
   simp only [a8, if_neg hn, S1, e, List.modify_succ_cons, h4]
structure KeyT (P : Program) (kt : TypeId) (enc : κ → Value) : Prop where
 find : ∀ k l j w, (Instr.findKey kt (enc k) (S1 enc l j)).run P w = .ok (A1K k l 0) w
 check : ∀ k e w, (Instr.checkKey e 10000 kt (enc k)).run P w = .ok () w
 stays : ∀ k, Instr.sameBits 10000 (enc k) (enc k) = true
theorem A6M {d : TypeDesc} {enc : κ → Value} (hs : ∀ a b, Instr.sameNow d (enc a) (enc b) = some (decide (a = b))) (k : κ) (l : List (κ × Value)) : ∀ j i, Instr.findNow d (enc k) (S1 enc l j) i = some (A1K k l i) := by
 induction l with
 | nil => intro j i; rfl
 | cons p l ih =>
  intro j i
  simp only [S1, Instr.findNow, hs, A1K]
  by_cases h : k = p.1
  ·simp [h]
  ·simp [h, ih]
end
theorem KeyT.int {P : Program} {kt : TypeId} {n m : Nat} {z : Value} (h : TI P kt (.int .i64) n m z) : KeyT P kt (fun a : Int => Value.int .i64 a) := by
 refine ⟨fun k l j w => ?_, fun k e w => ?_, fun k => ?_⟩
 ·exact MapKept.run_findKey h.und (A6M (fun a b => by simp [Instr.sameNow]; exact A9L a b) k l j 0)
 ·exact MapKept.run_checkKey h.und (by trivial) e 9999
 ·simp [Instr.sameBits]
theorem KeyT.string {P : Program} {kt : TypeId} {n m : Nat} {z : Value} (h : TI P kt .string n m z) : KeyT P kt Value.string := by
 refine ⟨fun k l j w => ?_, fun k e w => ?_, fun k => ?_⟩
 ·exact MapKept.run_findKey h.und (A6M (fun a b => by simp only [Instr.sameNow, B54]) k l j 0)
 ·exact MapKept.run_checkKey h.und (by trivial) e 9999
 ·simp only [Instr.sameBits, B54, decide_true]
section
variable {κ : Type} [DecidableEq κ] {enc : κ → Value} {σ : Bool} {P : Program} {X : Nat → Prop} {S : List Nat} {w0 : World} {H H' : List Res} {K : Value → WP} {K0 : WP} {t kt et : TypeId} {n m n2 m2 : Nat} {z z2 : Value} {d : TypeDesc}
theorem A9M {α : Type} (enc : α → Value) (hK : ∀ r, TW σ S w0 (.pt r (d3 enc []) :: H) (K (.map (some r)))) : TW σ S w0 H (B1 P X (Instr.makeMap t none) K) := fun w hw => by
 have : (Instr.makeMap t none).run P w = .ok (.map (some (sz w))) (w.alloc (d3 enc [])) := by simp [Instr.makeMap, run_newObj, d3, S1, sz]
 rw [l5 this (Sk.alloc X w _ (Or.inl rfl))]
 exact hK _ _ (hw.new rfl (Or.inl rfl))
theorem A4r (hm : TI P t (.map kt et) n m z) (he : TI P et d n2 m2 z2) (hk : KeyT P kt enc) {r : Nat} {l : List (κ × Value)} {k : κ} (hr : Res.pt r (d3 enc l) ∈ H) :
  TW σ S w0 H (A6 P (Instr.lookup t (.map (some r)) (enc k) false) K) = TW σ S w0 H (K ((T4 k l).getD z2)) := TW.congr fun w hw => by
 have hb : w.heap[r]? = some (.map (S1 enc l 0).toArray l.length) := hw.pt hr
 refine Y7 ?_ K
 have h1 : (getObj r).run P w = .ok (.map (S1 enc l 0).toArray l.length) w := MapKept.run_getObj_map hb
 simp only [Instr.lookup, Sem.run_bind, hm.run_und, Result.andThen_ok, h1, Sem.run_pure, hk.check, hk.find]
 rw [← B68 k l 0]
 cases A1K k l 0 with
 | none => simp [he.run_zero]
 | some p => simp
theorem A4K (hm : TI P t (.map kt et) n m z) (hk : KeyT P kt enc) {r : Nat} {l : List (κ × Value)} {k : κ} {v : Value} (hu : Up (.pt r (d3 enc l)) (.pt r (d3 enc (a8 k v l))) H H') (hK : TW σ S w0 H' K0) :
  TW σ S w0 H (B8 P X (Instr.mapUpdate t (.map (some r)) (enc k) v) K0) := fun w hw => by
 have hmem : Res.pt r (d3 enc l) ∈ H := by obtain ⟨A, B, rfl, _⟩ := hu.parts; simp
 have hb0 := hw.pt hmem
 have hb : w.heap[r]? = some (.map (S1 enc l 0).toArray l.length) := hb0
 have h1 : (getObj r).run P w = .ok (.map (S1 enc l 0).toArray l.length) w := MapKept.run_getObj_map hb
 have hrun : (Instr.mapUpdate t (.map (some r)) (enc k) v).run P w = .ok () (World.putb w r (d3 enc (a8 k v l))) := by
  simp only [Instr.mapUpdate, Sem.run_bind, hm.run_und, Result.andThen_ok, h1, hk.check, hk.find]
  cases hf : A1K k l 0 with
  | none =>
   have e := B6N k v l 0 hf
   simp [d3, e, B3V, S1, World.putb, MapKept.run_setObj_map _ hb]
  | some p =>
   obtain ⟨i, u⟩ := p
   obtain ⟨_, h2, h3, h4⟩ := B75 enc k v l 0 i u hf
   have hl : (a8 k v l).length = l.length := by
    have := congrArg List.length h4; simpa using this
   simp only [Nat.sub_zero] at h3 h4
   simp [d3, h4, hl, World.putb, MapKept.run_setObj_map _ hb, Instr.keyThatStays, h3, hk.stays]
 have hks : KS σ [r] w (World.putb w r (d3 enc (a8 k v l))) := by
  refine ((C6.refl [r] w).putb _ (Or.inl (by simp))).ks fun _ => ?_
  have h2 : ∀ (q : Nat) x, (∀ c T, x ≠ Obj.map c T) → w.heap[q]? = some x → (World.putb w r (d3 enc (a8 k v l))).heap[q]? = some x := fun q x hx e => by
   have : r ≠ q := by rintro rfl; rw [hb] at e; cases e; exact hx _ _ rfl
   exact (e7 (w := w) (o := d3 enc (a8 k v l)) this).trans e
  exact ⟨by simp [World.putb], fun q d => h2 q _ (by simp), fun q lo _ => h2 q _ (by simp), rfl, rfl⟩
 have hsk : Sk X w (World.putb w r (d3 enc (a8 k v l))) := by
  have h2 : ∀ (q : Nat) x, (∀ c T, x ≠ Obj.map c T) → w.heap[q]? = some x → (World.putb w r (d3 enc (a8 k v l))).heap[q]? = some x := fun q x hx e => by
   have : r ≠ q := by rintro rfl; rw [hb] at e; cases e; exact hx _ _ rfl
   exact (e7 (w := w) (o := d3 enc (a8 k v l)) this).trans e
  exact ⟨by simp [World.putb], fun q d => h2 q _ (by simp), fun q lo _ => h2 q _ (by simp), rfl, rfl⟩
 rw [B6v hrun hsk]
 refine hK _ (hw.up hu ⟨hks, ?_, ?_, by simp⟩)
 ·simp only [List.mem_singleton, forall_eq, Res.holds]; exact ⟨T9 (G4 hb0), rfl⟩
 ·simp only [List.mem_singleton, forall_eq, Res.foot]; exact ⟨Or.inl (by simp), by have := G4 hb0; simpa using this⟩
end
end Go.Proofs.YtlplkjgcfjdinaaGreat
namespace Go.Proofs.YtlplkjgcfjdinaaGreat
open Go
def A56 (X : Nat → Prop) (t0 : Value) (R : Value → WP) : WP :=
 B1 PR X (Instr.alloc 188 true (.tuple #[])) fun t2 =>
 jn (n := 2) (fun t3 t4 =>
 jn (n := 2) (fun t3_1 t4_1 =>
 B1 PR X (Instr.buildSlice 35 6 #[(0, (.int .i64 4)), (1, (.int .i64 2)), (2, (.int .i64 1)), (3, (.int .i64 1)), (4, (.int .i64 16)), (5, (.int .i64 16))]) fun t19 =>
 B7 PR X 149 [t0, t19] fun t20 =>
 A0 PR (Instr.indexAt 221 t20 (.int .i64 1)) fun t23 =>
 A6 PR (Instr.loadAt 9 t23) fun t24 =>
 B7 PR X 120 [t24, (.int .i64 0), (.int .i64 2)] fun t25 =>
 A0 PR (Instr.extract t25 0) fun t26 =>
 A0 PR (Instr.extract t25 1) fun t27 =>
 A0 PR (Instr.indexAt 221 t20 (.int .i64 6)) fun t29 =>
 A6 PR (Instr.loadAt 9 t29) fun t30 =>
 jn (n := 2) (fun t3_2 t4_2 =>
 drw <|
 A0 PR (Instr.indexAt 221 t20 (.int .i64 4)) fun t38 =>
 A6 PR (Instr.loadAt 9 t38) fun t39 =>
 A0 PR (Instr.indexAt 221 t20 (.int .i64 5)) fun t41 =>
 A6 PR (Instr.loadAt 9 t41) fun t42 =>
 A0 PR (Instr.indexAt 221 t20 (.int .i64 2)) fun t44 =>
 A6 PR (Instr.loadAt 9 t44) fun t45 =>
 A0 PR (Instr.index 9 t45 (.int .i64 0)) fun t46 =>
 A0 PR (convert 5 3 t46) fun t47 =>
 A0 PR (Instr.build 188 #[(0, t39), (1, t42), (2, t47)]) fun t48 =>
 A0 PR (Instr.sliceAt 9 t30 none (some t26) none) fun t51 =>
 B8 PR X (Instr.storeAt 188 t2 t48) <|
 A6 PR (D2 [.c 188 t2, .v t51, .v (.int .i64 0)]) R) fun J1 =>
 A0 PR (A8 .len #[9] 0 [t30]) fun t33 =>
 A0 PR (convert 3 122 t33) fun t34 =>
 A0 PR (binOp .gtr 122 t26 t34) fun t35 =>
 B6 t35 (
 A0 PR (Instr.build 188 #[]) fun t36 =>
 B8 PR X (Instr.storeAt 188 t2 t36) <|
 A6 PR (D2 [.c 188 t2, .v (.string (ByteArray.mk #[])), .v (.int .i64 4)]) R) (
 J1 t3_1 t4_1)) fun J2 =>
 A0 PR (Instr.index 9 t0 (.int .i64 0)) fun t14 =>
 A0 PR (binOp .shr 5 t14 (.int .u64 4)) fun t15 =>
 A0 PR (binOp .neq 5 t15 (.int .u8 6)) fun t16 =>
 B6 t16 (
 A0 PR (Instr.build 188 #[]) fun t17 =>
 B8 PR X (Instr.storeAt 188 t2 t17) <|
 A6 PR (D2 [.c 188 t2, .v (.string (ByteArray.mk #[])), .v (.int .i64 3)]) R) (
 J2 t3 t4)) fun J3 =>
 A0 PR (A8 .len #[9] 0 [t0]) fun t10 =>
 A0 PR (binOp .lss 3 t10 (.int .i64 40)) fun t11 =>
 B6 t11 (
 A0 PR (Instr.build 188 #[]) fun t12 =>
 B8 PR X (Instr.storeAt 188 t2 t12) <|
 A6 PR (D2 [.c 188 t2, .v (.string (ByteArray.mk #[])), .v (.int .i64 2)]) R) (
 J3 (.string (ByteArray.mk #[])) (.int .i64 0))
theorem B1F : B0 PR 117 := A7 Tryz.func117 (by kernel_rfl) rfl
theorem B2T {X : Nat → Prop} {t0 : Value} {R : Value → WP} {w : World} (h : A56 X t0 R w) : Fn PR X 117 #[t0] w R := C8 (args := [t0]) mixed Tryz.func117 (by kernel_rfl) h
def A8S (X : Nat → Prop) (t0 t1 : Value) (R : Value → WP) : WP :=
 jn (n := 3) (fun t5 t0_1 t10 =>
 B1 PR X (Instr.buildSlice 221 1 #[(0, t0_1)]) fun t26 =>
 B1 PR X (A8 .append #[221, 221] 221 [t5, t26]) fun t27 =>
 R t27) fun J1 =>
 A0 PR (A8 .len #[35] 0 [t1]) fun t9 =>
 lp (n := 3) (fun L2 t5_1 t0_2 t10_1 =>
 A0 PR (binOp .lss 3 t10_1 t9) fun t11 =>
 jn (n := 0) (
 jn (n := 2) (fun t5_2 t0_3 =>
 A0 PR (binOp .add 3 t10_1 (.int .i64 1)) fun t23 =>
 L2 t5_2 t0_3 t23) fun J3 =>
 A0 PR (Instr.indexAt 35 t1 t10_1) fun t12 =>
 A6 PR (Instr.loadAt 3 t12) fun t13 =>
 A0 PR (Instr.sliceAt 9 t0_2 none (some t13) none) fun t17 =>
 B1 PR X (Instr.buildSlice 221 1 #[(0, t17)]) fun t18 =>
 B1 PR X (A8 .append #[221, 221] 221 [t5_1, t18]) fun t19 =>
 A0 PR (Instr.sliceAt 9 t0_2 (some t13) none none) fun t22 =>
 J3 t19 t22) fun J4 =>
 B6 t11 (
 J4) (
 J1 t5_1 t0_2 t10_1)) (.slice none 0 0) t0 (.int .i64 0)
theorem B3p : B0 PR 149 := A7 Tryz.func149 (by kernel_rfl) rfl
theorem B4d {X : Nat → Prop} {t0 t1 : Value} {R : Value → WP} {w : World} (h : A8S X t0 t1 R w) : Fn PR X 149 #[t0, t1] w R := C8 (args := [t0, t1]) mixed Tryz.func149 (by kernel_rfl) h
end Go.Proofs.YtlplkjgcfjdinaaGreat
namespace Go.Proofs.YtlplkjgcfjdinaaGreat
open Go
def A5d (X : Nat → Prop) (t0 : Value) (R : Value → WP) : WP :=
 B1 PR X (Instr.box 9 t0) fun t1 =>
 B1 PR X (Instr.alloc 184 true (.tuple #[])) fun t2 =>
 A0 PR (Instr.makeFunc (.func 141) #[] #[t1]) fun t9 =>
 B1 PR X (Instr.alloc 57 true (.tuple #[])) fun t5 =>
 B8 PR X (Instr.storeAt 57 t5 t9) <|
 drw <|
 kt (n := 2) (fun t6 t7 =>
 A0 PR (Instr.makeFunc (.func 143) #[] #[t1]) fun t16 =>
 A0 PR (Instr.build 219 #[(0, t16), (1, (.int .i64 2))]) fun t17 =>
 A0 PR (Instr.makeFunc (.func 144) #[] #[t5]) fun t18 =>
 A0 PR (Instr.build 219 #[(0, t18), (1, (.int .i64 3))]) fun t19 =>
 A0 PR (Instr.makeFunc (.func 145) #[] #[t6, t1, t7]) fun t20 =>
 A0 PR (Instr.build 219 #[(0, t20), (1, (.int .i64 4))]) fun t21 =>
 A0 PR (Instr.makeFunc (.func 146) #[] #[t1, t6]) fun t22 =>
 A0 PR (Instr.build 219 #[(0, t22), (1, (.int .i64 5))]) fun t23 =>
 A0 PR (Instr.makeFunc (.func 148) #[] #[t5]) fun t24 =>
 A0 PR (Instr.build 219 #[(0, t24), (1, (.int .i64 6))]) fun t25 =>
 B1 PR X (Instr.buildSlice 251 5 #[(0, t17), (1, t19), (2, t21), (3, t23), (4, t25)]) fun t26 =>
 B7 PR X 142 [t26] fun t27 =>
 jn (n := 2) (fun t3 t4 =>
 drw <|
 A6 PR (Instr.loadAt 9 t1) fun t32 =>
 A0 PR (Instr.sliceAt 9 t32 (some (.int .i64 12)) (some (.int .i64 16)) none) fun t33 =>
 A6 PR (Instr.loadAt 9 t1) fun t34 =>
 A0 PR (Instr.sliceAt 9 t34 (some (.int .i64 16)) (some (.int .i64 20)) none) fun t35 =>
 A6 PR (Instr.loadAt 57 t5) fun t36 =>
 A6 PR (Instr.loadAt 9 t1) fun t39 =>
 A6 PR (Instr.loadAt 3 t6) fun t40 =>
 A6 PR (Instr.loadAt 3 t7) fun t41 =>
 A0 PR (Instr.sliceAt 9 t39 (some t40) (some t41) none) fun t42 =>
 F5 PR X t36 [(.int .i64 9), (.int .i64 1)] fun t37 =>
 watch PR [(none, (Instr.loadAt 3 t7), t41), (none, (Instr.loadAt 3 t6), t40), (none, (Instr.loadAt 9 t1), t39), (none, (Instr.loadAt 9 t1), t34), (none, (Instr.loadAt 9 t1), t32)] <|
 A0 PR (Instr.build 184 #[(0, t33), (1, t35), (2, t37)]) fun t38 =>
 B8 PR X (Instr.storeAt 184 t2 t38) <|
 watch PR [(none, (Instr.loadAt 3 t7), t41), (none, (Instr.loadAt 3 t6), t40), (none, (Instr.loadAt 9 t1), t39)] <|
 A6 PR (D2 [.c 184 t2, .v t42, .v (.int .i64 0)]) R) fun J1 =>
 A0 PR (binOp .neq 42 t27 (.int .i64 0)) fun t29 =>
 B6 t29 (
 A0 PR (Instr.build 184 #[]) fun t30 =>
 B8 PR X (Instr.storeAt 184 t2 t30) <|
 A6 PR (D2 [.c 184 t2, .v (.string (ByteArray.mk #[])), .v t27]) R) (
 J1 (.string (ByteArray.mk #[])) (.int .i64 0))) fun C2 =>
 A6 PR (Instr.loadAt 57 t5) fun t10_1 =>
 A6 PR (Instr.loadAt 57 t5) fun t14_1 =>
 both (F5 PR X t10_1 [(.int .i64 0), (.int .i64 1)] fun t11_5 =>
 watch PR [(none, (Instr.loadAt 57 t5), t14_1)] <|
 A0 PR (binOp .and 3 t11_5 (.int .i64 15)) fun t12_5 =>
 A0 PR (binOp .mul 3 t12_5 (.int .i64 4)) fun t13_5 =>
 both (F5 PR X t14_1 [(.int .i64 2), (.int .i64 2)] fun t15_11 =>
 both (B1 PR X (Instr.alloc 3 true (.tuple #[])) fun t6_9 =>
 B1 PR X (Instr.alloc 3 true (.tuple #[])) fun t7_9 =>
 B8 PR X (Instr.storeAt 3 t6_9 t13_5) <|
 B8 PR X (Instr.storeAt 3 t7_9 t15_11) <|
 C2 t6_9 t7_9) (both (B1 PR X (Instr.alloc 3 true (.tuple #[])) fun t7_8 =>
 B1 PR X (Instr.alloc 3 true (.tuple #[])) fun t6_8 =>
 B8 PR X (Instr.storeAt 3 t6_8 t13_5) <|
 B8 PR X (Instr.storeAt 3 t7_8 t15_11) <|
 C2 t6_8 t7_8) ((fun _ => True)))) (both (B1 PR X (Instr.alloc 3 true (.tuple #[])) fun t6_7 =>
 watch PR [(none, (Instr.loadAt 57 t5), t14_1)] <|
 both (F5 PR X t14_1 [(.int .i64 2), (.int .i64 2)] fun t15_10 =>
 B1 PR X (Instr.alloc 3 true (.tuple #[])) fun t7_7 =>
 B8 PR X (Instr.storeAt 3 t6_7 t13_5) <|
 B8 PR X (Instr.storeAt 3 t7_7 t15_10) <|
 C2 t6_7 t7_7) (both (B1 PR X (Instr.alloc 3 true (.tuple #[])) fun t7_6 =>
 watch PR [(none, (Instr.loadAt 57 t5), t14_1)] <|
 F5 PR X t14_1 [(.int .i64 2), (.int .i64 2)] fun t15_9 =>
 B8 PR X (Instr.storeAt 3 t6_7 t13_5) <|
 B8 PR X (Instr.storeAt 3 t7_6 t15_9) <|
 C2 t6_7 t7_6) ((fun _ => True)))) (both (B1 PR X (Instr.alloc 3 true (.tuple #[])) fun t7_5 =>
 watch PR [(none, (Instr.loadAt 57 t5), t14_1)] <|
 both (F5 PR X t14_1 [(.int .i64 2), (.int .i64 2)] fun t15_8 =>
 B1 PR X (Instr.alloc 3 true (.tuple #[])) fun t6_6 =>
 B8 PR X (Instr.storeAt 3 t6_6 t13_5) <|
 B8 PR X (Instr.storeAt 3 t7_5 t15_8) <|
 C2 t6_6 t7_5) (both (B1 PR X (Instr.alloc 3 true (.tuple #[])) fun t6_5 =>
 watch PR [(none, (Instr.loadAt 57 t5), t14_1)] <|
 F5 PR X t14_1 [(.int .i64 2), (.int .i64 2)] fun t15_7 =>
 B8 PR X (Instr.storeAt 3 t6_5 t13_5) <|
 B8 PR X (Instr.storeAt 3 t7_5 t15_7) <|
 C2 t6_5 t7_5) ((fun _ => True)))) ((fun _ => True))))) (both (B1 PR X (Instr.alloc 3 true (.tuple #[])) fun t6_4 =>
 watch PR [(none, (Instr.loadAt 57 t5), t14_1), (none, (Instr.loadAt 57 t5), t10_1)] <|
 both (F5 PR X t10_1 [(.int .i64 0), (.int .i64 1)] fun t11_4 =>
 watch PR [(none, (Instr.loadAt 57 t5), t14_1)] <|
 A0 PR (binOp .and 3 t11_4 (.int .i64 15)) fun t12_4 =>
 A0 PR (binOp .mul 3 t12_4 (.int .i64 4)) fun t13_4 =>
 both (F5 PR X t14_1 [(.int .i64 2), (.int .i64 2)] fun t15_6 =>
 B1 PR X (Instr.alloc 3 true (.tuple #[])) fun t7_4 =>
 B8 PR X (Instr.storeAt 3 t6_4 t13_4) <|
 B8 PR X (Instr.storeAt 3 t7_4 t15_6) <|
 C2 t6_4 t7_4) (both (B1 PR X (Instr.alloc 3 true (.tuple #[])) fun t7_3 =>
 watch PR [(none, (Instr.loadAt 57 t5), t14_1)] <|
 F5 PR X t14_1 [(.int .i64 2), (.int .i64 2)] fun t15_5 =>
 B8 PR X (Instr.storeAt 3 t6_4 t13_4) <|
 B8 PR X (Instr.storeAt 3 t7_3 t15_5) <|
 C2 t6_4 t7_3) ((fun _ => True)))) (both (B1 PR X (Instr.alloc 3 true (.tuple #[])) fun t7_2 =>
 watch PR [(none, (Instr.loadAt 57 t5), t14_1), (none, (Instr.loadAt 57 t5), t10_1)] <|
 F5 PR X t10_1 [(.int .i64 0), (.int .i64 1)] fun t11_3 =>
 watch PR [(none, (Instr.loadAt 57 t5), t14_1)] <|
 A0 PR (binOp .and 3 t11_3 (.int .i64 15)) fun t12_3 =>
 A0 PR (binOp .mul 3 t12_3 (.int .i64 4)) fun t13_3 =>
 F5 PR X t14_1 [(.int .i64 2), (.int .i64 2)] fun t15_4 =>
 B8 PR X (Instr.storeAt 3 t6_4 t13_3) <|
 B8 PR X (Instr.storeAt 3 t7_2 t15_4) <|
 C2 t6_4 t7_2) ((fun _ => True)))) (both (B1 PR X (Instr.alloc 3 true (.tuple #[])) fun t7_1 =>
 watch PR [(none, (Instr.loadAt 57 t5), t14_1), (none, (Instr.loadAt 57 t5), t10_1)] <|
 both (F5 PR X t10_1 [(.int .i64 0), (.int .i64 1)] fun t11_2 =>
 watch PR [(none, (Instr.loadAt 57 t5), t14_1)] <|
 A0 PR (binOp .and 3 t11_2 (.int .i64 15)) fun t12_2 =>
 A0 PR (binOp .mul 3 t12_2 (.int .i64 4)) fun t13_2 =>
 both (F5 PR X t14_1 [(.int .i64 2), (.int .i64 2)] fun t15_3 =>
 B1 PR X (Instr.alloc 3 true (.tuple #[])) fun t6_3 =>
 B8 PR X (Instr.storeAt 3 t6_3 t13_2) <|
 B8 PR X (Instr.storeAt 3 t7_1 t15_3) <|
 C2 t6_3 t7_1) (both (B1 PR X (Instr.alloc 3 true (.tuple #[])) fun t6_2 =>
 watch PR [(none, (Instr.loadAt 57 t5), t14_1)] <|
 F5 PR X t14_1 [(.int .i64 2), (.int .i64 2)] fun t15_2 =>
 B8 PR X (Instr.storeAt 3 t6_2 t13_2) <|
 B8 PR X (Instr.storeAt 3 t7_1 t15_2) <|
 C2 t6_2 t7_1) ((fun _ => True)))) (both (B1 PR X (Instr.alloc 3 true (.tuple #[])) fun t6_1 =>
 watch PR [(none, (Instr.loadAt 57 t5), t14_1), (none, (Instr.loadAt 57 t5), t10_1)] <|
 F5 PR X t10_1 [(.int .i64 0), (.int .i64 1)] fun t11_1 =>
 watch PR [(none, (Instr.loadAt 57 t5), t14_1)] <|
 A0 PR (binOp .and 3 t11_1 (.int .i64 15)) fun t12_1 =>
 A0 PR (binOp .mul 3 t12_1 (.int .i64 4)) fun t13_1 =>
 F5 PR X t14_1 [(.int .i64 2), (.int .i64 2)] fun t15_1 =>
 B8 PR X (Instr.storeAt 3 t6_1 t13_1) <|
 B8 PR X (Instr.storeAt 3 t7_1 t15_1) <|
 C2 t6_1 t7_1) ((fun _ => True)))) ((fun _ => True))))
theorem B0q : B0 PR 114 := A7 Tryz.func114 (by kernel_rfl) rfl
theorem B2g {X : Nat → Prop} {t0 : Value} {R : Value → WP} {w : World} (h : A5d X t0 R w) : Fn PR X 114 #[t0] w R := C8 (args := [t0]) mixed Tryz.func114 (by kernel_rfl) h
def A2j (X : Nat → Prop) (t0 t1 t2 : Value) (R : Value → WP) : WP :=
 A6 PR (Instr.loadAt 9 t2) fun t9 =>
 B7 PR X 120 [t9, t0, t1] fun t12 =>
 A0 PR (Instr.extract t12 0) fun t13 =>
 A0 PR (Instr.extract t12 1) fun t14 =>
 A0 PR (convert 122 3 t13) fun t16 =>
 R t16
theorem a7 : B0 PR 141 := A7 Tryz.func141 (by kernel_rfl) rfl
theorem A8v {X : Nat → Prop} {t0 t1 t2 : Value} {R : Value → WP} {w : World} (h : A2j X t0 t1 t2 R w) : Fn PR X 141 #[t0, t1, t2] w R := C8 (args := [t0, t1, t2]) mixed Tryz.func141 (by kernel_rfl) h
def A5m (X : Nat → Prop) (t0 : Value) (R : Value → WP) : WP :=
 jn (n := 2) (fun t3 t8 =>
 R t3) fun J1 =>
 A0 PR (A8 .len #[251] 0 [t0]) fun t7 =>
 lp (n := 2) (fun L2 t3_1 t8_1 =>
 A0 PR (binOp .lss 3 t8_1 t7) fun t9 =>
 jn (n := 0) (
 jn (n := 1) (fun t3_2 =>
 A0 PR (binOp .add 3 t8_1 (.int .i64 1)) fun t17 =>
 L2 t3_2 t17) fun J3 =>
 A0 PR (Instr.indexAt 251 t0 t8_1) fun t10 =>
 A6 PR (Instr.loadAt 219 t10) fun t11 =>
 B1 PR X (Instr.alloc 219 true (.tuple #[])) fun t5 =>
 B8 PR X (Instr.storeAt 219 t5 t11) <|
 A0 PR (Instr.fieldAt 219 t5 0) fun t12 =>
 A6 PR (Instr.loadAt 29 t12) fun t13 =>
 F5 PR X t13 [] fun t14 =>
 B6 t14 (
 A0 PR (Instr.fieldAt 219 t5 1) fun t15 =>
 A6 PR (Instr.loadAt 42 t15) fun t16 =>
 J1 t16 t8_1) (
 J3 t3_1)) fun J4 =>
 B6 t9 (
 J4) (
 J1 t3_1 t8_1)) (.int .i64 0) (.int .i64 0)
theorem B02 : B0 PR 142 := A7 Tryz.func142 (by kernel_rfl) rfl
theorem B2L {X : Nat → Prop} {t0 : Value} {R : Value → WP} {w : World} (h : A5m X t0 R w) : Fn PR X 142 #[t0] w R := C8 (args := [t0]) mixed Tryz.func142 (by kernel_rfl) h
def A2a (X : Nat → Prop) (t0 : Value) (R : Value → WP) : WP :=
 A6 PR (Instr.loadAt 9 t0) fun t2 =>
 A0 PR (A8 .len #[9] 0 [t2]) fun t3 =>
 A0 PR (binOp .lss 3 t3 (.int .i64 20)) fun t4 =>
 R t4
theorem A7F : B0 PR 143 := A7 Tryz.func143 (by kernel_rfl) rfl
theorem A8d {X : Nat → Prop} {t0 : Value} {R : Value → WP} {w : World} (h : A2a X t0 R w) : Fn PR X 143 #[t0] w R := C8 (args := [t0]) mixed Tryz.func143 (by kernel_rfl) h
def A2b (X : Nat → Prop) (t0 : Value) (R : Value → WP) : WP :=
 A6 PR (Instr.loadAt 57 t0) fun t2 =>
 F5 PR X t2 [(.int .i64 0), (.int .i64 1)] fun t3 =>
 A0 PR (binOp .shr 3 t3 (.int .u64 4)) fun t4 =>
 A0 PR (binOp .neq 3 t4 (.int .i64 4)) fun t5 =>
 R t5
theorem A7J : B0 PR 144 := A7 Tryz.func144 (by kernel_rfl) rfl
theorem A81 {X : Nat → Prop} {t0 : Value} {R : Value → WP} {w : World} (h : A2b X t0 R w) : Fn PR X 144 #[t0] w R := C8 (args := [t0]) mixed Tryz.func144 (by kernel_rfl) h
def A2x (X : Nat → Prop) (t0 t1 t2 : Value) (R : Value → WP) : WP :=
 A6 PR (Instr.loadAt 3 t0) fun t4 =>
 A0 PR (binOp .lss 3 t4 (.int .i64 20)) fun t5 =>
 gj t5 false (fun J => A6 PR (Instr.loadAt 3 t0) J) fun t7 =>
 gj t5 false (fun J => A6 PR (Instr.loadAt 9 t1) J) fun t8 =>
 gj t5 false (fun J => A0 PR (A8 .len #[9] 0 [t8]) J) fun t9 =>
 gj t5 false (fun J => A0 PR (binOp .gtr 3 t7 t9) J) fun t10 =>
 A0 PR (do pure (if ← asBool t5 then (.bool true) else t10)) fun t11 =>
 gj t11 false (fun J => A6 PR (Instr.loadAt 3 t2) J) fun t13 =>
 gj t11 false (fun J => A6 PR (Instr.loadAt 3 t0) J) fun t14 =>
 gj t11 false (fun J => A0 PR (binOp .lss 3 t13 t14) J) fun t15 =>
 A0 PR (do pure (if ← asBool t11 then (.bool true) else t15)) fun t16 =>
 gj t16 false (fun J => A6 PR (Instr.loadAt 3 t2) J) fun t18 =>
 gj t16 false (fun J => A6 PR (Instr.loadAt 9 t1) J) fun t19 =>
 gj t16 false (fun J => A0 PR (A8 .len #[9] 0 [t19]) J) fun t20 =>
 gj t16 false (fun J => A0 PR (binOp .gtr 3 t18 t20) J) fun t21 =>
 A0 PR (do pure (if ← asBool t16 then (.bool true) else t21)) fun t22 =>
 R t22
theorem A7z : B0 PR 145 := A7 Tryz.func145 (by kernel_rfl) rfl
theorem A8H {X : Nat → Prop} {t0 t1 t2 : Value} {R : Value → WP} {w : World} (h : A2x X t0 t1 t2 R w) : Fn PR X 145 #[t0, t1, t2] w R := C8 (args := [t0, t1, t2]) mixed Tryz.func145 (by kernel_rfl) h
def A2m (X : Nat → Prop) (t0 t1 : Value) (R : Value → WP) : WP :=
 A6 PR (Instr.loadAt 9 t0) fun t3 =>
 A6 PR (Instr.loadAt 3 t1) fun t4 =>
 A0 PR (Instr.sliceAt 9 t3 none (some t4) none) fun t5 =>
 B7 PR X 147 [t5] fun t6 =>
 A0 PR (Op.unary .not t6) fun t7 =>
 R t7
theorem A7c : B0 PR 146 := A7 Tryz.func146 (by kernel_rfl) rfl
theorem A8a {X : Nat → Prop} {t0 t1 : Value} {R : Value → WP} {w : World} (h : A2m X t0 t1 R w) : Fn PR X 146 #[t0, t1] w R := C8 (args := [t0, t1]) mixed Tryz.func146 (by kernel_rfl) h
def A2V (X : Nat → Prop) (t0 : Value) (R : Value → WP) : WP :=
 A6 PR (Instr.loadAt 57 t0) fun t2 =>
 F5 PR X t2 [(.int .i64 6), (.int .i64 2)] fun t3 =>
 A0 PR (binOp .and 3 t3 (.int .i64 16383)) fun t4 =>
 A0 PR (binOp .neq 3 t4 (.int .i64 0)) fun t5 =>
 R t5
theorem A7K : B0 PR 148 := A7 Tryz.func148 (by kernel_rfl) rfl
theorem A85 {X : Nat → Prop} {t0 : Value} {R : Value → WP} {w : World} (h : A2V X t0 R w) : Fn PR X 148 #[t0] w R := C8 (args := [t0]) mixed Tryz.func148 (by kernel_rfl) h
end Go.Proofs.YtlplkjgcfjdinaaGreat
namespace Go.Proofs.YtlplkjgcfjdinaaGreat
open Go
def A69 (X : Nat → Prop) (t0 : Value) (R : Value → WP) : WP :=
 B7 PR X 165 [t0] fun t4 =>
 A0 PR (binOp .eql 3 t4 (.int .i64 65535)) fun t5 =>
 R t5
theorem B2U : B0 PR 147 := A7 Tryz.func147 (by kernel_rfl) rfl
theorem B3Y {X : Nat → Prop} {t0 : Value} {R : Value → WP} {w : World} (h : A69 X t0 R w) : Fn PR X 147 #[t0] w R := C8 (args := [t0]) mixed Tryz.func147 (by kernel_rfl) h
def A65 (X : Nat → Prop) (t0 : Value) (R : Value → WP) : WP :=
 B1 PR X (Instr.alloc 122 true (.tuple #[])) fun t3 =>
 jn (n := 0) (
 jn (n := 0) (
 A6 PR (Instr.loadAt 122 t3) fun t18 =>
 A0 PR (convert 122 3 t18) fun t19 =>
 U5 (R t19)) fun J1 =>
 lp (n := 0) (fun L2 =>
 jn (n := 0) (
 A6 PR (Instr.loadAt 122 t3) fun t13 =>
 A0 PR (binOp .shr 122 t13 (.int .u64 16)) fun t14 =>
 A6 PR (Instr.loadAt 122 t3) fun t15 =>
 A0 PR (binOp .and 122 t15 (.int .u64 65535)) fun t16 =>
 A0 PR (binOp .add 122 t14 t16) fun t17 =>
 B8 PR X (Instr.storeAt 122 t3 t17) <|
 L2) fun J3 =>
 A6 PR (Instr.loadAt 122 t3) fun t11 =>
 A0 PR (binOp .leq 122 t11 (.int .u64 65535)) fun t12 =>
 B6 t12 (
 J1) (
 J3)) ) fun J4 =>
 B7 PR X 178 [t0] fun t6 =>
 rng (N := 1) PR X (fun t7 K5 =>
 bgn <|
 A6 PR (Instr.loadAt 122 t3) fun t8 =>
 A0 PR (binOp .add 122 t8 t7) fun t10 =>
 B8 PR (fun _ => False) (Instr.storeAt 122 t3 t10) <|
 K5 none) t6 (fun j => match j with | none => (J4) | some (.exit i) => (match Nat.beq i 0 with | true => (J4) | false => (E7)) | some .ret => (U5 (R (.int .i64 0))) | some _ => E7)
theorem B2q : B0 PR 165 := A7 Tryz.func165 (by kernel_rfl) rfl
theorem B3q {X : Nat → Prop} {t0 : Value} {R : Value → WP} {w : World} (h : A65 X t0 R w) : Fn PR X 165 #[t0] w R := C8 (args := [t0]) mixed Tryz.func165 (by kernel_rfl) h
def A6F (X : Nat → Prop) (t0 : Value) (R : Value → WP) : WP :=
 B1 PR X (Instr.box 9 t0) fun t1 =>
 A0 PR (Instr.makeFunc (.func 183) #[] #[t1]) fun t3 =>
 R t3
theorem B1C : B0 PR 178 := A7 Tryz.func178 (by kernel_rfl) rfl
theorem B2z {X : Nat → Prop} {t0 : Value} {R : Value → WP} {w : World} (h : A6F X t0 R w) : Fn PR X 178 #[t0] w R := C8 (args := [t0]) mixed Tryz.func178 (by kernel_rfl) h
def A2e (X : Nat → Prop) (t0 t1 : Value) (R : Value → WP) : WP :=
 jn (n := 0) (
 lp (n := 1) (fun L1 t3 =>
 jn (n := 0) (
 jn (n := 0) (
 A0 PR (binOp .add 3 t3 (.int .i64 2)) fun t17 =>
 L1 t17) fun J2 =>
 A6 PR (Instr.loadAt 9 t1) fun t19 =>
 B7 PR X 120 [t19, t3, (.int .i64 2)] fun t21 =>
 A0 PR (Instr.extract t21 0) fun t22 =>
 A0 PR (Instr.extract t21 1) fun t23 =>
 F5 PR X t0 [t22] fun t26 =>
 A0 PR (Op.unary .not t26) fun t27 =>
 B6 t27 (
 R (.tuple #[])) (
 J2)) fun J3 =>
 A6 PR (Instr.loadAt 9 t1) fun t13 =>
 A0 PR (A8 .len #[9] 0 [t13]) fun t14 =>
 A0 PR (binOp .lss 3 t3 t14) fun t15 =>
 B6 t15 (
 J3) (
 R (.tuple #[]))) (.int .i64 0)) fun J4 =>
 A6 PR (Instr.loadAt 9 t1) fun t6 =>
 A0 PR (A8 .len #[9] 0 [t6]) fun t7 =>
 A0 PR (binOp .rem 3 t7 (.int .i64 2)) fun t8 =>
 A0 PR (binOp .eql 3 t8 (.int .i64 1)) fun t9 =>
 B6 t9 (
 A6 PR (Instr.loadAt 9 t1) fun t10 =>
 A0 PR (binOp .add 9 t10 (.string (ByteArray.mk #[0]))) fun t11 =>
 B8 PR X (Instr.storeAt 9 t1 t11) <|
 J4) (
 J4)
theorem A7H : B0 PR 183 := A7 Tryz.func183 (by kernel_rfl) rfl
theorem A8F {X : Nat → Prop} {t0 t1 : Value} {R : Value → WP} {w : World} (h : A2e X t0 t1 R w) : Fn PR X 183 #[t0, t1] w R := C8 (args := [t0, t1]) mixed Tryz.func183 (by kernel_rfl) h
theorem A75 {X : Nat → Prop} {t0 t1 : Value} {K : Value → WP} {w : World} (h : Fn PR X 183 #[t0, t1] w K) : s7 PR X 183 [t0, t1] K w := ⟨A7H, h⟩
end Go.Proofs.YtlplkjgcfjdinaaGreat
namespace Go.Proofs.YtlplkjgcfjdinaaGreat
open Go
abbrev B53 (b : Nat) : Value := .func (.func 183) #[] #[.pointer (some ⟨b, 0, none⟩)]
theorem B7e (w : World) (s : ByteArray) : Fn PR B5 178 #[.string s] w (Rn [] w (fun b v => v = B53 b) fun b => [.pt b (.cells #[.string s] 9)]) := by
 refine B2z (TW.go (κ := false) (S := []) ?_)
 unfold A6F
 (have zz:=trivial;repeat((first|clear zz|with_reducible first|refine A3 ?_|refine A5 fun _=>?_|refine A4 fun _=>?_);try simp(disch:=first|omega|assumption|((repeat(first|exact A1|exact uH|apply A2|apply uT));first|done|fail)|(simp;first|done|omega|fail))[]))
 rename_i b
 exact l0 b rfl (by simp)
def B1N (s : ByteArray) (i : Nat) : List Value := [.int .u64 (k5 s (2 * i) 2 : Nat)]
def U9 (s : ByteArray) : Nat := (s.size + 1) / 2
def pad (s : ByteArray) : ByteArray := if s.size % 2 = 1 then s ++ ByteArray.mk #[0] else s
theorem B8B (s : ByteArray) : (pad s).size = 2 * U9 s := by
 unfold pad U9; split
 ·rw [ByteArray.size_append, show (ByteArray.mk #[0]).size = 1 from rfl]; omega
 ·omega
theorem B0x (s t : ByteArray) (i : Nat) : D4 (s ++ t) i = if i < s.size then D4 s i else D4 t (i - s.size) := by
 unfold D4
 rw [ByteArray.data_append, Array.getD_eq_getD_getElem?, Array.getElem?_append, Array.getD_eq_getD_getElem?, Array.getD_eq_getD_getElem?]
 simp only [ByteArray.size]
 split <;> rfl
theorem B41 (s : ByteArray) (i : Nat) : D4 (pad s) i = D4 s i := by
 unfold pad; split
 ·rw [B0x]; split
  ·rfl
  ·rename_i h
   have h1 : D4 s i = 0 := by unfold D4; rw [Array.getD_eq_getD_getElem?, Array.getElem?_eq_none (by simp only [ByteArray.size] at h; omega)]; rfl
   rw [h1]; unfold D4
   by_cases h2 : i - s.size = 0
   ·rw [h2]; rfl
   ·rw [Array.getD_eq_getD_getElem?, Array.getElem?_eq_none (by simp; omega)]; rfl
 ·rfl
theorem B93 (s : ByteArray) (a n : Nat) : k5 (pad s) a n = k5 s a n := by
 induction n with
 | zero => rfl
 | succ n ih => simp only [k5, ih, B41]
theorem B8q (b : Nat) (s : ByteArray) (hs : s.size < 2 ^ 60) : A1k (B53 b) [.pt b (.cells #[.string s] 9)] (fun _ _ => True) ((List.range (U9 s)).map (B1N s)) := by
 refine ⟨_, _, _, rfl, fun l J E hJ hE stJ stE hy w0 h0 => ?_⟩
 refine A75 (A8F (TW.at (κ := true) ?_ (hJ _ _ _ h0).1))
 unfold A2e
 have hp := B8B s
 have hnw : U9 s ≤ s.size := by unfold U9; omega
 have key : ∀ Lp : WP, TW true (B2 [Res.pt b (.cells #[.string s] 9)]) w0 [.pt b (.cells #[.string (pad s)] 9)] Lp → (if s.size % 2 = 1 then TW true (B2 [Res.pt b (.cells #[.string s] 9)]) w0 [.pt b (.cells #[.string (s ++ ByteArray.mk #[0])] 9)] Lp else TW true (B2 [Res.pt b (.cells #[.string s] 9)]) w0 [.pt b (.cells #[.string s] 9)] Lp) := by
  intro Lp h; unfold pad at h; split <;> simp_all
 have hrem : ((s.size : Int).tmod 2 = 1) = (s.size % 2 = 1) := by
  rw [Int.tmod_eq_emod_of_nonneg (by omega)]; exact propext (by omega)
 have hadd : s.size + (ByteArray.mk #[0]).size ≤ 9223372036854775807 := by rw [show (ByteArray.mk #[0]).size = 1 from rfl]; omega
 (have zz:=trivial;repeat((first|clear zz|with_reducible first|refine A3 ?_|refine A5 fun _=>?_|refine A4 fun _=>?_);try simp(disch:=first|omega|assumption|((repeat(first|exact A1|exact uH|apply A2|apply uT));first|done|fail)|(simp;first|done|omega|fail))[A1d, f7, hrem]))
 refine key _ ?_
 clear key
 refine B5J (fun i => i) (fun _ => [.pt b (.cells #[.string (pad s)] 9)]) (fun i => i ≤ U9 s) (fun i => U9 s - i) (fun i : Nat => .int .i64 (2 * (i : Int))) 0 hJ stJ h0 (Nat.zero_le _) fun i a hi hJi _ L hL => ?_
 by_cases hlt : i < U9 s
 ·have h2 : 2 * (i : Int) < (pad s).size := by omega
  (have zz:=trivial;repeat((first|clear zz|with_reducible first|refine A3 ?_|refine A5 fun _=>?_|refine A4 fun _=>?_);try simp(disch:=first|omega|assumption|((repeat(first|exact A1|exact uH|apply A2|apply uT));first|done|fail)|(simp;first|done|omega|fail))[h2]))
  refine C5 N9 (fun w' _ => A0w w' (pad s) (by omega) _ _) ?_
  have hg : A0n (pad s) (2 * (i : Int)) 2 = true := by simp only [A0n, decide_eq_true_eq]; omega
  have hv : A3K (pad s) (2 * (i : Int)) 2 = (k5 s (2 * i) 2 : Nat) := by
   unfold A3K; rw [if_pos hg, B93]; congr 2
  rw [hv, hg]
  (have zz:=trivial;repeat((first|clear zz|with_reducible first|refine A3 ?_|refine A5 fun _=>?_|refine A4 fun _=>?_);try simp(disch:=first|omega|assumption|((repeat(first|exact A1|exact uH|apply A2|apply uT));first|done|fail)|(simp;first|done|omega|fail))[]))
  refine A2s hJ hE stJ hy hJi (by simpa using hlt) (by simp [B1N]) (fun w3 h => ?_) (fun w3 h => ?_)
  ·(have zz:=trivial;repeat((first|clear zz|with_reducible first|refine A3 ?_|refine A5 fun _=>?_|refine A4 fun _=>?_);try simp(disch:=first|omega|assumption|((repeat(first|exact A1|exact uH|apply A2|apply uT));first|done|fail)|(simp;first|done|omega|fail))[]))
   intro w' hw'
   have := hL (i + 1) w' hlt (by omega) (stJ _ _ _ _ _ h hw')
   simpa [Int.mul_add] using this
  ·(have zz:=trivial;repeat((first|clear zz|with_reducible first|refine A3 ?_|refine A5 fun _=>?_|refine A4 fun _=>?_);try simp(disch:=first|omega|assumption|((repeat(first|exact A1|exact uH|apply A2|apply uT));first|done|fail)|(simp;first|done|omega|fail))[]))
   exact A0v stE h
 ·have h2 : ¬ 2 * (i : Int) < (pad s).size := by omega
  obtain rfl : i = U9 s := by omega
  (have zz:=trivial;repeat((first|clear zz|with_reducible first|refine A3 ?_|refine A5 fun _=>?_|refine A4 fun _=>?_);try simp(disch:=first|omega|assumption|((repeat(first|exact A1|exact uH|apply A2|apply uT));first|done|fail)|(simp;first|done|omega|fail))[h2]))
  exact A0u stJ (by simpa using hJi)
def A7u (s : ByteArray) : Nat → Nat
 | 0 => 0
 | i + 1 => A7u s i + k5 s (2 * i) 2
def fld (n : Nat) : Nat := if n = 0 then 0 else (n - 1) % 65535 + 1
def A2T (s : ByteArray) : Nat := fld (A7u s (U9 s))
theorem B7c (n : Nat) : fld (n / 65536 + n % 65536) = fld n := by
 unfold fld
 have h := Nat.div_add_mod n 65536
 by_cases h0 : n = 0
 ·subst h0; rfl
 ·rw [if_neg (by omega), if_neg h0]; omega
theorem B6P {n : Nat} (h : n ≤ 65535) : fld n = n := by unfold fld; split <;> omega
theorem B4K (s : ByteArray) (i : Nat) : A7u s i ≤ i * 65535 := by
 induction i with
 | zero => simp [A7u]
 | succ i ih => have := A5c s (2 * i) 2; simp only [A7u]; omega
theorem B7q (n : Nat) (h : n < 2 ^ 64) : IntKind.u64.wrap ((n % 2 ^ IntKind.u64.bits &&& 65535 % 2 ^ IntKind.u64.bits : Nat) : Int) = ((n % 65536 : Nat) : Int) := by
 rw [show (2 : Nat) ^ IntKind.u64.bits = 2 ^ 64 from rfl, Nat.mod_eq_of_lt h, show 65535 % 2 ^ 64 = 2 ^ 16 - 1 from rfl, Nat.and_two_pow_sub_one_eq_mod]
 exact A0Z (by omega) (by omega)
theorem C0D (w : World) (s : ByteArray) (hs : s.size < 2 ^ 40) : Fn PR B5 165 #[.string s] w (fun v w' => v = .int .i64 (A2T s : Nat) ∧ C6 [] w w') := by
 refine Fn.pure (B3q (TW.go (κ := false) (S := []) ?_))
 unfold A65
 (have zz:=trivial;repeat((first|clear zz|with_reducible first|refine A3 ?_|refine A5 fun _=>?_|refine A4 fun _=>?_);try simp(disch:=first|omega|assumption|((repeat(first|exact A1|exact uH|apply A2|apply uT));first|done|fail)|(simp;first|done|omega|fail))[]))
 rename_i bn
 refine G8 B1C (fun w' _ => B7e w' s) ?_
 rintro b v rfl
 have hnw : U9 s ≤ 2 ^ 39 := by unfold U9; omega
 refine A0p (B8q b s (by omega)) (by simp [B1N]) (fun _ (_ : Unit) => True) (fun i _ => [.pt bn (.cells #[.int .u64 ((A7u s i : Nat) : Int)] 122)]) (fun _ (_ : Unit) => False) (fun _ => []) () trivial ?_ ?_ ?_ ?_
 ·intros; trivial
 ·rintro i hi _ F _ K' hK _
  have hi' : i < U9 s := by simpa using hi
  have h1 := B4K s i
  have h2 := A5c s (2 * i) 2
  simp only [List.getElem_map, List.getElem_range, B1N, VF.app]
  (have zz:=trivial;repeat((first|clear zz|with_reducible first|refine A3 ?_|refine A5 fun _=>?_|refine A4 fun _=>?_);try simp(disch:=first|omega|assumption|((repeat(first|exact A1|exact uH|apply A2|apply uT));first|done|fail)|(simp;first|done|omega|fail))[]))
  refine TW.eqH ?_ (hK () trivial)
  simp [A7u]
 ·rintro _ _
  (have zz:=trivial;repeat((first|clear zz|with_reducible first|refine A3 ?_|refine A5 fun _=>?_|refine A4 fun _=>?_);try simp(disch:=first|omega|assumption|((repeat(first|exact A1|exact uH|apply A2|apply uT));first|done|fail)|(simp;first|done|omega|fail))[]))
  refine C2a (fun n : Nat => [.pt bn (.cells #[.int .u64 (n : Int)] 122)]) (fun n => fld n = A2T s ∧ n < 2 ^ 63) (fun n => n) _ ⟨by simp [A2T], by have := B4K s (U9 s); simp; omega⟩ ?_
  rintro n ⟨h1, h2⟩ L hL
  by_cases h3 : n ≤ 65535
  ·have h4 : (n : Int) ≤ 65535 := by omega
   (have zz:=trivial;repeat((first|clear zz|with_reducible first|refine A3 ?_|refine A5 fun _=>?_|refine A4 fun _=>?_);try simp(disch:=first|omega|assumption|((repeat(first|exact A1|exact uH|apply A2|apply uT));first|done|fail)|(simp;first|done|omega|fail))[h4]))
   rw [B6P h3] at h1
   exact A9 (by rw [h1])
  ·have h4 : ¬ (n : Int) ≤ 65535 := by omega
   have e1 : (n : Int).fdiv (2 ^ min 16 IntKind.u64.bits) = (n / 65536 : Nat) := by rw [show (2 : Int) ^ min 16 IntKind.u64.bits = 65536 from rfl, Int.fdiv_eq_ediv_of_nonneg _ (by omega)]; omega
   (have zz:=trivial;repeat((first|clear zz|with_reducible first|refine A3 ?_|refine A5 fun _=>?_|refine A4 fun _=>?_);try simp(disch:=first|omega|assumption|((repeat(first|exact A1|exact uH|apply A2|apply uT));first|done|fail)|(simp;first|done|omega|fail))[h4]))
   refine TW.eqH ?_ (hL (n / 65536 + n % 65536) ⟨by rw [B7c]; exact h1, by omega⟩ (by omega))
   rw [e1, B7q n (by omega), A0Z (by omega) (by omega)]; simp
 ·rintro _ _ h; exact h.elim
theorem B98 (w : World) (s : ByteArray) (hs : s.size < 2 ^ 40) : Fn PR B5 147 #[.string s] w (fun v w' => v = .bool (decide (A2T s = 65535)) ∧ C6 [] w w') := by
 refine Fn.pure (B3Y (TW.go (κ := false) (S := []) ?_))
 unfold A69
 refine C5 B2q (fun w' _ => C0D w' s hs) ?_
 (have zz:=trivial;repeat((first|clear zz|with_reducible first|refine A3 ?_|refine A5 fun _=>?_|refine A4 fun _=>?_);try simp(disch:=first|omega|assumption|((repeat(first|exact A1|exact uH|apply A2|apply uT));first|done|fail)|(simp;first|done|omega|fail))[]))
 exact A9 (by simp; omega)
end Go.Proofs.YtlplkjgcfjdinaaGreat
namespace Go.Proofs.YtlplkjgcfjdinaaGreat
open Go
def gv (s : ByteArray) (a n : Nat) : Nat := if a + n ≤ s.size then k5 s a n else 0
theorem A3z (s : ByteArray) (a n : Nat) (h1 : 1 ≤ n) (h8 : n ≤ 8) : A3K s a n = gv s a n := by
 unfold A3K gv
 by_cases h : a + n ≤ s.size
 ·rw [if_pos (by simp only [A0n, decide_eq_true_eq]; omega), if_pos h]; simp
 ·rw [if_neg (by simp only [A0n, decide_eq_true_eq]; omega), if_neg h]; rfl
theorem A87 (s : ByteArray) (a : Nat) : gv s a 1 < 256 := by
 unfold gv; split
 ·exact A5c s a 1
 ·omega
theorem A3S (s : ByteArray) (a : Nat) : gv s a 2 < 65536 := by
 unfold gv; split
 ·exact A5c s a 2
 ·omega
theorem A19 (w : World) (s : ByteArray) (hs : s.size < 2 ^ 40) (b a n : Nat) (h1 : 1 ≤ n) (h2 : n ≤ 2) (hc : w.cell? ⟨b, 0, none⟩ = some (.string s)) :
  Fn PR B5 141 #[.int .i64 (a : Int), .int .i64 (n : Int), .pointer (some ⟨b, 0, none⟩)] w (fun v w' => v = .int .i64 (gv s a n : Nat) ∧ C6 [] w w') := by
 refine Fn.pure (A8v (TW.go (κ := false) (S := []) ?_))
 unfold A2j
 (have zz:=trivial;repeat((first|clear zz|with_reducible first|refine A3 ?_|refine A5 fun _=>?_|refine A4 fun _=>?_|refine E1 fun _=>?_|refine E3 (hK:=fun _=>?_)|refine D9 (hK:=fun _=>?_)|refine E2 (hK:=fun _=>?_)|refine D8 (hK:=fun _=>?_)|refine E0 (hK:=fun _=>?_));try simp(disch:=first|omega|assumption|((repeat(first|exact A1|exact uH|apply A2|apply uT));first|done|fail)|(simp;first|done|omega|fail))[hc]))
 refine C5 N9 (fun w' _ => A0w w' s (by omega) _ _) ?_
 rw [A3z s a n h1 (by omega)]
 have hlt : gv s a n < 65536 := by
  obtain rfl | rfl : n = 1 ∨ n = 2 := by omega
  ·have := A87 s a; omega
  ·exact A3S s a
 (have zz:=trivial;repeat((first|clear zz|with_reducible first|refine A3 ?_|refine A5 fun _=>?_|refine A4 fun _=>?_|refine E1 fun _=>?_|refine E3 (hK:=fun _=>?_)|refine D9 (hK:=fun _=>?_)|refine E2 (hK:=fun _=>?_)|refine D8 (hK:=fun _=>?_)|refine E0 (hK:=fun _=>?_));try simp(disch:=first|omega|assumption|((repeat(first|exact A1|exact uH|apply A2|apply uT));first|done|fail)|(simp;first|done|omega|fail))[]))
 exact A9 rfl
theorem B9r (w : World) (s : ByteArray) (hs : s.size < 2 ^ 40) (b : Nat) (hc : w.cell? ⟨b, 0, none⟩ = some (.string s)) :
  Fn PR B5 141 #[.int .i64 0, .int .i64 1, .pointer (some ⟨b, 0, none⟩)] w (fun v w' => v = .int .i64 (gv s 0 1 : Nat) ∧ C6 [] w w') := A19 w s hs b 0 1 (by omega) (by omega) hc
theorem C0C (w : World) (s : ByteArray) (hs : s.size < 2 ^ 40) (b : Nat) (hc : w.cell? ⟨b, 0, none⟩ = some (.string s)) :
  Fn PR B5 141 #[.int .i64 2, .int .i64 2, .pointer (some ⟨b, 0, none⟩)] w (fun v w' => v = .int .i64 (gv s 2 2 : Nat) ∧ C6 [] w w') := A19 w s hs b 2 2 (by omega) (by omega) hc
theorem B9z (w : World) (s : ByteArray) (hs : s.size < 2 ^ 40) (b : Nat) (hc : w.cell? ⟨b, 0, none⟩ = some (.string s)) :
  Fn PR B5 141 #[.int .i64 9, .int .i64 1, .pointer (some ⟨b, 0, none⟩)] w (fun v w' => v = .int .i64 (gv s 9 1 : Nat) ∧ C6 [] w w') := A19 w s hs b 9 1 (by omega) (by omega) hc
def B1Y (x : Value × Int × Bool) : List Value := [x.1, .int .i64 x.2.1]
def A1y (l : List (Value × Int × Bool)) : Int := match l.find? (·.2.2) with | some x => x.2.1 | none => 0
theorem B3S {l : List (Value × Int × Bool)} (h : ∀ i (hi : i < l.length), l[i].2.2 = false) : A1y l = 0 := by
 have : l.find? (·.2.2) = none := by
  rw [List.find?_eq_none]; intro x hx; obtain ⟨i, hi, rfl⟩ := List.getElem_of_mem hx; simp [h i hi]
 simp [A1y, this]
theorem B3T {l : List (Value × Int × Bool)} {i : Nat} (hi : i < l.length) (hp : l[i].2.2 = true) (h : ∀ j (hj : j < i), (l[j]'(by omega)).2.2 = false) : A1y l = l[i].2.1 := by
 have : l.find? (·.2.2) = some l[i] := by
  rw [List.find?_eq_some_iff_getElem]
  exact ⟨hp, i, hi, rfl, fun j hj => by simp [h j hj]⟩
 simp [A1y, this]
theorem B8f (w : World) (v : Value) (l : List (Value × Int × Bool)) (hl : l.length < 1000) (hv : E4 w v l.length (l.flatMap B1Y))
  (hg : ∀ i (hi : i < l.length), (∀ j (hj : j < i), (l[j]'(by omega)).2.2 = false) → ∃ f cap, l[i].1 = .func (.func f) #[] cap ∧ B0 PR f ∧ ∀ w', KS false [] w w' → Fn PR B5 f cap w' (fun v w'' => v = .bool l[i].2.2 ∧ C6 [] w' w'')) :
  Fn PR B5 142 #[v] w (fun u w' => u = .int .i64 (A1y l) ∧ C6 [] w w') := by
 refine Fn.pure (B2L (TW.go (κ := false) (S := []) ?_))
 unfold A5m
 obtain ⟨a, c, rfl, hrow⟩ := hv.form
 (have zz:=trivial;repeat((first|clear zz|with_reducible first|refine A3 ?_|refine A5 fun _=>?_|refine A4 fun _=>?_|refine E1 fun _=>?_|refine E3 (hK:=fun _=>?_)|refine D9 (hK:=fun _=>?_)|refine E2 (hK:=fun _=>?_)|refine D8 (hK:=fun _=>?_)|refine E0 (hK:=fun _=>?_));try simp(disch:=first|omega|assumption|((repeat(first|exact A1|exact uH|apply A2|apply uT));first|done|fail)|(simp;first|done|omega|fail))[]))
 refine q7 (α := Unit) l.length (fun _ _ => .int .i64 0) (fun _ _ => []) (fun i _ => ∀ j (hj : j < i), ∀ (h : j < l.length), l[j].2.2 = false) () (by intro j hj; omega) ?_
 rintro i _ hi hpre L hL
 by_cases hlt : i < l.length
 ·obtain ⟨b, o, rfl, hr⟩ := hrow (by omega)
  have hx : l[i]? = some l[i] := List.getElem?_eq_getElem hlt
  have hrn := hr.at (f := B1Y) (k := 2) (fun _ => rfl) hx
  have hpre' : ∀ j (hj : j < i), (l[j]'(by omega)).2.2 = false := fun j hj => hpre j hj (by omega)
  obtain ⟨f, cap, he, hent, hcall⟩ := hg i hlt hpre'
  rw [B1Y, he] at hrn
  (have zz:=trivial;repeat((first|clear zz|with_reducible first|refine A3 ?_|refine A5 fun _=>?_|refine A4 fun _=>?_|refine E1 fun _=>?_|refine E3 (hK:=fun _=>?_)|refine D9 (hK:=fun _=>?_)|refine E2 (hK:=fun _=>?_)|refine D8 (hK:=fun _=>?_)|refine E0 (hK:=fun _=>?_));try simp(disch:=first|omega|assumption|((repeat(first|exact A1|exact uH|apply A2|apply uT));first|done|fail)|(simp;first|done|omega|fail))[hlt, hrn]))
  refine A7l hent (φ := fun v => v = .bool l[i].2.2) (fun w' hw' => by simpa using hcall w' hw'.ks) ?_
  rintro _ rfl
  cases hb : l[i].2.2 with
  | true =>
   (have zz:=trivial;repeat((first|clear zz|with_reducible first|refine A3 ?_|refine A5 fun _=>?_|refine A4 fun _=>?_|refine E1 fun _=>?_|refine E3 (hK:=fun _=>?_)|refine D9 (hK:=fun _=>?_)|refine E2 (hK:=fun _=>?_)|refine D8 (hK:=fun _=>?_)|refine E0 (hK:=fun _=>?_));try simp(disch:=first|omega|assumption|((repeat(first|exact A1|exact uH|apply A2|apply uT));first|done|fail)|(simp;first|done|omega|fail))[]))
   exact A9 (by rw [B3T hlt hb hpre'])
  | false =>
   (have zz:=trivial;repeat((first|clear zz|with_reducible first|refine A3 ?_|refine A5 fun _=>?_|refine A4 fun _=>?_|refine E1 fun _=>?_|refine E3 (hK:=fun _=>?_)|refine D9 (hK:=fun _=>?_)|refine E2 (hK:=fun _=>?_)|refine D8 (hK:=fun _=>?_)|refine E0 (hK:=fun _=>?_));try simp(disch:=first|omega|assumption|((repeat(first|exact A1|exact uH|apply A2|apply uT));first|done|fail)|(simp;first|done|omega|fail))[]))
   refine Sels.tw .nil (hL hlt () ?_)
   intro j hj h
   by_cases hji : j = i
   ·subst hji; exact hb
   ·exact hpre j (by omega) h
 ·obtain rfl : i = l.length := by omega
  (have zz:=trivial;repeat((first|clear zz|with_reducible first|refine A3 ?_|refine A5 fun _=>?_|refine A4 fun _=>?_|refine E1 fun _=>?_|refine E3 (hK:=fun _=>?_)|refine D9 (hK:=fun _=>?_)|refine E2 (hK:=fun _=>?_)|refine D8 (hK:=fun _=>?_)|refine E0 (hK:=fun _=>?_));try simp(disch:=first|omega|assumption|((repeat(first|exact A1|exact uH|apply A2|apply uT));first|done|fail)|(simp;first|done|omega|fail))[]))
  exact A9 (by rw [B3S fun j hj => hpre j hj hj])
structure HeadV where
 src : ByteArray
 dst : ByteArray
 proto : Nat
 rest : ByteArray
 e : Nat
abbrev U6 : ByteArray := ByteArray.mk #[]
def HeadV.err (e : Nat) : HeadV := ⟨U6, U6, 0, U6, e⟩
def HeadV.val (h : HeadV) : Value := .tuple #[.agg #[.string h.src, .string h.dst, .int .i64 h.proto], .string h.rest, .int .i64 h.e]
def H9 (s : ByteArray) : Nat := gv s 0 1 % 16 * 4
def A7y (s : ByteArray) : Nat := if s.size < 20 then 2 else if gv s 0 1 / 16 ≠ 4 then 3 else if H9 s < 20 ∨ s.size < H9 s ∨ gv s 2 2 < H9 s ∨ s.size < gv s 2 2 then 4
 else if A2T (s.extract 0 (H9 s)) ≠ 65535 then 5 else if gv s 6 2 % 16384 ≠ 0 then 6 else 0
def s9 (s : ByteArray) : HeadV := if A7y s = 0 then ⟨s.extract 12 16, s.extract 16 20, gv s 9 1, s.extract (H9 s) (gv s 2 2), 0⟩ else .err (A7y s)
theorem C16 (n : Nat) (h : n < 256) : IntKind.i64.wrap ((n % 2 ^ IntKind.i64.bits &&& 15 % 2 ^ IntKind.i64.bits : Nat) : Int) = ((n % 16 : Nat) : Int) := by
 rw [show (2 : Nat) ^ IntKind.i64.bits = 2 ^ 64 from rfl, Nat.mod_eq_of_lt (by omega), show 15 % 2 ^ 64 = 2 ^ 4 - 1 from rfl, Nat.and_two_pow_sub_one_eq_mod]
 exact d9 (by omega) (by omega)
theorem C2G (n : Nat) (h : n < 65536) : IntKind.i64.wrap ((n % 2 ^ IntKind.i64.bits &&& 16383 % 2 ^ IntKind.i64.bits : Nat) : Int) = ((n % 16384 : Nat) : Int) := by
 rw [show (2 : Nat) ^ IntKind.i64.bits = 2 ^ 64 from rfl, Nat.mod_eq_of_lt (by omega), show 16383 % 2 ^ 64 = 2 ^ 14 - 1 from rfl, Nat.and_two_pow_sub_one_eq_mod]
 exact d9 (by omega) (by omega)
section
variable (w : World) (s : ByteArray) (hs : s.size < 2 ^ 40) (b1 b5 b6 b7 : Nat) (h1 : w.cell? ⟨b1, 0, none⟩ = some (.string s)) (h5 : w.cell? ⟨b5, 0, none⟩ = some (.func (.func 141) #[] #[.pointer (some ⟨b1, 0, none⟩)]))
 (h6 : w.cell? ⟨b6, 0, none⟩ = some (.int .i64 (H9 s : Nat))) (h7 : w.cell? ⟨b7, 0, none⟩ = some (.int .i64 (gv s 2 2 : Nat)))
include h1
theorem C27 : Fn PR B5 143 #[.pointer (some ⟨b1, 0, none⟩)] w (fun v w' => v = .bool (decide (s.size < 20)) ∧ C6 [] w w') := by
 refine Fn.pure (A8d (TW.go (κ := false) (S := []) ?_))
 unfold A2a
 (have zz:=trivial;repeat((first|clear zz|with_reducible first|refine A3 ?_|refine A5 fun _=>?_|refine A4 fun _=>?_|refine E1 fun _=>?_|refine E3 (hK:=fun _=>?_)|refine D9 (hK:=fun _=>?_)|refine E2 (hK:=fun _=>?_)|refine D8 (hK:=fun _=>?_)|refine E0 (hK:=fun _=>?_));try simp(disch:=first|omega|assumption|((repeat(first|exact A1|exact uH|apply A2|apply uT));first|done|fail)|(simp;first|done|omega|fail))[h1]))
 exact A9 (by simp; omega)
include hs h5
theorem C1q : Fn PR B5 144 #[.pointer (some ⟨b5, 0, none⟩)] w (fun v w' => v = .bool (decide (gv s 0 1 / 16 ≠ 4)) ∧ C6 [] w w') := by
 refine Fn.pure (A81 (TW.go (κ := false) (S := []) ?_))
 unfold A2b
 (have zz:=trivial;repeat((first|clear zz|with_reducible first|refine A3 ?_|refine A5 fun _=>?_|refine A4 fun _=>?_|refine E1 fun _=>?_|refine E3 (hK:=fun _=>?_)|refine D9 (hK:=fun _=>?_)|refine E2 (hK:=fun _=>?_)|refine D8 (hK:=fun _=>?_)|refine E0 (hK:=fun _=>?_));try simp(disch:=first|omega|assumption|((repeat(first|exact A1|exact uH|apply A2|apply uT));first|done|fail)|(simp;first|done|omega|fail))[h1, h5]))
 refine C5 a7 (fun w' hw' => A19 w' s hs b1 0 1 (by omega) (by omega) (hw'.ks.cell (by simp) h1)) ?_
 have e1 : ((gv s 0 1 : Nat) : Int).fdiv (2 ^ min 4 IntKind.i64.bits) = (gv s 0 1 / 16 : Nat) := by rw [show (2 : Int) ^ min 4 IntKind.i64.bits = 16 from rfl, Int.fdiv_eq_ediv_of_nonneg _ (by omega)]; omega
 (have zz:=trivial;repeat((first|clear zz|with_reducible first|refine A3 ?_|refine A5 fun _=>?_|refine A4 fun _=>?_|refine E1 fun _=>?_|refine E3 (hK:=fun _=>?_)|refine D9 (hK:=fun _=>?_)|refine E2 (hK:=fun _=>?_)|refine D8 (hK:=fun _=>?_)|refine E0 (hK:=fun _=>?_));try simp(disch:=first|omega|assumption|((repeat(first|exact A1|exact uH|apply A2|apply uT));first|done|fail)|(simp;first|done|omega|fail))[]))
 rw [e1]
 exact A9 (by simp; omega)
theorem C2d : Fn PR B5 148 #[.pointer (some ⟨b5, 0, none⟩)] w (fun v w' => v = .bool (decide (gv s 6 2 % 16384 ≠ 0)) ∧ C6 [] w w') := by
 refine Fn.pure (A85 (TW.go (κ := false) (S := []) ?_))
 unfold A2V
 (have zz:=trivial;repeat((first|clear zz|with_reducible first|refine A3 ?_|refine A5 fun _=>?_|refine A4 fun _=>?_|refine E1 fun _=>?_|refine E3 (hK:=fun _=>?_)|refine D9 (hK:=fun _=>?_)|refine E2 (hK:=fun _=>?_)|refine D8 (hK:=fun _=>?_)|refine E0 (hK:=fun _=>?_));try simp(disch:=first|omega|assumption|((repeat(first|exact A1|exact uH|apply A2|apply uT));first|done|fail)|(simp;first|done|omega|fail))[h1, h5]))
 refine C5 a7 (fun w' hw' => A19 w' s hs b1 6 2 (by omega) (by omega) (hw'.ks.cell (by simp) h1)) ?_
 have := A3S s 6
 (have zz:=trivial;repeat((first|clear zz|with_reducible first|refine A3 ?_|refine A5 fun _=>?_|refine A4 fun _=>?_|refine E1 fun _=>?_|refine E3 (hK:=fun _=>?_)|refine D9 (hK:=fun _=>?_)|refine E2 (hK:=fun _=>?_)|refine D8 (hK:=fun _=>?_)|refine E0 (hK:=fun _=>?_));try simp(disch:=first|omega|assumption|((repeat(first|exact A1|exact uH|apply A2|apply uT));first|done|fail)|(simp;first|done|omega|fail))[]))
 rw [C2G _ this]
 exact A9 (by simp; omega)
omit h5
include h6
theorem C29 (hl : H9 s ≤ s.size) : Fn PR B5 146 #[.pointer (some ⟨b1, 0, none⟩), .pointer (some ⟨b6, 0, none⟩)] w (fun v w' => v = .bool (decide (A2T (s.extract 0 (H9 s)) ≠ 65535)) ∧ C6 [] w w') := by
 refine Fn.pure (A8a (TW.go (κ := false) (S := []) ?_))
 unfold A2m
 have hl' : ((H9 s : Nat) : Int) ≤ s.size := by omega
 (have zz:=trivial;repeat((first|clear zz|with_reducible first|refine A3 ?_|refine A5 fun _=>?_|refine A4 fun _=>?_|refine E1 fun _=>?_|refine E3 (hK:=fun _=>?_)|refine D9 (hK:=fun _=>?_)|refine E2 (hK:=fun _=>?_)|refine D8 (hK:=fun _=>?_)|refine E0 (hK:=fun _=>?_));try simp(disch:=first|omega|assumption|((repeat(first|exact A1|exact uH|apply A2|apply uT));first|done|fail)|(simp;first|done|omega|fail))[h1, h6]))
 refine C5 B2U (fun w' hw' => B98 w' _ (by simp [ByteArray.size_extract]; omega)) ?_
 (have zz:=trivial;repeat((first|clear zz|with_reducible first|refine A3 ?_|refine A5 fun _=>?_|refine A4 fun _=>?_|refine E1 fun _=>?_|refine E3 (hK:=fun _=>?_)|refine D9 (hK:=fun _=>?_)|refine E2 (hK:=fun _=>?_)|refine D8 (hK:=fun _=>?_)|refine E0 (hK:=fun _=>?_));try simp(disch:=first|omega|assumption|((repeat(first|exact A1|exact uH|apply A2|apply uT));first|done|fail)|(simp;first|done|omega|fail))[]))
 exact A9 (by simp)
include h7
theorem C2s : Fn PR B5 145 #[.pointer (some ⟨b6, 0, none⟩), .pointer (some ⟨b1, 0, none⟩), .pointer (some ⟨b7, 0, none⟩)] w
  (fun v w' => v = .bool (decide (H9 s < 20 ∨ s.size < H9 s ∨ gv s 2 2 < H9 s ∨ s.size < gv s 2 2)) ∧ C6 [] w w') := by
 have hs_ := hs
 refine Fn.pure (A8H (TW.go (κ := false) (S := []) ?_))
 unfold A2x
 by_cases g1 : H9 s < 20
 ·have g1' : ((H9 s : Nat) : Int) < 20 := by omega
  (have zz:=trivial;repeat((first|clear zz|with_reducible first|refine A3 ?_|refine A5 fun _=>?_|refine A4 fun _=>?_|refine E1 fun _=>?_|refine E3 (hK:=fun _=>?_)|refine D9 (hK:=fun _=>?_)|refine E2 (hK:=fun _=>?_)|refine D8 (hK:=fun _=>?_)|refine E0 (hK:=fun _=>?_));try simp(disch:=first|omega|assumption|((repeat(first|exact A1|exact uH|apply A2|apply uT));first|done|fail)|(simp;first|done|omega|fail))[h1, h6, h7, g1, g1']))
  exact A9 (by simp [g1])
 have g1' : ¬ ((H9 s : Nat) : Int) < 20 := by omega
 by_cases g2 : s.size < H9 s
 ·have g2' : ((s.size : Nat) : Int) < H9 s := by omega
  (have zz:=trivial;repeat((first|clear zz|with_reducible first|refine A3 ?_|refine A5 fun _=>?_|refine A4 fun _=>?_|refine E1 fun _=>?_|refine E3 (hK:=fun _=>?_)|refine D9 (hK:=fun _=>?_)|refine E2 (hK:=fun _=>?_)|refine D8 (hK:=fun _=>?_)|refine E0 (hK:=fun _=>?_));try simp(disch:=first|omega|assumption|((repeat(first|exact A1|exact uH|apply A2|apply uT));first|done|fail)|(simp;first|done|omega|fail))[h1, h6, h7, g1, g1', g2, g2']))
  exact A9 (by simp [g2])
 have g2' : ¬ ((s.size : Nat) : Int) < H9 s := by omega
 by_cases g3 : gv s 2 2 < H9 s
 ·have g3' : ((gv s 2 2 : Nat) : Int) < H9 s := by omega
  (have zz:=trivial;repeat((first|clear zz|with_reducible first|refine A3 ?_|refine A5 fun _=>?_|refine A4 fun _=>?_|refine E1 fun _=>?_|refine E3 (hK:=fun _=>?_)|refine D9 (hK:=fun _=>?_)|refine E2 (hK:=fun _=>?_)|refine D8 (hK:=fun _=>?_)|refine E0 (hK:=fun _=>?_));try simp(disch:=first|omega|assumption|((repeat(first|exact A1|exact uH|apply A2|apply uT));first|done|fail)|(simp;first|done|omega|fail))[h1, h6, h7, g1, g1', g2, g2', g3, g3']))
  exact A9 (by simp [g3])
 have g3' : ¬ ((gv s 2 2 : Nat) : Int) < H9 s := by omega
 (have zz:=trivial;repeat((first|clear zz|with_reducible first|refine A3 ?_|refine A5 fun _=>?_|refine A4 fun _=>?_|refine E1 fun _=>?_|refine E3 (hK:=fun _=>?_)|refine D9 (hK:=fun _=>?_)|refine E2 (hK:=fun _=>?_)|refine D8 (hK:=fun _=>?_)|refine E0 (hK:=fun _=>?_));try simp(disch:=first|omega|assumption|((repeat(first|exact A1|exact uH|apply A2|apply uT));first|done|fail)|(simp;first|done|omega|fail))[h1, h6, h7, g1, g1', g2, g2', g3, g3']))
 exact A9 (by simp [g1, g2, g3])
end
theorem B3W (w : World) (s : ByteArray) (hs : s.size < 2 ^ 40) : Fn PR B5 114 #[.string s] w (fun v w' => v = (s9 s).val ∧ C6 [] w w') := by
 refine Fn.pure (B2g (TW.go (κ := false) (S := []) ?_))
 unfold A5d
 (have zz:=trivial;repeat((first|clear zz|with_reducible first|refine A3 ?_|refine A5 fun _=>?_|refine A4 fun _=>?_|refine E1 fun _=>?_|refine E3 (hK:=fun _=>?_)|refine D9 (hK:=fun _=>?_)|refine E2 (hK:=fun _=>?_)|refine D8 (hK:=fun _=>?_)|refine E0 (hK:=fun _=>?_));try simp(disch:=first|omega|assumption|((repeat(first|exact A1|exact uH|apply A2|apply uT));first|done|fail)|(simp;first|done|omega|fail))[]))
 rename_i b1 b2 b5
 refine B4j (α := Nat × Nat) (fun _ => True) (fun x => [.pt x.1 (.cells #[.int .i64 (H9 s : Nat)] 3), .pt x.2 (.cells #[.int .i64 (gv s 2 2 : Nat)] 3),
  .pt b5 (.cells #[.func (.func 141) #[] #[.pointer (some ⟨b1, 0, none⟩)]] 57), .pt b2 (.cells #[.string U6, .string U6, .int .i64 0] 184), .pt b1 (.cells #[.string s] 9)])
  (fun x => .pointer (some ⟨x.1, 0, none⟩)) (fun x => .pointer (some ⟨x.2, 0, none⟩)) ?_ ?_
 ·rintro ⟨b6, b7⟩ _
  simp only
  (have zz:=trivial;repeat((first|clear zz|with_reducible first|refine A3 ?_|refine A5 fun _=>?_|refine A4 fun _=>?_|refine E1 fun _=>?_|refine E3 (hK:=fun _=>?_)|refine D9 (hK:=fun _=>?_)|refine E2 (hK:=fun _=>?_)|refine D8 (hK:=fun _=>?_)|refine E0 (hK:=fun _=>?_));try simp(disch:=first|omega|assumption|((repeat(first|exact A1|exact uH|apply A2|apply uT));first|done|fail)|(simp;first|done|omega|fail))[]))
  rename_i bl
  refine C5 (u := .int .i64 (A7y s : Nat)) B02 (fun w' hw' => ?_) ?_
  ·have h1 := hw'.cell1 (b := b1) (by (repeat constructor))
   have h5 := hw'.cell1 (b := b5) (by (repeat constructor))
   have h6 := hw'.cell1 (b := b6) (by (repeat constructor))
   have h7 := hw'.cell1 (b := b7) (by (repeat constructor))
   have hk : ∀ {w2 : World} {b : Nat} {v : Value}, KS false [] w' w2 → w'.cell? ⟨b, 0, none⟩ = some v → w2.cell? ⟨b, 0, none⟩ = some v := fun h e => h.cell (by simp) e
   have hE : A1y [(.func (.func 143) #[] #[.pointer (some ⟨b1, 0, none⟩)], 2, decide (s.size < 20)), (.func (.func 144) #[] #[.pointer (some ⟨b5, 0, none⟩)], 3, decide (gv s 0 1 / 16 ≠ 4)),
    (.func (.func 145) #[] #[.pointer (some ⟨b6, 0, none⟩), .pointer (some ⟨b1, 0, none⟩), .pointer (some ⟨b7, 0, none⟩)], 4, decide (H9 s < 20 ∨ s.size < H9 s ∨ gv s 2 2 < H9 s ∨ s.size < gv s 2 2)),
    (.func (.func 146) #[] #[.pointer (some ⟨b1, 0, none⟩), .pointer (some ⟨b6, 0, none⟩)], 5, decide (A2T (s.extract 0 (H9 s)) ≠ 65535)), (.func (.func 148) #[] #[.pointer (some ⟨b5, 0, none⟩)], 6, decide (gv s 6 2 % 16384 ≠ 0))] = (A7y s : Nat) := by
    unfold A1y A7y
    by_cases c1 : s.size < 20
    ·simp [c1]
    by_cases c2 : gv s 0 1 / 16 ≠ 4
    ·simp [c1, c2]
    by_cases c3 : H9 s < 20 ∨ s.size < H9 s ∨ gv s 2 2 < H9 s ∨ s.size < gv s 2 2
    ·simp [c1, c2, c3]
    by_cases c4 : A2T (s.extract 0 (H9 s)) ≠ 65535
    ·simp [c1, c2, c3, c4]
    by_cases c5 : gv s 6 2 % 16384 ≠ 0
    ·simp [c1, c2, c3, c4, c5]
    ·simp [c1, c2, c3, c4, c5]
   rw [← hE]
   refine B8f w' _ _ (by simp) ?_ ?_
   ·have := H2.own (κ := false) (S := []) (w0 := w) (e := 219) (k := 2) (q := 5) (v := .slice (some ⟨bl, 0, none⟩) 5 5) (by (repeat constructor)) w' hw'
    simpa [B1Y] using this
   ·intro i hi hpre
    have hi' : i = 0 ∨ i = 1 ∨ i = 2 ∨ i = 3 ∨ i = 4 := by simp at hi; omega
    rcases hi' with rfl | rfl | rfl | rfl | rfl
    ·exact ⟨_, _, rfl, A7F, fun w2 h => C27 w2 s b1 (hk h h1)⟩
    ·exact ⟨_, _, rfl, A7J, fun w2 h => C1q w2 s hs b1 b5 (hk h h1) (hk h h5)⟩
    ·exact ⟨_, _, rfl, A7z, fun w2 h => C2s w2 s hs b1 b6 b7 (hk h h1) (hk h h6) (hk h h7)⟩
    ·have h2 := hpre 2 (by omega)
     simp only [List.getElem_cons_succ, List.getElem_cons_zero, decide_eq_false_iff_not] at h2
     exact ⟨_, _, rfl, A7c, fun w2 h => C29 w2 s hs b1 b6 (hk h h1) (hk h h6) (by omega)⟩
    ·exact ⟨_, _, rfl, A7K, fun w2 h => C2d w2 s hs b1 b5 (hk h h1) (hk h h5)⟩
  ·by_cases he : A7y s = 0
   ·have hE := he
    unfold A7y at hE
    by_cases c1 : s.size < 20
    ·simp [c1] at hE
    by_cases c2 : gv s 0 1 / 16 ≠ 4
    ·simp [c1, c2] at hE
    by_cases c3 : H9 s < 20 ∨ s.size < H9 s ∨ gv s 2 2 < H9 s ∨ s.size < gv s 2 2
    ·simp [c1, c2, c3] at hE
    clear hE
    have hg91 := A87 s 9
    (have zz:=trivial;repeat((first|clear zz|with_reducible first|refine A3 ?_|refine A5 fun _=>?_|refine A4 fun _=>?_|refine E1 fun _=>?_|refine E3 (hK:=fun _=>?_)|refine D9 (hK:=fun _=>?_)|refine E2 (hK:=fun _=>?_)|refine D8 (hK:=fun _=>?_)|refine E0 (hK:=fun _=>?_));try simp(disch:=first|omega|assumption|((repeat(first|exact A1|exact uH|apply A2|apply uT));first|done|fail)|(simp;first|done|omega|fail))[he]))
    refine C5 a7 (fun w' hw' => B9z w' s hs b1 (hw'.cell1 (by (repeat constructor)))) ?_
    (have zz:=trivial;repeat((first|clear zz|with_reducible first|refine A3 ?_|refine A5 fun _=>?_|refine A4 fun _=>?_|refine E1 fun _=>?_|refine E3 (hK:=fun _=>?_)|refine D9 (hK:=fun _=>?_)|refine E2 (hK:=fun _=>?_)|refine D8 (hK:=fun _=>?_)|refine E0 (hK:=fun _=>?_));try simp(disch:=first|omega|assumption|((repeat(first|exact A1|exact uH|apply A2|apply uT));first|done|fail)|(simp;first|done|omega|fail))[]))
    exact A9 (by simp [s9, he, HeadV.val])
   ·(have zz:=trivial;repeat((first|clear zz|with_reducible first|refine A3 ?_|refine A5 fun _=>?_|refine A4 fun _=>?_|refine E1 fun _=>?_|refine E3 (hK:=fun _=>?_)|refine D9 (hK:=fun _=>?_)|refine E2 (hK:=fun _=>?_)|refine D8 (hK:=fun _=>?_)|refine E0 (hK:=fun _=>?_));try simp(disch:=first|omega|assumption|((repeat(first|exact A1|exact uH|apply A2|apply uT));first|done|fail)|(simp;first|done|omega|fail))[he]))
    exact A9 (by simp [s9, he, HeadV.val, HeadV.err])
 ·intro J hJ
  have hl := A87 s 0
  have e15 := C16 _ hl
  have em : ((gv s 0 1 : Nat) : Int) % 16 * 4 = (H9 s : Nat) := by simp [H9]
  have hJ' := fun b6 b7 => hJ (b6, b7) trivial
  simp only at hJ'
  clear hJ
  iterate 16 all_goals (try (first
   | exact fun _ _ => trivial
   | with_reducible refine And.intro ?_ ?_
   | (with_reducible apply C5 a7); (first | with_reducible exact fun w' hw' => B9r w' s hs b1 (hw'.cell1 (by ((repeat (first | exact A1 | exact Up.here | exact Sel.here | apply A2 | apply Up.there | apply Sel.there)); first | done | fail))) | with_reducible exact fun w' hw' => C0C w' s hs b1 (hw'.cell1 (by ((repeat (first | exact A1 | exact Up.here | exact Sel.here | apply A2 | apply Up.there | apply Sel.there)); first | done | fail))))
   | with_reducible refine A4 fun _ => ?_
   | simp(disch:=first|omega|assumption|((repeat(first|exact A1|exact uH|apply A2|apply uT));first|done|fail)|(simp;first|done|omega|fail))[e15, em]
   | with_reducible exact Sels.tw (by ((repeat (first | exact Sels.nil | (apply Sels.cons; · ((repeat (first | exact A1 | exact Up.here | exact Sel.here | apply A2 | apply Up.there | apply Sel.there)); first | done | fail)))); first | done | fail)) (hJ' _ _)))
  all_goals trace_state
end Go.Proofs.YtlplkjgcfjdinaaGreat
namespace Go.Proofs.YtlplkjgcfjdinaaGreat
open Go
def A4T : List Nat → ByteArray → List ByteArray
 | [], s => [s]
 | n :: ns, s => s.extract 0 n :: A4T ns (s.extract n s.size)
theorem C0S (w : World) (v : Value) (ns : List Nat) (s : ByteArray) (hn : ns.length < 100) (hv : E4 w v ns.length (ns.map fun n : Nat => Value.int .i64 (n : Int))) (hs : ns.sum ≤ s.size) (hs2 : s.size < 2 ^ 40) :
  Fn PR B5 149 #[.string s, v] w (Rn [] w (fun v u => u = v) fun v => [.own 9 1 v (ns.length + 1) ((A4T ns s).map .string)]) := by
 refine B4d (TW.go (κ := false) (S := []) ?_)
 unfold A8S
 obtain ⟨a, c, rfl, hrow⟩ := hv.form
 (have zz:=trivial;repeat((first|clear zz|with_reducible first|refine A3 ?_|refine A5 fun _=>?_|refine A4 fun _=>?_|refine E1 fun _=>?_|refine E3 (hK:=fun _=>?_)|refine D9 (hK:=fun _=>?_)|refine E2 (hK:=fun _=>?_)|refine D8 (hK:=fun _=>?_)|refine E0 (hK:=fun _=>?_));try simp(disch:=first|omega|assumption|((repeat(first|exact A1|exact uH|apply A2|apply uT));first|done|fail)|(simp;first|done|omega|fail))[]))
 refine A1g 9 1 ?_
 refine B2V (α := Value × ByteArray × List ByteArray) ns.length (fun _ x => x.1) (fun _ x => .string x.2.1) (fun i x => [.own 9 1 x.1 i (x.2.2.map .string)])
  (fun i x => A4T ns s = x.2.2 ++ A4T (ns.drop i) x.2.1 ∧ (ns.drop i).sum ≤ x.2.1.size ∧ x.2.1.size ≤ s.size) (.slice none 0 0, s, []) ⟨by simp, by simpa using hs, Nat.le_refl _⟩ ?_
 rintro i ⟨v, r, d⟩ hi ⟨h1, h2, h3⟩ L hL
 simp only at h1 h2 h3 hL ⊢
 by_cases hlt : i < ns.length
 ·obtain ⟨b, o, rfl, hr⟩ := hrow (by omega)
  have hx : ns[i]? = some ns[i] := List.getElem?_eq_getElem hlt
  have hc := hr.one hx
  rw [List.drop_eq_getElem_cons hlt] at h1 h2
  simp only [List.sum_cons, A4T] at h1 h2
  have hle : ((ns[i] : Nat) : Int) ≤ r.size := by omega
  (have zz:=trivial;repeat((first|clear zz|with_reducible first|refine A3 ?_|refine A5 fun _=>?_|refine A4 fun _=>?_|refine E1 fun _=>?_|refine E3 (hK:=fun _=>?_)|refine D9 (hK:=fun _=>?_)|refine E2 (hK:=fun _=>?_)|refine D8 (hK:=fun _=>?_)|refine E0 (hK:=fun _=>?_));try simp(disch:=first|omega|assumption|((repeat(first|exact A1|exact uH|apply A2|apply uT));first|done|fail)|(simp;first|done|omega|fail))[hlt, hc]))
  refine A1b (by (repeat constructor)) (H2.own (by (repeat constructor))) (by decide) (by simp) (by simp) (by simp only [maxLen]; omega) (by omega) fun a' c' => ?_
  (have zz:=trivial;repeat((first|clear zz|with_reducible first|refine A3 ?_|refine A5 fun _=>?_|refine A4 fun _=>?_|refine E1 fun _=>?_|refine E3 (hK:=fun _=>?_)|refine D9 (hK:=fun _=>?_)|refine E2 (hK:=fun _=>?_)|refine D8 (hK:=fun _=>?_)|refine E0 (hK:=fun _=>?_));try simp(disch:=first|omega|assumption|((repeat(first|exact A1|exact uH|apply A2|apply uT));first|done|fail)|(simp;first|done|omega|fail))[hlt, hle]))
  have := hL hlt (.slice a' (i + 1) c', r.extract ns[i] r.size, d ++ [r.extract 0 ns[i]]) ⟨by rw [h1]; simp, by rw [ByteArray.size_extract]; omega, by rw [ByteArray.size_extract]; omega⟩
  simp only [List.map_append, List.map_cons, List.map_nil] at this
  exact Sels.tw (by (repeat' constructor)) this
 ·obtain rfl : i = ns.length := by omega
  (have zz:=trivial;repeat((first|clear zz|with_reducible first|refine A3 ?_|refine A5 fun _=>?_|refine A4 fun _=>?_|refine E1 fun _=>?_|refine E3 (hK:=fun _=>?_)|refine D9 (hK:=fun _=>?_)|refine E2 (hK:=fun _=>?_)|refine D8 (hK:=fun _=>?_)|refine E0 (hK:=fun _=>?_));try simp(disch:=first|omega|assumption|((repeat(first|exact A1|exact uH|apply A2|apply uT));first|done|fail)|(simp;first|done|omega|fail))[]))
  refine A1b (by (repeat constructor)) (H2.own (by (repeat constructor))) (by decide) (by simp) (by simp) (by simp only [maxLen]; omega) (by omega) fun a' c' => ?_
  simp only [List.drop_length, A4T] at h1
  rw [h1]
  exact l0 _ rfl (by simp)
def A9B (s : ByteArray) : Nat := if s.size < 40 then 2 else if gv s 0 1 / 16 ≠ 6 then 3 else if s.size - 40 < gv s 4 2 then 4 else 0
def l4 (s : ByteArray) : HeadV := if A9B s = 0 then ⟨s.extract 8 24, s.extract 24 40, gv s 6 1, s.extract 40 (40 + gv s 4 2), 0⟩ else .err (A9B s)
theorem A39 (s : ByteArray) (a b i : Nat) (hb : b ≤ s.size) (hi : i < b - a) : D4 (s.extract a b) i = D4 s (a + i) := by
 unfold D4
 rw [Array.getD_eq_getD_getElem?, Array.getD_eq_getD_getElem?, ByteArray.data_extract, Array.getElem?_extract]
 rw [if_pos (by simp only [ByteArray.size] at hb; omega)]
theorem B3Z (s : ByteArray) (a b i n : Nat) (hb : b ≤ s.size) (hn : i + n ≤ b - a) : k5 (s.extract a b) i n = k5 s (a + i) n := by
 induction n with
 | zero => rfl
 | succ n ih => simp only [k5]; rw [ih (by omega), A39 s a b _ hb (by omega), Nat.add_assoc]
theorem B5a {s : ByteArray} {a n : Nat} (h : a + n ≤ s.size) : gv s a n = k5 s a n := if_pos h
theorem B44 (s : ByteArray) (a b i n : Nat) (hb : b ≤ s.size) (hn : i + n ≤ b - a) (hab : a ≤ b) : gv (s.extract a b) i n = gv s (a + i) n := by
 rw [B5a (by rw [ByteArray.size_extract]; omega), B5a (by omega), B3Z s a b i n hb hn]
theorem B6L {s : ByteArray} {a : Nat} (h : a < s.size) : gv s a 1 = D4 s a := by rw [B5a (by omega)]; simp [k5]
theorem A7P (s : ByteArray) (a b c d : Nat) (hb : b ≤ s.size) (hd : a + d ≤ b) : (s.extract a b).extract c d = s.extract (a + c) (a + d) := by
 apply ByteArray.ext
 rw [ByteArray.data_extract, ByteArray.data_extract, ByteArray.data_extract, Array.extract_extract]
 congr 1; omega
def B8b (s : ByteArray) : Nat → List Nat → List ByteArray
 | a, [] => [s.extract a s.size]
 | a, n :: ns => s.extract a (a + n) :: B8b s (a + n) ns
theorem B9d (s : ByteArray) (ns : List Nat) : ∀ a, a + ns.sum ≤ s.size → A4T ns (s.extract a s.size) = B8b s a ns := by
 induction ns with
 | nil => intro a _; rfl
 | cons n ns ih =>
  intro a h
  simp only [List.sum_cons] at h
  simp only [A4T, B8b]
  rw [A7P _ _ _ _ _ (by omega) (by omega), A7P _ _ _ _ _ (by omega) (by rw [ByteArray.size_extract]; omega), ByteArray.size_extract, Nat.add_zero]
  rw [show a + (min s.size s.size - a) = s.size from by omega, ih _ (by omega)]
theorem B3j (s : ByteArray) : s.extract 0 s.size = s := by
 apply ByteArray.ext; rw [ByteArray.data_extract]; exact Array.extract_size ..
theorem B4q {s : ByteArray} (h : 40 ≤ s.size) : A4T [4, 2, 1, 1, 16, 16] s = [s.extract 0 4, s.extract 4 6, s.extract 6 7, s.extract 7 8, s.extract 8 24, s.extract 24 40, s.extract 40 s.size] := by
 have := B9d s [4, 2, 1, 1, 16, 16] 0 (by simp; omega)
 rw [B3j] at this; rw [this]; rfl
theorem B3d (w : World) (s : ByteArray) (hs : s.size < 2 ^ 40) : Fn PR B5 117 #[.string s] w (fun v w' => v = (l4 s).val ∧ C6 [] w w') := by
 refine Fn.pure (B2T (TW.go (κ := false) (S := []) ?_))
 unfold A56
 by_cases c1 : s.size < 40
 ·have c1' : (s.size : Int) < 40 := by omega
  (have zz:=trivial;repeat((first|clear zz|with_reducible first|refine A3 ?_|refine A5 fun _=>?_|refine A4 fun _=>?_|refine E1 fun _=>?_|refine E3 (hK:=fun _=>?_)|refine D9 (hK:=fun _=>?_)|refine E2 (hK:=fun _=>?_)|refine D8 (hK:=fun _=>?_)|refine E0 (hK:=fun _=>?_));try simp(disch:=first|omega|assumption|((repeat(first|exact A1|exact uH|apply A2|apply uT));first|done|fail)|(simp;first|done|omega|fail))[c1'])); exact A9 (by simp [l4, A9B, c1, HeadV.val, HeadV.err])
 have c1' : ¬ (s.size : Int) < 40 := by omega
 obtain ⟨by0, hb0, hb1⟩ := u0 (s := s) (i := 0) (by omega)
 have hg0 : gv s 0 1 = D4 s 0 := B6L (by omega)
 have e1 : ((by0.toNat : Nat) : Int).fdiv (2 ^ min 4 IntKind.u8.bits) = (gv s 0 1 / 16 : Nat) := by rw [show (2 : Int) ^ min 4 IntKind.u8.bits = 16 from rfl, Int.fdiv_eq_ediv_of_nonneg _ (by omega), hb1, hg0]; omega
 have hb0' : s[(0 : Int).toNat]? = some by0 := hb0
 by_cases c2 : gv s 0 1 / 16 = 6
 case neg =>
  have c2' : ¬ ((gv s 0 1 / 16 : Nat) : Int) = 6 := by omega
  (have zz:=trivial;repeat((first|clear zz|with_reducible first|refine A3 ?_|refine A5 fun _=>?_|refine A4 fun _=>?_|refine E1 fun _=>?_|refine E3 (hK:=fun _=>?_)|refine D9 (hK:=fun _=>?_)|refine E2 (hK:=fun _=>?_)|refine D8 (hK:=fun _=>?_)|refine E0 (hK:=fun _=>?_));try simp(disch:=first|omega|assumption|((repeat(first|exact A1|exact uH|apply A2|apply uT));first|done|fail)|(simp;first|done|omega|fail))[c1', V4]))
  rw [e1, if_neg c2']
  (have zz:=trivial;repeat((first|clear zz|with_reducible first|refine A3 ?_|refine A5 fun _=>?_|refine A4 fun _=>?_|refine E1 fun _=>?_|refine E3 (hK:=fun _=>?_)|refine D9 (hK:=fun _=>?_)|refine E2 (hK:=fun _=>?_)|refine D8 (hK:=fun _=>?_)|refine E0 (hK:=fun _=>?_));try simp(disch:=first|omega|assumption|((repeat(first|exact A1|exact uH|apply A2|apply uT));first|done|fail)|(simp;first|done|omega|fail))[])); exact A9 (by simp [l4, A9B, c1, c2, HeadV.val, HeadV.err])
 have c2' : ((gv s 0 1 / 16 : Nat) : Int) = 6 := by omega
 (have zz:=trivial;repeat((first|clear zz|with_reducible first|refine A3 ?_|refine A5 fun _=>?_|refine A4 fun _=>?_|refine E1 fun _=>?_|refine E3 (hK:=fun _=>?_)|refine D9 (hK:=fun _=>?_)|refine E2 (hK:=fun _=>?_)|refine D8 (hK:=fun _=>?_)|refine E0 (hK:=fun _=>?_));try simp(disch:=first|omega|assumption|((repeat(first|exact A1|exact uH|apply A2|apply uT));first|done|fail)|(simp;first|done|omega|fail))[c1', V4]))
 rw [e1, if_pos c2']
 (have zz:=trivial;repeat((first|clear zz|with_reducible first|refine A3 ?_|refine A5 fun _=>?_|refine A4 fun _=>?_|refine E1 fun _=>?_|refine E3 (hK:=fun _=>?_)|refine D9 (hK:=fun _=>?_)|refine E2 (hK:=fun _=>?_)|refine D8 (hK:=fun _=>?_)|refine E0 (hK:=fun _=>?_));try simp(disch:=first|omega|assumption|((repeat(first|exact A1|exact uH|apply A2|apply uT));first|done|fail)|(simp;first|done|omega|fail))[]))
 rename_i bh bl
 refine G8 B3p (fun w' hw' => C0S w' _ [4, 2, 1, 1, 16, 16] s (by simp) ?_ (by simp; omega) (by omega)) ?_
 ·have := H2.own (κ := false) (S := []) (w0 := w) (e := 3) (k := 1) (q := 6) (v := .slice (some ⟨bl, 0, none⟩) 6 6) (by (repeat constructor)) w' hw'
  simpa using this
 rintro v _ rfl
 rw [B4q (by omega)]
 simp only [List.length_cons, List.length_nil, List.map_cons, List.map_nil, List.cons_append, List.nil_append]
 refine r7 (by (repeat constructor)) (by omega) fun g c hv => ?_
 subst hv
 (have zz:=trivial;repeat((first|clear zz|with_reducible first|refine A3 ?_|refine A5 fun _=>?_|refine A4 fun _=>?_|refine E1 fun _=>?_|refine E3 (hK:=fun _=>?_)|refine D9 (hK:=fun _=>?_)|refine E2 (hK:=fun _=>?_)|refine D8 (hK:=fun _=>?_)|refine E0 (hK:=fun _=>?_));try simp(disch:=first|omega|assumption|((repeat(first|exact A1|exact uH|apply A2|apply uT));first|done|fail)|(simp;first|done|omega|fail))[]))
 refine C5 N9 (fun w' _ => A0w w' _ (by simp; omega) _ _) ?_
 have hgv := A3z (s.extract 4 6) 0 2 (by omega) (by omega)
 rw [B44 s 4 6 0 2 (by omega) (by omega) (by omega)] at hgv
 simp only [Int.natCast_zero, Int.cast_ofNat_Int] at hgv
 have hlt := A3S s 4
 rw [hgv]
 (have zz:=trivial;repeat((first|clear zz|with_reducible first|refine A3 ?_|refine A5 fun _=>?_|refine A4 fun _=>?_|refine E1 fun _=>?_|refine E3 (hK:=fun _=>?_)|refine D9 (hK:=fun _=>?_)|refine E2 (hK:=fun _=>?_)|refine D8 (hK:=fun _=>?_)|refine E0 (hK:=fun _=>?_));try simp(disch:=first|omega|assumption|((repeat(first|exact A1|exact uH|apply A2|apply uT));first|done|fail)|(simp;first|done|omega|fail))[]))
 refine B4W (fun c3 => ?_) (fun c3 => ?_)
 ·(have zz:=trivial;repeat((first|clear zz|with_reducible first|refine A3 ?_|refine A5 fun _=>?_|refine A4 fun _=>?_|refine E1 fun _=>?_|refine E3 (hK:=fun _=>?_)|refine D9 (hK:=fun _=>?_)|refine E2 (hK:=fun _=>?_)|refine D8 (hK:=fun _=>?_)|refine E0 (hK:=fun _=>?_));try simp(disch:=first|omega|assumption|((repeat(first|exact A1|exact uH|apply A2|apply uT));first|done|fail)|(simp;first|done|omega|fail))[]))
  exact A9 (by simp [l4, A9B, c1, c2, c3, HeadV.val, HeadV.err])
 ·obtain ⟨by6, hb6, hb6'⟩ := u0 (s := s.extract 6 7) (i := 0) (by simp; omega)
  have hp : D4 (s.extract 6 7) 0 = gv s 6 1 := by rw [A39 s 6 7 0 (by omega) (by omega), B6L (by omega)]
  have hb6'' : (s.extract 6 7)[(0 : Int).toNat]? = some by6 := hb6
  have hle : ((gv s 4 2 : Nat) : Int) ≤ (s.extract 40 s.size).size := by rw [ByteArray.size_extract]; omega
  (have zz:=trivial;repeat((first|clear zz|with_reducible first|refine A3 ?_|refine A5 fun _=>?_|refine A4 fun _=>?_|refine E1 fun _=>?_|refine E3 (hK:=fun _=>?_)|refine D9 (hK:=fun _=>?_)|refine E2 (hK:=fun _=>?_)|refine D8 (hK:=fun _=>?_)|refine E0 (hK:=fun _=>?_));try simp(disch:=first|omega|assumption|((repeat(first|exact A1|exact uH|apply A2|apply uT));first|done|fail)|(simp;first|done|omega|fail))[V4]))
  have h6 := A87 s 6
  have w6 : IntKind.i64.wrap (gv s 6 1 : Nat) = (gv s 6 1 : Nat) := d9 (by omega) (by omega)
  rw [hb6', hp]
  exact A9 (by rw [A7P s 40 s.size 0 _ (by omega) (by omega)]; simp [l4, A9B, c1, c2, c3, HeadV.val, w6])
end Go.Proofs.YtlplkjgcfjdinaaGreat
namespace Go.Proofs.YtlplkjgcfjdinaaGreat
open Go
theorem B1L {κ : Bool} {X : Nat → Prop} {S : List Nat} {w0 : World} {H : List Res} {K : Value → WP} {g u : Value} {name : String} {args : List Value} {f : FuncId} {args' : Array Value} (hr : ∀ w, (callMethod g name args.toArray).run PR w = .ok (.enter f args') w)
  (hf : ∀ w, LW κ S w0 H w → Fn PR B5 f args' w (fun v w' => v = u ∧ C6 [] w w')) (hK : TW κ S w0 H (K u)) : TW κ S w0 H (inv PR X g name args K) := fun w hw =>
 ⟨f, args', hr w, (hf w hw).use fun v w' ⟨h1, h2⟩ hsk => by subst h1; exact hK w' (hw.ext (h2.ks fun _ => hsk))⟩
theorem B4N {P : Program} {t : TypeId} {n m : Nat} {z : Value} {ms : Array (String × TypeId)} {e : Nat} (h : TI P t (.interface ms) n m z) : EqV P (e + 1) t .nilIface .nilIface true := by
 intro w
 simp only [Op.equalIn, Sem.run_bind, h.run_und, Result.andThen_ok]; rfl
theorem B4Q {P : Program} {t : TypeId} {n m : Nat} {z : Value} {ms : Array (String × TypeId)} {e : Nat} (h : TI P t (.interface ms) n m z) (u : TypeId) (v : Value) : EqV P (e + 1) t (.iface u v) .nilIface false := by
 intro w
 simp only [Op.equalIn, Sem.run_bind, h.run_und, Result.andThen_ok]; rfl
theorem B3w {t : TypeId} {op : BinOp} {x y : Operand} {g : Value} {r : Bool} {K : Value → WP} (hg : (eqGuard .eql t x y g .nilIface) = pure ()) (he : EqV PR 10000 t g .nilIface r) : A6 PR (q6 .eql t x y g .nilIface) K = K (.bool r) := by
 funext w
 refine Y7 ?_ K
 have := he w
 simp [q6, hg, binOp, Op.equal, Op.maxDepth, this]
theorem A0T {x : Operand} {c : Value} {K : Value → WP} : A6 PR (q6 .eql 192 x (.const c) .nilIface .nilIface) K = K (.bool true) := B3w (op := .eql) (by cases x <;> rfl) (B4N (e := 9999) B1S)
theorem A0S {x y : Operand} {K : Value → WP} {u : TypeId} {v : Value} : A6 PR (q6 .eql 192 x y (.iface u v) .nilIface) K = K (.bool false) := B3w (op := .eql) (by rfl) (B4Q (e := 9999) B1S u v)
abbrev B1m : Value := .iface 224 (.agg #[])
abbrev B2P : Value := .iface 225 (.agg #[])
def f8 : List (Int × Value) := [(6, B1m), (17, B2P)]
theorem B0V (w : World) : Fn PR B5 119 #[] w (Rn [] w (fun r v => v = .map (some r)) fun r => [.pt r (d3 (Value.int .i64) f8)]) := by
 refine A9y (TW.go (κ := false) (S := []) ?_)
 unfold A3g
 refine A9M (Value.int .i64) fun r => ?_
 (have zz:=trivial;repeat((first|clear zz|with_reducible first|refine A3 ?_|refine A5 fun _=>?_|refine A4 fun _=>?_);try simp(disch:=first|omega|assumption|((repeat(first|exact A1|exact uH|apply A2|apply uT));first|done|fail)|(simp;first|done|omega|fail))[]))
 refine A4K B1V (KeyT.int F6) (k := 6) (by (repeat constructor)) ?_
 (have zz:=trivial;repeat((first|clear zz|with_reducible first|refine A3 ?_|refine A5 fun _=>?_|refine A4 fun _=>?_);try simp(disch:=first|omega|assumption|((repeat(first|exact A1|exact uH|apply A2|apply uT));first|done|fail)|(simp;first|done|omega|fail))[]))
 refine A4K B1V (KeyT.int F6) (k := 17) (by (repeat constructor)) ?_
 exact l0 r rfl (by simp [a8, f8])
def A57 (s : ByteArray) : Nat × Nat := if s.size < 20 then (0, 2) else if D4 s 12 / 16 * 4 < 20 ∨ s.size < D4 s 12 / 16 * 4 then (0, 8) else (D4 s 13, 0)
def A5x (s : ByteArray) : Nat × Nat := if s.size < 8 then (0, 2) else if gv s 4 2 < 8 ∨ s.size < gv s 4 2 then (0, 4) else (0, 0)
theorem B3M (w : World) (s : ByteArray) (hs : s.size < 2 ^ 40) : Fn PR B5 217 #[.agg #[], .string s] w (fun v w' => v = .tuple #[.int .i64 (A57 s).1, .int .i64 (A57 s).2] ∧ C6 [] w w') := by
 refine Fn.pure (A6j (TW.go (κ := false) (S := []) ?_))
 unfold A1P
 by_cases c1 : s.size < 20
 ·have c1' : (s.size : Int) < 20 := by omega
  (have zz:=trivial;repeat((first|clear zz|with_reducible first|refine A3 ?_|refine A5 fun _=>?_|refine A4 fun _=>?_);try simp(disch:=first|omega|assumption|((repeat(first|exact A1|exact uH|apply A2|apply uT));first|done|fail)|(simp;first|done|omega|fail))[c1'])); exact A9 (by simp [A57, c1])
 have c1' : ¬ (s.size : Int) < 20 := by omega
 obtain ⟨by0, hb0, hb1⟩ := u0 (s := s) (i := 12) (by omega)
 obtain ⟨by1, hb2, hb3⟩ := u0 (s := s) (i := 13) (by omega)
 have hb0' : s[(12 : Int).toNat]? = some by0 := hb0
 have hb2' : s[(13 : Int).toNat]? = some by1 := hb2
 have hl0 := w8 s 12
 have hl1 := w8 s 13
 have e1 : ((by0.toNat : Nat) : Int).fdiv (2 ^ min 4 IntKind.u8.bits) = (D4 s 12 / 16 : Nat) := by rw [show (2 : Int) ^ min 4 IntKind.u8.bits = 16 from rfl, Int.fdiv_eq_ediv_of_nonneg _ (by omega), hb1]; omega
 have e2 : IntKind.i64.wrap (by1.toNat : Nat) = (D4 s 13 : Nat) := by rw [d9 (by omega) (by omega), hb3]
 have l1 : ∀ n : Nat, ((n * 4 : Nat) : Int) = (n : Int) * 4 := by omega
 by_cases c2 : D4 s 12 / 16 * 4 < 20
 ·have c2' : ((D4 s 12 : Nat) : Int) / 16 * 4 < 20 := by omega
  (have zz:=trivial;repeat((first|clear zz|with_reducible first|refine A3 ?_|refine A5 fun _=>?_|refine A4 fun _=>?_);try simp(disch:=first|omega|assumption|((repeat(first|exact A1|exact uH|apply A2|apply uT));first|done|fail)|(simp;first|done|omega|fail))[c1', V4]))
  rw [e1]
  (have zz:=trivial;repeat((first|clear zz|with_reducible first|refine A3 ?_|refine A5 fun _=>?_|refine A4 fun _=>?_);try simp(disch:=first|omega|assumption|((repeat(first|exact A1|exact uH|apply A2|apply uT));first|done|fail)|(simp;first|done|omega|fail))[c2']))
  exact A9 (by simp [A57, c1, c2])
 have c2' : ¬ ((D4 s 12 : Nat) : Int) / 16 * 4 < 20 := by omega
 by_cases c3 : s.size < D4 s 12 / 16 * 4
 ·have c3' : (s.size : Int) < ((D4 s 12 : Nat) : Int) / 16 * 4 := by omega
  (have zz:=trivial;repeat((first|clear zz|with_reducible first|refine A3 ?_|refine A5 fun _=>?_|refine A4 fun _=>?_);try simp(disch:=first|omega|assumption|((repeat(first|exact A1|exact uH|apply A2|apply uT));first|done|fail)|(simp;first|done|omega|fail))[c1', V4]))
  rw [e1]
  (have zz:=trivial;repeat((first|clear zz|with_reducible first|refine A3 ?_|refine A5 fun _=>?_|refine A4 fun _=>?_);try simp(disch:=first|omega|assumption|((repeat(first|exact A1|exact uH|apply A2|apply uT));first|done|fail)|(simp;first|done|omega|fail))[c2', c3']))
  exact A9 (by simp [A57, c1, c2, c3])
 have c3' : ¬ (s.size : Int) < ((D4 s 12 : Nat) : Int) / 16 * 4 := by omega
 (have zz:=trivial;repeat((first|clear zz|with_reducible first|refine A3 ?_|refine A5 fun _=>?_|refine A4 fun _=>?_);try simp(disch:=first|omega|assumption|((repeat(first|exact A1|exact uH|apply A2|apply uT));first|done|fail)|(simp;first|done|omega|fail))[c1', V4]))
 rw [e1]
 (have zz:=trivial;repeat((first|clear zz|with_reducible first|refine A3 ?_|refine A5 fun _=>?_|refine A4 fun _=>?_);try simp(disch:=first|omega|assumption|((repeat(first|exact A1|exact uH|apply A2|apply uT));first|done|fail)|(simp;first|done|omega|fail))[c2', c3', V4, e2]))
 exact A9 (by simp [A57, c1, c2, c3, hb3])
def z1 : ByteArray := ByteArray.mk #[0]
def A27 (f : Int) : ByteArray × Nat := if f < 0 ∨ 255 < f then (U6, 1) else (A7q z1 8 ++ ByteArray.mk #[80] ++ F8 f 1 ++ A7q z1 6, 0)
def A4d (f : Int) : ByteArray × Nat := if f ≠ 0 then (U6, 1) else (ByteArray.mk #[0, 8, 0, 0], 0)
theorem C2S (w : World) : Fn PR B5 219 #[.string (ByteArray.mk #[0]), .int .i64 8] w (fun v w' => v = .string (A7q z1 8) ∧ C6 [] w w') := B0K w z1 8 (by omega) (by decide)
theorem C2W (w : World) : Fn PR B5 219 #[.string (ByteArray.mk #[0]), .int .i64 6] w (fun v w' => v = .string (A7q z1 6) ∧ C6 [] w w') := B0K w z1 6 (by omega) (by decide)
theorem A1G (c : Nat) : (A7q z1 c).size = c := by
 have : ∀ (l : List UInt8) (n : Nat), (Lib.repeatL l n).length = n * l.length := by
  intro l n
  induction n with
  | zero => simp [Lib.repeatL]
  | succ n ih => simp [Lib.repeatL, ih, Nat.add_mul, Nat.add_comm]
 show (Lib.repeatL z1.data.toList c).toArray.size = c
 rw [List.size_toArray, this]; simp [z1]
theorem B7D (w : World) (f : Int) : Fn PR B5 218 #[.agg #[], .int .i64 f] w (fun v w' => v = .tuple #[.string (A27 f).1, .int .i64 (A27 f).2] ∧ C6 [] w w') := by
 refine Fn.pure (A8N (TW.go (κ := false) (S := []) ?_))
 unfold A2W
 by_cases c1 : f < 0
 ·(have zz:=trivial;repeat((first|clear zz|with_reducible first|refine A3 ?_|refine A5 fun _=>?_|refine A4 fun _=>?_);try simp(disch:=first|omega|assumption|((repeat(first|exact A1|exact uH|apply A2|apply uT));first|done|fail)|(simp;first|done|omega|fail))[c1])); exact A9 (by simp [A27, c1])
 by_cases c2 : 255 < f
 ·(have zz:=trivial;repeat((first|clear zz|with_reducible first|refine A3 ?_|refine A5 fun _=>?_|refine A4 fun _=>?_);try simp(disch:=first|omega|assumption|((repeat(first|exact A1|exact uH|apply A2|apply uT));first|done|fail)|(simp;first|done|omega|fail))[c1, c2])); exact A9 (by simp [A27, c2])
 (have zz:=trivial;repeat((first|clear zz|with_reducible first|refine A3 ?_|refine A5 fun _=>?_|refine A4 fun _=>?_);try simp(disch:=first|omega|assumption|((repeat(first|exact A1|exact uH|apply A2|apply uT));first|done|fail)|(simp;first|done|omega|fail))[c1, c2]))
 have h8 := A1G 8
 have h6 := A1G 6
 refine C5 A1D (fun w' hw' => C2S w') ?_
 (have zz:=trivial;repeat((first|clear zz|with_reducible first|refine A3 ?_|refine A5 fun _=>?_|refine A4 fun _=>?_);try simp(disch:=first|omega|assumption|((repeat(first|exact A1|exact uH|apply A2|apply uT));first|done|fail)|(simp;first|done|omega|fail))[c1, c2, f7]))
 refine C5 G7 (fun w' hw' => k6 w' _ _) ?_
 (have zz:=trivial;repeat((first|clear zz|with_reducible first|refine A3 ?_|refine A5 fun _=>?_|refine A4 fun _=>?_);try simp(disch:=first|omega|assumption|((repeat(first|exact A1|exact uH|apply A2|apply uT));first|done|fail)|(simp;first|done|omega|fail))[c1, c2, f7]))
 refine C5 A1D (fun w' hw' => C2W w') ?_
 (have zz:=trivial;repeat((first|clear zz|with_reducible first|refine A3 ?_|refine A5 fun _=>?_|refine A4 fun _=>?_);try simp(disch:=first|omega|assumption|((repeat(first|exact A1|exact uH|apply A2|apply uT));first|done|fail)|(simp;first|done|omega|fail))[c1, c2, f7]))
 exact A9 (by simp [A27, c1, c2])
theorem B3E (w : World) (s : ByteArray) (hs : s.size < 2 ^ 40) : Fn PR B5 233 #[.agg #[], .string s] w (fun v w' => v = .tuple #[.int .i64 (A5x s).1, .int .i64 (A5x s).2] ∧ C6 [] w w') := by
 refine Fn.pure (A6r (TW.go (κ := false) (S := []) ?_))
 unfold A1Z
 by_cases c1 : s.size < 8
 ·have c1' : (s.size : Int) < 8 := by omega
  (have zz:=trivial;repeat((first|clear zz|with_reducible first|refine A3 ?_|refine A5 fun _=>?_|refine A4 fun _=>?_);try simp(disch:=first|omega|assumption|((repeat(first|exact A1|exact uH|apply A2|apply uT));first|done|fail)|(simp;first|done|omega|fail))[c1'])); exact A9 (by simp [A5x, c1])
 have c1' : ¬ (s.size : Int) < 8 := by omega
 (have zz:=trivial;repeat((first|clear zz|with_reducible first|refine A3 ?_|refine A5 fun _=>?_|refine A4 fun _=>?_);try simp(disch:=first|omega|assumption|((repeat(first|exact A1|exact uH|apply A2|apply uT));first|done|fail)|(simp;first|done|omega|fail))[c1']))
 refine C5 N9 (fun w' _ => A0w w' s (by omega) _ _) ?_
 have e1 := A3z s 4 2 (by omega) (by omega)
 have e1' : A3K s 4 2 = gv s 4 2 := e1
 have hg := A3S s 4
 by_cases c2 : gv s 4 2 < 8
 ·have c2' : ((gv s 4 2 : Nat) : Int) < 8 := by omega
  (have zz:=trivial;repeat((first|clear zz|with_reducible first|refine A3 ?_|refine A5 fun _=>?_|refine A4 fun _=>?_);try simp(disch:=first|omega|assumption|((repeat(first|exact A1|exact uH|apply A2|apply uT));first|done|fail)|(simp;first|done|omega|fail))[e1', c2, c2']))
  exact A9 (by simp [A5x, c1, c2])
 have c2' : ¬ ((gv s 4 2 : Nat) : Int) < 8 := by omega
 by_cases c3 : s.size < gv s 4 2
 ·have c3' : ((s.size : Nat) : Int) < gv s 4 2 := by omega
  (have zz:=trivial;repeat((first|clear zz|with_reducible first|refine A3 ?_|refine A5 fun _=>?_|refine A4 fun _=>?_);try simp(disch:=first|omega|assumption|((repeat(first|exact A1|exact uH|apply A2|apply uT));first|done|fail)|(simp;first|done|omega|fail))[e1', c2, c2', c3, c3']))
  exact A9 (by simp [A5x, c1, c2, c3])
 have c3' : ¬ ((s.size : Nat) : Int) < gv s 4 2 := by omega
 (have zz:=trivial;repeat((first|clear zz|with_reducible first|refine A3 ?_|refine A5 fun _=>?_|refine A4 fun _=>?_);try simp(disch:=first|omega|assumption|((repeat(first|exact A1|exact uH|apply A2|apply uT));first|done|fail)|(simp;first|done|omega|fail))[e1', c2, c2', c3, c3']))
 exact A9 (by simp [A5x, c1, c2, c3])
theorem B6g (w : World) (f : Int) : Fn PR B5 234 #[.agg #[], .int .i64 f] w (fun v w' => v = .tuple #[.string (A4d f).1, .int .i64 (A4d f).2] ∧ C6 [] w w') := by
 refine Fn.pure (A8b (TW.go (κ := false) (S := []) ?_))
 unfold A21
 by_cases c1 : f = 0
 ·(have zz:=trivial;repeat((first|clear zz|with_reducible first|refine A3 ?_|refine A5 fun _=>?_|refine A4 fun _=>?_);try simp(disch:=first|omega|assumption|((repeat(first|exact A1|exact uH|apply A2|apply uT));first|done|fail)|(simp;first|done|omega|fail))[c1])); exact A9 (by simp [A4d, c1])
 ·(have zz:=trivial;repeat((first|clear zz|with_reducible first|refine A3 ?_|refine A5 fun _=>?_|refine A4 fun _=>?_);try simp(disch:=first|omega|assumption|((repeat(first|exact A1|exact uH|apply A2|apply uT));first|done|fail)|(simp;first|done|omega|fail))[c1])); exact A9 (by simp [A4d, c1])
def A0x (number : Int) (s : ByteArray) : Nat × Nat := if number = 6 then A57 s else if number = 17 then A5x s else (0, 7)
def V5 (number : Int) (s : ByteArray) : Nat × Nat × Nat × Nat := if (A0x number s).2 ≠ 0 then (0, 0, 0, (A0x number s).2) else (gv s 0 2, gv s 2 2, (A0x number s).1, 0)
def V5.val (x : Nat × Nat × Nat × Nat) : Value := .tuple #[.agg #[.int .i64 x.1, .int .i64 x.2.1, .int .i64 x.2.2.1], .int .i64 x.2.2.2]
theorem A8E (w : World) (s : ByteArray) : (callMethod B1m "gangplank/port.parse" [Value.string s].toArray).run PR w = .ok (.enter 217 #[.agg #[], .string s]) w := by kernel_rfl
theorem A8K (w : World) (s : ByteArray) : (callMethod B2P "gangplank/port.parse" [Value.string s].toArray).run PR w = .ok (.enter 233 #[.agg #[], .string s]) w := by kernel_rfl
theorem B0y (w : World) (f : Int) : (callMethod B1m "gangplank/port.put" [Value.int .i64 f].toArray).run PR w = .ok (.enter 218 #[.agg #[], .int .i64 f]) w := by kernel_rfl
theorem B0r (w : World) (f : Int) : (callMethod B2P "gangplank/port.put" [Value.int .i64 f].toArray).run PR w = .ok (.enter 234 #[.agg #[], .int .i64 f]) w := by kernel_rfl
theorem B2E (w : World) (s : ByteArray) (hs : s.size < 2 ^ 40) (number : Int) : Fn PR B5 92 #[.int .i64 number, .string s] w (fun v w' => v = V5.val (V5 number s) ∧ C6 [] w w') := by
 refine Fn.pure (B04 (TW.go (κ := false) (S := []) ?_))
 unfold A4w
 (have zz:=trivial;repeat((first|clear zz|with_reducible first|refine A3 ?_|refine A5 fun _=>?_|refine A4 fun _=>?_);try simp(disch:=first|omega|assumption|((repeat(first|exact A1|exact uH|apply A2|apply uT));first|done|fail)|(simp;first|done|omega|fail))[]))
 refine G8 A2Y (fun w' _ => B0V w') ?_
 rintro r v rfl
 (have zz:=trivial;repeat((first|clear zz|with_reducible first|refine A3 ?_|refine A5 fun _=>?_|refine A4 fun _=>?_);try simp(disch:=first|omega|assumption|((repeat(first|exact A1|exact uH|apply A2|apply uT));first|done|fail)|(simp;first|done|omega|fail))[]))
 rw [A4r B1V B1S (KeyT.int F6) (l := f8) (by (repeat constructor))]
 have r4 : ∀ {f1 : Nat} {b : Nat}, True := fun {_ _} => trivial
 have hg0 := A3S s 0
 have hg2 := A3S s 2
 have e1 : A3K s 0 2 = gv s 0 2 := A3z s 0 2 (by omega) (by omega)
 have e2 : A3K s 2 2 = gv s 2 2 := A3z s 2 2 (by omega) (by omega)
 by_cases c1 : number = 6
 ·rw [show (T4 number f8).getD .nilIface = B1m by subst c1; rfl]
  (have zz:=trivial;repeat((first|clear zz|with_reducible first|refine A3 ?_|refine A5 fun _=>?_|refine A4 fun _=>?_);try simp(disch:=first|omega|assumption|((repeat(first|exact A1|exact uH|apply A2|apply uT));first|done|fail)|(simp;first|done|omega|fail))[A0T, A0S]))
  refine B1L (fun w => A8E w s) (fun w' hw' => B3M w' s hs) ?_
  by_cases c2 : (A57 s).2 = 0
  ·(have zz:=trivial;repeat((first|clear zz|with_reducible first|refine A3 ?_|refine A5 fun _=>?_|refine A4 fun _=>?_);try simp(disch:=first|omega|assumption|((repeat(first|exact A1|exact uH|apply A2|apply uT));first|done|fail)|(simp;first|done|omega|fail))[c2]))
   refine C5 N9 (fun w' _ => A0w w' s (by omega) _ _) ?_
   (have zz:=trivial;repeat((first|clear zz|with_reducible first|refine A3 ?_|refine A5 fun _=>?_|refine A4 fun _=>?_);try simp(disch:=first|omega|assumption|((repeat(first|exact A1|exact uH|apply A2|apply uT));first|done|fail)|(simp;first|done|omega|fail))[e1]))
   refine C5 N9 (fun w' _ => A0w w' s (by omega) _ _) ?_
   (have zz:=trivial;repeat((first|clear zz|with_reducible first|refine A3 ?_|refine A5 fun _=>?_|refine A4 fun _=>?_);try simp(disch:=first|omega|assumption|((repeat(first|exact A1|exact uH|apply A2|apply uT));first|done|fail)|(simp;first|done|omega|fail))[e1, e2]))
   exact A9 (by simp [V5, A0x, V5.val, c1, c2])
  ·(have zz:=trivial;repeat((first|clear zz|with_reducible first|refine A3 ?_|refine A5 fun _=>?_|refine A4 fun _=>?_);try simp(disch:=first|omega|assumption|((repeat(first|exact A1|exact uH|apply A2|apply uT));first|done|fail)|(simp;first|done|omega|fail))[c2]))
   exact A9 (by simp [V5, A0x, V5.val, c1, c2])
 by_cases c1' : number = 17
 ·rw [show (T4 number f8).getD .nilIface = B2P by subst c1'; rfl]
  (have zz:=trivial;repeat((first|clear zz|with_reducible first|refine A3 ?_|refine A5 fun _=>?_|refine A4 fun _=>?_);try simp(disch:=first|omega|assumption|((repeat(first|exact A1|exact uH|apply A2|apply uT));first|done|fail)|(simp;first|done|omega|fail))[A0T, A0S]))
  refine B1L (fun w => A8K w s) (fun w' hw' => B3E w' s hs) ?_
  by_cases c2 : (A5x s).2 = 0
  ·(have zz:=trivial;repeat((first|clear zz|with_reducible first|refine A3 ?_|refine A5 fun _=>?_|refine A4 fun _=>?_);try simp(disch:=first|omega|assumption|((repeat(first|exact A1|exact uH|apply A2|apply uT));first|done|fail)|(simp;first|done|omega|fail))[c2]))
   refine C5 N9 (fun w' _ => A0w w' s (by omega) _ _) ?_
   (have zz:=trivial;repeat((first|clear zz|with_reducible first|refine A3 ?_|refine A5 fun _=>?_|refine A4 fun _=>?_);try simp(disch:=first|omega|assumption|((repeat(first|exact A1|exact uH|apply A2|apply uT));first|done|fail)|(simp;first|done|omega|fail))[e1]))
   refine C5 N9 (fun w' _ => A0w w' s (by omega) _ _) ?_
   (have zz:=trivial;repeat((first|clear zz|with_reducible first|refine A3 ?_|refine A5 fun _=>?_|refine A4 fun _=>?_);try simp(disch:=first|omega|assumption|((repeat(first|exact A1|exact uH|apply A2|apply uT));first|done|fail)|(simp;first|done|omega|fail))[e1, e2]))
   exact A9 (by simp [V5, A0x, V5.val, c1', c2])
  ·(have zz:=trivial;repeat((first|clear zz|with_reducible first|refine A3 ?_|refine A5 fun _=>?_|refine A4 fun _=>?_);try simp(disch:=first|omega|assumption|((repeat(first|exact A1|exact uH|apply A2|apply uT));first|done|fail)|(simp;first|done|omega|fail))[c2]))
   exact A9 (by simp [V5, A0x, V5.val, c1', c2])
 ·rw [show (T4 number f8).getD .nilIface = .nilIface by simp [T4, f8, c1, c1']]
  (have zz:=trivial;repeat((first|clear zz|with_reducible first|refine A3 ?_|refine A5 fun _=>?_|refine A4 fun _=>?_);try simp(disch:=first|omega|assumption|((repeat(first|exact A1|exact uH|apply A2|apply uT));first|done|fail)|(simp;first|done|omega|fail))[A0T, A0S]))
  exact A9 (by simp [V5, A0x, V5.val, c1, c1'])
theorem l7 (s : ByteArray) : s ++ U6 = s := by apply ByteArray.ext; rw [ByteArray.data_append]; simp
theorem l8 (s : ByteArray) : U6 ++ s = s := by apply ByteArray.ext; rw [ByteArray.data_append]; simp
def Q4 (x : Int) : ByteArray := if 0 ≤ x ∧ x ≤ 65535 then F8 x 2 else U6
def Q6 (x y : Int) : Bool := decide (0 ≤ x ∧ x ≤ 65535 ∧ 0 ≤ y ∧ y ≤ 65535)
theorem B1u (w : World) (x y z : Int) : Fn PR B5 121 #[.agg #[.int .i64 x, .int .i64 y, .int .i64 z]] w (fun v w' => v = .tuple #[.string (Q4 x ++ Q4 y), .bool (Q6 x y)] ∧ C6 [] w w') := by
 refine Fn.pure (B00 (TW.go (κ := false) (S := []) ?_))
 unfold A46
 by_cases c1 : 0 ≤ x ∧ x ≤ 65535
 ·have c1' := c1.1; have c1'' := c1.2
  (have zz:=trivial;repeat((first|clear zz|with_reducible first|refine A3 ?_|refine A5 fun _=>?_|refine A4 fun _=>?_);try simp(disch:=first|omega|assumption|((repeat(first|exact A1|exact uH|apply A2|apply uT));first|done|fail)|(simp;first|done|omega|fail))[c1', c1'']))
  refine C5 G7 (fun w' hw' => k6 w' _ _) ?_
  by_cases c2 : 0 ≤ y ∧ y ≤ 65535
  ·have c2' := c2.1; have c2'' := c2.2
   (have zz:=trivial;repeat((first|clear zz|with_reducible first|refine A3 ?_|refine A5 fun _=>?_|refine A4 fun _=>?_);try simp(disch:=first|omega|assumption|((repeat(first|exact A1|exact uH|apply A2|apply uT));first|done|fail)|(simp;first|done|omega|fail))[c1', c1'', c2', c2'']))
   refine C5 G7 (fun w' hw' => k6 w' _ _) ?_
   (have zz:=trivial;repeat((first|clear zz|with_reducible first|refine A3 ?_|refine A5 fun _=>?_|refine A4 fun _=>?_);try simp(disch:=first|omega|assumption|((repeat(first|exact A1|exact uH|apply A2|apply uT));first|done|fail)|(simp;first|done|omega|fail))[c1', c1'', c2', c2'', f7]))
   exact A9 (by simp [l7, l8, Q4, Q6, c1, c2])
  ·by_cases c3 : 0 ≤ y
   ·have c4 : ¬ y ≤ 65535 := fun h => c2 ⟨c3, h⟩
    (have zz:=trivial;repeat((first|clear zz|with_reducible first|refine A3 ?_|refine A5 fun _=>?_|refine A4 fun _=>?_);try simp(disch:=first|omega|assumption|((repeat(first|exact A1|exact uH|apply A2|apply uT));first|done|fail)|(simp;first|done|omega|fail))[c1', c1'', c3, c4]))
    exact A9 (by simp [l7, l8, Q4, Q6, c1, c3, c4])
   ·(have zz:=trivial;repeat((first|clear zz|with_reducible first|refine A3 ?_|refine A5 fun _=>?_|refine A4 fun _=>?_);try simp(disch:=first|omega|assumption|((repeat(first|exact A1|exact uH|apply A2|apply uT));first|done|fail)|(simp;first|done|omega|fail))[c1', c1'', c3]))
    exact A9 (by simp [l7, l8, Q4, Q6, c1, c3])
 ·have hn : Q4 x = U6 := by simp [Q4, c1]
  have ho : Q6 x y = false := by simp only [Q6, decide_eq_false_iff_not]; exact fun h => c1 ⟨h.1, h.2.1⟩
  rw [hn, ho]
  have key : ∀ bx, TW false [] w [.pt bx (.cells #[.int .i64 x, .int .i64 y, .int .i64 z] 153)] = TW false [] w [.pt bx (.cells #[.int .i64 x, .int .i64 y, .int .i64 z] 153)] := fun _ => rfl
  by_cases c0 : 0 ≤ x
  ·have c0' : ¬ x ≤ 65535 := fun h => c1 ⟨c0, h⟩
   by_cases c2 : 0 ≤ y ∧ y ≤ 65535
   ·have c2' := c2.1; have c2'' := c2.2
    (have zz:=trivial;repeat((first|clear zz|with_reducible first|refine A3 ?_|refine A5 fun _=>?_|refine A4 fun _=>?_);try simp(disch:=first|omega|assumption|((repeat(first|exact A1|exact uH|apply A2|apply uT));first|done|fail)|(simp;first|done|omega|fail))[c0, c0', c2', c2'']))
    refine C5 G7 (fun w' hw' => k6 w' _ _) ?_
    (have zz:=trivial;repeat((first|clear zz|with_reducible first|refine A3 ?_|refine A5 fun _=>?_|refine A4 fun _=>?_);try simp(disch:=first|omega|assumption|((repeat(first|exact A1|exact uH|apply A2|apply uT));first|done|fail)|(simp;first|done|omega|fail))[c0, c0', c2', c2'', f7]))
    exact A9 (by simp [l7, l8, Q4, c2])
   ·by_cases c3 : 0 ≤ y
    ·have c4 : ¬ y ≤ 65535 := fun h => c2 ⟨c3, h⟩
     (have zz:=trivial;repeat((first|clear zz|with_reducible first|refine A3 ?_|refine A5 fun _=>?_|refine A4 fun _=>?_);try simp(disch:=first|omega|assumption|((repeat(first|exact A1|exact uH|apply A2|apply uT));first|done|fail)|(simp;first|done|omega|fail))[c0, c0', c3, c4]))
     exact A9 (by simp [l7, l8, Q4, c3, c4])
    ·(have zz:=trivial;repeat((first|clear zz|with_reducible first|refine A3 ?_|refine A5 fun _=>?_|refine A4 fun _=>?_);try simp(disch:=first|omega|assumption|((repeat(first|exact A1|exact uH|apply A2|apply uT));first|done|fail)|(simp;first|done|omega|fail))[c0, c0', c3]))
     exact A9 (by simp [l7, l8, Q4, c3])
  ·by_cases c2 : 0 ≤ y ∧ y ≤ 65535
   ·have c2' := c2.1; have c2'' := c2.2
    (have zz:=trivial;repeat((first|clear zz|with_reducible first|refine A3 ?_|refine A5 fun _=>?_|refine A4 fun _=>?_);try simp(disch:=first|omega|assumption|((repeat(first|exact A1|exact uH|apply A2|apply uT));first|done|fail)|(simp;first|done|omega|fail))[c0, c2', c2'']))
    refine C5 G7 (fun w' hw' => k6 w' _ _) ?_
    (have zz:=trivial;repeat((first|clear zz|with_reducible first|refine A3 ?_|refine A5 fun _=>?_|refine A4 fun _=>?_);try simp(disch:=first|omega|assumption|((repeat(first|exact A1|exact uH|apply A2|apply uT));first|done|fail)|(simp;first|done|omega|fail))[c0, c2', c2'', f7]))
    exact A9 (by simp [l7, l8, Q4, c2])
   ·by_cases c3 : 0 ≤ y
    ·have c4 : ¬ y ≤ 65535 := fun h => c2 ⟨c3, h⟩
     (have zz:=trivial;repeat((first|clear zz|with_reducible first|refine A3 ?_|refine A5 fun _=>?_|refine A4 fun _=>?_);try simp(disch:=first|omega|assumption|((repeat(first|exact A1|exact uH|apply A2|apply uT));first|done|fail)|(simp;first|done|omega|fail))[c0, c3, c4]))
     exact A9 (by simp [l7, l8, Q4, c3, c4])
    ·(have zz:=trivial;repeat((first|clear zz|with_reducible first|refine A3 ?_|refine A5 fun _=>?_|refine A4 fun _=>?_);try simp(disch:=first|omega|assumption|((repeat(first|exact A1|exact uH|apply A2|apply uT));first|done|fail)|(simp;first|done|omega|fail))[c0, c3]))
     exact A9 (by simp [l7, l8, Q4, c3])
def A34 (number f : Int) : ByteArray × Nat := if number = 6 then A27 f else if number = 17 then A4d f else (U6, 7)
def m4 (number x y f : Int) : ByteArray × Nat := if number ≠ 6 ∧ number ≠ 17 then (U6, 7) else if Q6 x y = false ∨ (A34 number f).2 ≠ 0 then (U6, 1) else (F8 x 2 ++ F8 y 2 ++ (A34 number f).1, 0)
theorem B1r {x y : Int} (h : Q6 x y = true) : Q4 x ++ Q4 y = F8 x 2 ++ F8 y 2 := by
 simp only [Q6, decide_eq_true_eq] at h
 unfold Q4; rw [if_pos (by omega), if_pos (by omega)]
theorem B5K (w : World) (number x y f : Int) : Fn PR B5 94 #[.int .i64 number, .agg #[.int .i64 x, .int .i64 y, .int .i64 f]] w (fun v w' => v = .tuple #[.string (m4 number x y f).1, .int .i64 (m4 number x y f).2] ∧ C6 [] w w') := by
 refine Fn.pure (B3B (TW.go (κ := false) (S := []) ?_))
 unfold A7C
 (have zz:=trivial;repeat((first|clear zz|with_reducible first|refine A3 ?_|refine A5 fun _=>?_|refine A4 fun _=>?_);try simp(disch:=first|omega|assumption|((repeat(first|exact A1|exact uH|apply A2|apply uT));first|done|fail)|(simp;first|done|omega|fail))[]))
 refine G8 A2Y (fun w' _ => B0V w') ?_
 rintro r v rfl
 (have zz:=trivial;repeat((first|clear zz|with_reducible first|refine A3 ?_|refine A5 fun _=>?_|refine A4 fun _=>?_);try simp(disch:=first|omega|assumption|((repeat(first|exact A1|exact uH|apply A2|apply uT));first|done|fail)|(simp;first|done|omega|fail))[]))
 rw [A4r B1V B1S (KeyT.int F6) (l := f8) (by (repeat constructor))]
 by_cases c1 : number = 6
 ·rw [show (T4 number f8).getD .nilIface = B1m by subst c1; rfl]
  (have zz:=trivial;repeat((first|clear zz|with_reducible first|refine A3 ?_|refine A5 fun _=>?_|refine A4 fun _=>?_);try simp(disch:=first|omega|assumption|((repeat(first|exact A1|exact uH|apply A2|apply uT));first|done|fail)|(simp;first|done|omega|fail))[A0T, A0S]))
  refine C5 A3k (fun w' hw' => B1u w' _ _ _) ?_
  (have zz:=trivial;repeat((first|clear zz|with_reducible first|refine A3 ?_|refine A5 fun _=>?_|refine A4 fun _=>?_);try simp(disch:=first|omega|assumption|((repeat(first|exact A1|exact uH|apply A2|apply uT));first|done|fail)|(simp;first|done|omega|fail))[]))
  refine B1L (fun w => B0y w f) (fun w' hw' => B7D w' f) ?_
  cases c3 : Q6 x y with
  | false => (have zz:=trivial;repeat((first|clear zz|with_reducible first|refine A3 ?_|refine A5 fun _=>?_|refine A4 fun _=>?_);try simp(disch:=first|omega|assumption|((repeat(first|exact A1|exact uH|apply A2|apply uT));first|done|fail)|(simp;first|done|omega|fail))[c3])); exact A9 (by simp [m4, c1, c3])
  | true =>
   have hp := B1r c3
   by_cases c2 : (A27 f).2 = 0
   ·have hz : (Q4 x).size + (Q4 y).size + (A27 f).1.size < 2 ^ 30 := by
     have := congrArg ByteArray.size hp
     simp at this
     have h6 := A1G 6
     have h8 := A1G 8
     have : (A27 f).1.size ≤ 100 := by unfold A27; split <;> simp [h6, h8]
     omega
    (have zz:=trivial;repeat((first|clear zz|with_reducible first|refine A3 ?_|refine A5 fun _=>?_|refine A4 fun _=>?_);try simp(disch:=first|omega|assumption|((repeat(first|exact A1|exact uH|apply A2|apply uT));first|done|fail)|(simp;first|done|omega|fail))[c2, c3, f7]))
    exact A9 (by simp [m4, A34, c1, c2, c3, hp])
   ·(have zz:=trivial;repeat((first|clear zz|with_reducible first|refine A3 ?_|refine A5 fun _=>?_|refine A4 fun _=>?_);try simp(disch:=first|omega|assumption|((repeat(first|exact A1|exact uH|apply A2|apply uT));first|done|fail)|(simp;first|done|omega|fail))[c2, c3]))
    exact A9 (by simp [m4, A34, c1, c2, c3])
 by_cases c1' : number = 17
 ·rw [show (T4 number f8).getD .nilIface = B2P by subst c1'; rfl]
  (have zz:=trivial;repeat((first|clear zz|with_reducible first|refine A3 ?_|refine A5 fun _=>?_|refine A4 fun _=>?_);try simp(disch:=first|omega|assumption|((repeat(first|exact A1|exact uH|apply A2|apply uT));first|done|fail)|(simp;first|done|omega|fail))[A0T, A0S]))
  refine C5 A3k (fun w' hw' => B1u w' _ _ _) ?_
  (have zz:=trivial;repeat((first|clear zz|with_reducible first|refine A3 ?_|refine A5 fun _=>?_|refine A4 fun _=>?_);try simp(disch:=first|omega|assumption|((repeat(first|exact A1|exact uH|apply A2|apply uT));first|done|fail)|(simp;first|done|omega|fail))[]))
  refine B1L (fun w => B0r w f) (fun w' hw' => B6g w' f) ?_
  cases c3 : Q6 x y with
  | false => (have zz:=trivial;repeat((first|clear zz|with_reducible first|refine A3 ?_|refine A5 fun _=>?_|refine A4 fun _=>?_);try simp(disch:=first|omega|assumption|((repeat(first|exact A1|exact uH|apply A2|apply uT));first|done|fail)|(simp;first|done|omega|fail))[c3])); exact A9 (by simp [m4, c1', c3])
  | true =>
   have hp := B1r c3
   by_cases c2 : (A4d f).2 = 0
   ·have hz : (Q4 x).size + (Q4 y).size + (A4d f).1.size < 2 ^ 30 := by
     have := congrArg ByteArray.size hp
     simp at this
     have : (A4d f).1.size ≤ 100 := by unfold A4d; split <;> simp
     omega
    (have zz:=trivial;repeat((first|clear zz|with_reducible first|refine A3 ?_|refine A5 fun _=>?_|refine A4 fun _=>?_);try simp(disch:=first|omega|assumption|((repeat(first|exact A1|exact uH|apply A2|apply uT));first|done|fail)|(simp;first|done|omega|fail))[c2, c3, f7]))
    exact A9 (by simp [m4, A34, c1', c2, c3, hp])
   ·(have zz:=trivial;repeat((first|clear zz|with_reducible first|refine A3 ?_|refine A5 fun _=>?_|refine A4 fun _=>?_);try simp(disch:=first|omega|assumption|((repeat(first|exact A1|exact uH|apply A2|apply uT));first|done|fail)|(simp;first|done|omega|fail))[c2, c3]))
    exact A9 (by simp [m4, A34, c1', c2, c3])
 ·rw [show (T4 number f8).getD .nilIface = .nilIface by simp [T4, f8, c1, c1']]
  (have zz:=trivial;repeat((first|clear zz|with_reducible first|refine A3 ?_|refine A5 fun _=>?_|refine A4 fun _=>?_);try simp(disch:=first|omega|assumption|((repeat(first|exact A1|exact uH|apply A2|apply uT));first|done|fail)|(simp;first|done|omega|fail))[A0T, A0S]))
  exact A9 (by simp [m4, c1, c1'])
end Go.Proofs.YtlplkjgcfjdinaaGreat
