/- The proof of a given statement, a part of it (Map ShIp6 ShIp4 ShSum Sum Ip4 Ip6 Port). No condition but what each lemma says. -/
import Derived.MapKept
import Derived.Test.YtpnidmkaobfhiaaGreatM10
set_option linter.unusedVariables false
set_option linter.unusedSimpArgs false
namespace Go.Proofs.YtpnidmkaobfhiaaGreat
open Go
section
variable {κ : Type} [DecidableEq κ]
def Y1 (enc : κ → Value) : List (κ × Value) → Nat → List MapEntry
 | [], _ => []
 | p :: l, i => ⟨enc p.1, p.2, i⟩ :: Y1 enc l (i + 1)
def r6 (enc : κ → Value) (l : List (κ × Value)) : Obj := .map (Y1 enc l 0).toArray l.length
def A3q (k : κ) : List (κ × Value) → Nat → Option (Nat × Value)
 | [], _ => none
 | p :: l, i => if k = p.1 then some (i, p.2) else A3q k l (i + 1)
def p7 (k : κ) : List (κ × Value) → Option Value
 | [] => none
 | p :: l => if k = p.1 then some p.2 else p7 k l
def n8 (k : κ) (v : Value) : List (κ × Value) → List (κ × Value)
 | [] => [(k, v)]
 | p :: l => if k = p.1 then (k, v) :: l else p :: n8 k v l
theorem C3f (k k' : κ) (v : Value) (l : List (κ × Value)) : p7 k' (n8 k v l) = if k' = k then some v else p7 k' l := by
 induction l with
 | nil => simp [n8, p7]
 | cons p l ih =>
  simp only [n8]
  by_cases h : k = p.1
  ·rw [if_pos h]; simp only [p7]
   by_cases h' : k' = k
   ·rw [if_pos h', if_pos h']
   ·rw [if_neg h', if_neg h', if_neg (by rw [← h]; exact h')]
  ·rw [if_neg h]; simp only [p7, ih]
   by_cases h' : k' = p.1
   ·rw [if_pos h', if_pos h', if_neg (by rw [h']; exact fun e => h e.symm)]
   ·rw [if_neg h', if_neg h']
theorem C3C (k : κ) (l : List (κ × Value)) (i : Nat) : (A3q k l i).map (·.2) = p7 k l := by
 induction l generalizing i with
 | nil => rfl
 | cons p l ih => simp only [A3q, p7]; split <;> simp [ih]
@[simp] theorem D3w {α : Type} (enc : α → Value) (l : List (α × Value)) (i : Nat) : (Y1 enc l i).length = l.length := by
 induction l generalizing i with
 | nil => rfl
 | cons p l ih => simp [Y1, ih]
theorem B8x {α : Type} (enc : α → Value) (l m : List (α × Value)) (i : Nat) : Y1 enc (l ++ m) i = Y1 enc l i ++ Y1 enc m (i + l.length) := by
 induction l generalizing i with
 | nil => simp [Y1]
 | cons p l ih => simp only [List.cons_append, Y1, ih, List.length_cons]; congr 3; omega
theorem C2B (k : κ) (v : Value) (l : List (κ × Value)) (j : Nat) (h : A3q k l j = none) : n8 k v l = l ++ [(k, v)] := by
 induction l generalizing j with
 | nil => rfl
 | cons p l ih =>
  simp only [A3q] at h
  split at h
  ·cases h
  ·rename_i hn; simp only [n8, if_neg hn, List.cons_append, ih _ h]
theorem C5k (enc : κ → Value) (k : κ) (v : Value) (l : List (κ × Value)) : ∀ (j n : Nat) (u : Value), A3q k l j = some (n, u) → j ≤ n ∧ n < j + l.length ∧ ((Y1 enc l j)[n - j]?).map (·.key) = some (enc k) ∧
  Y1 enc (n8 k v l) j = (Y1 enc l j).modify (n - j) (fun e => { e with key := enc k, val := v }) := by
 induction l with
 | nil => intro j n u h; cases h
 | cons p l ih =>
  intro j n u h
  simp only [A3q] at h
  split at h
  ·rename_i hk; cases h
   refine ⟨Nat.le_refl _, by simp, by simp [Y1, hk], ?_⟩
   simp only [n8, if_pos hk, Y1, Nat.sub_self, List.modify_zero_cons]
  ·rename_i hn
   obtain ⟨h1, h2, h3, h4⟩ := ih _ _ _ h
   have e : n - j = n - (j + 1) + 1 := by omega
   refine ⟨by omega, by simp only [List.length_cons]; omega, by rw [e]; simpa [Y1] using h3, ?_⟩
   simp only [n8, if_neg hn, Y1, e, List.modify_succ_cons, h4]
structure KeyT (P : Program) (kt : TypeId) (enc : κ → Value) : Prop where
 find : ∀ k l j w, (Instr.findKey kt (enc k) (Y1 enc l j)).run P w = .ok (A3q k l 0) w
 check : ∀ k e w, (Instr.checkKey e 10000 kt (enc k)).run P w = .ok () w
 stays : ∀ k, Instr.sameBits 10000 (enc k) (enc k) = true
theorem B0g {d : TypeDesc} {enc : κ → Value} (hs : ∀ a b, Instr.sameNow d (enc a) (enc b) = some (decide (a = b))) (k : κ) (l : List (κ × Value)) : ∀ j i, Instr.findNow d (enc k) (Y1 enc l j) i = some (A3q k l i) := by
 induction l with
 | nil => intro j i; rfl
 | cons p l ih =>
  intro j i
  simp only [Y1, Instr.findNow, hs, A3q]
  by_cases h : k = p.1
  ·simp [h]
  ·simp [h, ih]
end
theorem KeyT.int {P : Program} {kt : TypeId} {n m : Nat} {z : Value} (h : TI P kt (.int .i64) n m z) : KeyT P kt (fun a : Int => Value.int .i64 a) := by
 refine ⟨fun k l j w => ?_, fun k e w => ?_, fun k => ?_⟩
 ·exact MapKept.run_findKey h.und (B0g (fun a b => by simp [Instr.sameNow]; exact B4u a b) k l j 0)
 ·exact MapKept.run_checkKey h.und (by trivial) e 9999
 ·simp [Instr.sameBits]
theorem KeyT.string {P : Program} {kt : TypeId} {n m : Nat} {z : Value} (h : TI P kt .string n m z) : KeyT P kt Value.string := by
 refine ⟨fun k l j w => ?_, fun k e w => ?_, fun k => ?_⟩
 ·exact MapKept.run_findKey h.und (B0g (fun a b => by simp only [Instr.sameNow, C2C]) k l j 0)
 ·exact MapKept.run_checkKey h.und (by trivial) e 9999
 ·simp only [Instr.sameBits, C2C, decide_true]
section
variable {κ : Type} [DecidableEq κ] {enc : κ → Value} {σ : Bool} {P : Program} {X : Nat → Prop} {S : List Nat} {w0 : World} {H H' : List Res} {K : Value → WP} {K0 : WP} {t kt et : TypeId} {n m n2 m2 : Nat} {z z2 : Value} {d : TypeDesc}
theorem B93 {α : Type} (enc : α → Value) (hK : ∀ r, TW σ S w0 (.pt r (r6 enc []) :: H) (K (.map (some r)))) : TW σ S w0 H (B4 P X (Instr.makeMap t none) K) := fun w hw => by
 have : (Instr.makeMap t none).run P w = .ok (.map (some (sz w))) (w.alloc (r6 enc [])) := by simp [Instr.makeMap, run_newObj, r6, Y1, sz]
 rw [u3 this (Sk.alloc X w _ (Or.inl rfl))]
 exact hK _ _ (hw.new rfl (Or.inl rfl))
theorem B2U (hm : TI P t (.map kt et) n m z) (he : TI P et d n2 m2 z2) (hk : KeyT P kt enc) {r : Nat} {l : List (κ × Value)} {k : κ} (hr : Res.pt r (r6 enc l) ∈ H) :
  TW σ S w0 H (A6 P (Instr.lookup t (.map (some r)) (enc k) false) K) = TW σ S w0 H (K ((p7 k l).getD z2)) := TW.congr fun w hw => by
 have hb : w.heap[r]? = some (.map (Y1 enc l 0).toArray l.length) := hw.pt hr
 refine Y2 ?_ K
 have h1 : (getObj r).run P w = .ok (.map (Y1 enc l 0).toArray l.length) w := MapKept.run_getObj_map hb
 simp only [Instr.lookup, Sem.run_bind, hm.run_und, Result.andThen_ok, h1, Sem.run_pure, hk.check, hk.find]
 rw [← C3C k l 0]
 cases A3q k l 0 with
 | none => simp [he.run_zero]
 | some p => simp
theorem B2b (hm : TI P t (.map kt et) n m z) (hk : KeyT P kt enc) {r : Nat} {l : List (κ × Value)} {k : κ} {v : Value} (hu : Up (.pt r (r6 enc l)) (.pt r (r6 enc (n8 k v l))) H H') (hK : TW σ S w0 H' K0) :
  TW σ S w0 H (B9 P X (Instr.mapUpdate t (.map (some r)) (enc k) v) K0) := fun w hw => by
 have hmem : Res.pt r (r6 enc l) ∈ H := by obtain ⟨A, B, rfl, _⟩ := hu.parts; simp
 have hb0 := hw.pt hmem
 have hb : w.heap[r]? = some (.map (Y1 enc l 0).toArray l.length) := hb0
 have h1 : (getObj r).run P w = .ok (.map (Y1 enc l 0).toArray l.length) w := MapKept.run_getObj_map hb
 have hrun : (Instr.mapUpdate t (.map (some r)) (enc k) v).run P w = .ok () (World.putb w r (r6 enc (n8 k v l))) := by
  simp only [Instr.mapUpdate, Sem.run_bind, hm.run_und, Result.andThen_ok, h1, hk.check, hk.find]
  cases hf : A3q k l 0 with
  | none =>
   have e := C2B k v l 0 hf
   simp [r6, e, B8x, Y1, World.putb, MapKept.run_setObj_map _ hb]
  | some p =>
   obtain ⟨i, u⟩ := p
   obtain ⟨_, h2, h3, h4⟩ := C5k enc k v l 0 i u hf
   have hl : (n8 k v l).length = l.length := by
    have := congrArg List.length h4; simpa using this
   simp only [Nat.sub_zero] at h3 h4
   simp [r6, h4, hl, World.putb, MapKept.run_setObj_map _ hb, Instr.keyThatStays, h3, hk.stays]
 have hks : KS σ [r] w (World.putb w r (r6 enc (n8 k v l))) := by
  refine ((C6.refl [r] w).putb _ (Or.inl (by simp))).ks fun _ => ?_
  have h2 : ∀ (q : Nat) x, (∀ c T, x ≠ Obj.map c T) → w.heap[q]? = some x → (World.putb w r (r6 enc (n8 k v l))).heap[q]? = some x := fun q x hx e => by
   have : r ≠ q := by rintro rfl; rw [hb] at e; cases e; exact hx _ _ rfl
   exact (q7 (w := w) (o := r6 enc (n8 k v l)) this).trans e
  exact ⟨by simp [World.putb], fun q d => h2 q _ (by simp), fun q lo _ => h2 q _ (by simp), rfl, rfl⟩
 have hsk : Sk X w (World.putb w r (r6 enc (n8 k v l))) := by
  have h2 : ∀ (q : Nat) x, (∀ c T, x ≠ Obj.map c T) → w.heap[q]? = some x → (World.putb w r (r6 enc (n8 k v l))).heap[q]? = some x := fun q x hx e => by
   have : r ≠ q := by rintro rfl; rw [hb] at e; cases e; exact hx _ _ rfl
   exact (q7 (w := w) (o := r6 enc (n8 k v l)) this).trans e
  exact ⟨by simp [World.putb], fun q d => h2 q _ (by simp), fun q lo _ => h2 q _ (by simp), rfl, rfl⟩
 rw [C2D hrun hsk]
 refine hK _ (hw.up hu ⟨hks, ?_, ?_, by simp⟩)
 ·simp only [List.mem_singleton, forall_eq, Res.holds]; exact ⟨V5 (K7 hb0), rfl⟩
 ·simp only [List.mem_singleton, forall_eq, Res.foot]; exact ⟨Or.inl (by simp), by have := K7 hb0; simpa using this⟩
end
end Go.Proofs.YtpnidmkaobfhiaaGreat
namespace Go.Proofs.YtpnidmkaobfhiaaGreat
open Go
def B0p (X : Nat → Prop) (t0 : Value) (R : Value → WP) : WP :=
 B4 PR X (Instr.alloc 269 true (.tuple #[])) fun t2 =>
 jn (n := 2) (fun t3 t4 =>
 jn (n := 2) (fun t3_1 t4_1 =>
 B4 PR X (Instr.buildSlice 54 6 #[(0, (.int .i64 4)), (1, (.int .i64 2)), (2, (.int .i64 1)), (3, (.int .i64 1)), (4, (.int .i64 16)), (5, (.int .i64 16))]) fun t19 =>
 B7 PR X 175 [t0, t19] fun t20 =>
 A0 PR (Instr.indexAt 309 t20 (.int .i64 1)) fun t23 =>
 A6 PR (Instr.loadAt 9 t23) fun t24 =>
 B7 PR X 144 [t24, (.int .i64 0), (.int .i64 2)] fun t25 =>
 A0 PR (Instr.extract t25 0) fun t26 =>
 A0 PR (Instr.extract t25 1) fun t27 =>
 A0 PR (Instr.indexAt 309 t20 (.int .i64 6)) fun t29 =>
 A6 PR (Instr.loadAt 9 t29) fun t30 =>
 jn (n := 2) (fun t3_2 t4_2 =>
 drw <|
 A0 PR (Instr.indexAt 309 t20 (.int .i64 4)) fun t38 =>
 A6 PR (Instr.loadAt 9 t38) fun t39 =>
 A0 PR (Instr.indexAt 309 t20 (.int .i64 5)) fun t41 =>
 A6 PR (Instr.loadAt 9 t41) fun t42 =>
 A0 PR (Instr.indexAt 309 t20 (.int .i64 2)) fun t44 =>
 A6 PR (Instr.loadAt 9 t44) fun t45 =>
 A0 PR (Instr.index 9 t45 (.int .i64 0)) fun t46 =>
 A0 PR (convert 5 3 t46) fun t47 =>
 A0 PR (Instr.build 269 #[(0, t39), (1, t42), (2, t47)]) fun t48 =>
 A0 PR (Instr.sliceAt 9 t30 none (some t26) none) fun t51 =>
 B9 PR X (Instr.storeAt 269 t2 t48) <|
 A6 PR (D6 [.c 269 t2, .v t51, .v (.int .i64 0)]) R) fun J1 =>
 A0 PR (A8 .len #[9] 0 [t30]) fun t33 =>
 A0 PR (convert 3 208 t33) fun t34 =>
 A0 PR (binOp .gtr 208 t26 t34) fun t35 =>
 C3 t35 (
 A0 PR (Instr.build 269 #[]) fun t36 =>
 B9 PR X (Instr.storeAt 269 t2 t36) <|
 A6 PR (D6 [.c 269 t2, .v (.string (ByteArray.mk #[])), .v (.int .i64 4)]) R) (
 J1 t3_1 t4_1)) fun J2 =>
 A0 PR (Instr.index 9 t0 (.int .i64 0)) fun t14 =>
 A0 PR (binOp .shr 5 t14 (.int .u64 4)) fun t15 =>
 A0 PR (binOp .neq 5 t15 (.int .u8 6)) fun t16 =>
 C3 t16 (
 A0 PR (Instr.build 269 #[]) fun t17 =>
 B9 PR X (Instr.storeAt 269 t2 t17) <|
 A6 PR (D6 [.c 269 t2, .v (.string (ByteArray.mk #[])), .v (.int .i64 3)]) R) (
 J2 t3 t4)) fun J3 =>
 A0 PR (A8 .len #[9] 0 [t0]) fun t10 =>
 A0 PR (binOp .lss 3 t10 (.int .i64 40)) fun t11 =>
 C3 t11 (
 A0 PR (Instr.build 269 #[]) fun t12 =>
 B9 PR X (Instr.storeAt 269 t2 t12) <|
 A6 PR (D6 [.c 269 t2, .v (.string (ByteArray.mk #[])), .v (.int .i64 2)]) R) (
 J3 (.string (ByteArray.mk #[])) (.int .i64 0))
theorem B6T : A9 PR 141 := A7 Tryz.func141 (by kernel_rfl) rfl
theorem B8P {X : Nat → Prop} {t0 : Value} {R : Value → WP} {w : World} (h : B0p X t0 R w) : Fn PR X 141 #[t0] w R := C4 (args := [t0]) mixed Tryz.func141 (by kernel_rfl) h
def B3W (X : Nat → Prop) (t0 t1 : Value) (R : Value → WP) : WP :=
 jn (n := 3) (fun t5 t0_1 t10 =>
 B4 PR X (Instr.buildSlice 309 1 #[(0, t0_1)]) fun t26 =>
 B4 PR X (A8 .append #[309, 309] 309 [t5, t26]) fun t27 =>
 R t27) fun J1 =>
 A0 PR (A8 .len #[54] 0 [t1]) fun t9 =>
 lp (n := 3) (fun L2 t5_1 t0_2 t10_1 =>
 A0 PR (binOp .lss 3 t10_1 t9) fun t11 =>
 jn (n := 0) (
 jn (n := 2) (fun t5_2 t0_3 =>
 A0 PR (binOp .add 3 t10_1 (.int .i64 1)) fun t23 =>
 L2 t5_2 t0_3 t23) fun J3 =>
 A0 PR (Instr.indexAt 54 t1 t10_1) fun t12 =>
 A6 PR (Instr.loadAt 3 t12) fun t13 =>
 A0 PR (Instr.sliceAt 9 t0_2 none (some t13) none) fun t17 =>
 B4 PR X (Instr.buildSlice 309 1 #[(0, t17)]) fun t18 =>
 B4 PR X (A8 .append #[309, 309] 309 [t5_1, t18]) fun t19 =>
 A0 PR (Instr.sliceAt 9 t0_2 (some t13) none none) fun t22 =>
 J3 t19 t22) fun J4 =>
 C3 t11 (
 J4) (
 J1 t5_1 t0_2 t10_1)) (.slice none 0 0) t0 (.int .i64 0)
theorem B83 : A9 PR 175 := A7 Tryz.func175 (by kernel_rfl) rfl
theorem C0Z {X : Nat → Prop} {t0 t1 : Value} {R : Value → WP} {w : World} (h : B3W X t0 t1 R w) : Fn PR X 175 #[t0, t1] w R := C4 (args := [t0, t1]) mixed Tryz.func175 (by kernel_rfl) h
end Go.Proofs.YtpnidmkaobfhiaaGreat
namespace Go.Proofs.YtpnidmkaobfhiaaGreat
open Go
def B0F (X : Nat → Prop) (t0 : Value) (R : Value → WP) : WP :=
 B4 PR X (Instr.box 9 t0) fun t1 =>
 B4 PR X (Instr.alloc 265 true (.tuple #[])) fun t2 =>
 A0 PR (Instr.makeFunc (.func 167) #[] #[t1]) fun t9 =>
 B4 PR X (Instr.alloc 113 true (.tuple #[])) fun t5 =>
 B9 PR X (Instr.storeAt 113 t5 t9) <|
 drw <|
 kt (n := 2) (fun t6 t7 =>
 A0 PR (Instr.makeFunc (.func 169) #[] #[t1]) fun t16 =>
 A0 PR (Instr.build 306 #[(0, t16), (1, (.int .i64 2))]) fun t17 =>
 A0 PR (Instr.makeFunc (.func 170) #[] #[t5]) fun t18 =>
 A0 PR (Instr.build 306 #[(0, t18), (1, (.int .i64 3))]) fun t19 =>
 A0 PR (Instr.makeFunc (.func 171) #[] #[t6, t1, t7]) fun t20 =>
 A0 PR (Instr.build 306 #[(0, t20), (1, (.int .i64 4))]) fun t21 =>
 A0 PR (Instr.makeFunc (.func 172) #[] #[t1, t6]) fun t22 =>
 A0 PR (Instr.build 306 #[(0, t22), (1, (.int .i64 5))]) fun t23 =>
 A0 PR (Instr.makeFunc (.func 174) #[] #[t5]) fun t24 =>
 A0 PR (Instr.build 306 #[(0, t24), (1, (.int .i64 6))]) fun t25 =>
 B4 PR X (Instr.buildSlice 336 5 #[(0, t17), (1, t19), (2, t21), (3, t23), (4, t25)]) fun t26 =>
 B7 PR X 168 [t26] fun t27 =>
 jn (n := 2) (fun t3 t4 =>
 drw <|
 A6 PR (Instr.loadAt 9 t1) fun t32 =>
 A0 PR (Instr.sliceAt 9 t32 (some (.int .i64 12)) (some (.int .i64 16)) none) fun t33 =>
 A6 PR (Instr.loadAt 9 t1) fun t34 =>
 A0 PR (Instr.sliceAt 9 t34 (some (.int .i64 16)) (some (.int .i64 20)) none) fun t35 =>
 A6 PR (Instr.loadAt 113 t5) fun t36 =>
 A6 PR (Instr.loadAt 9 t1) fun t39 =>
 A6 PR (Instr.loadAt 3 t6) fun t40 =>
 A6 PR (Instr.loadAt 3 t7) fun t41 =>
 A0 PR (Instr.sliceAt 9 t39 (some t40) (some t41) none) fun t42 =>
 M7 PR X t36 [(.int .i64 9), (.int .i64 1)] fun t37 =>
 watch PR [(none, (Instr.loadAt 3 t7), t41), (none, (Instr.loadAt 3 t6), t40), (none, (Instr.loadAt 9 t1), t39), (none, (Instr.loadAt 9 t1), t34), (none, (Instr.loadAt 9 t1), t32)] <|
 A0 PR (Instr.build 265 #[(0, t33), (1, t35), (2, t37)]) fun t38 =>
 B9 PR X (Instr.storeAt 265 t2 t38) <|
 watch PR [(none, (Instr.loadAt 3 t7), t41), (none, (Instr.loadAt 3 t6), t40), (none, (Instr.loadAt 9 t1), t39)] <|
 A6 PR (D6 [.c 265 t2, .v t42, .v (.int .i64 0)]) R) fun J1 =>
 A0 PR (binOp .neq 31 t27 (.int .i64 0)) fun t29 =>
 C3 t29 (
 A0 PR (Instr.build 265 #[]) fun t30 =>
 B9 PR X (Instr.storeAt 265 t2 t30) <|
 A6 PR (D6 [.c 265 t2, .v (.string (ByteArray.mk #[])), .v t27]) R) (
 J1 (.string (ByteArray.mk #[])) (.int .i64 0))) fun C2 =>
 A6 PR (Instr.loadAt 113 t5) fun t10_1 =>
 A6 PR (Instr.loadAt 113 t5) fun t14_1 =>
 both (M7 PR X t10_1 [(.int .i64 0), (.int .i64 1)] fun t11_5 =>
 watch PR [(none, (Instr.loadAt 113 t5), t14_1)] <|
 A0 PR (binOp .and 3 t11_5 (.int .i64 15)) fun t12_5 =>
 A0 PR (binOp .mul 3 t12_5 (.int .i64 4)) fun t13_5 =>
 both (M7 PR X t14_1 [(.int .i64 2), (.int .i64 2)] fun t15_11 =>
 both (B4 PR X (Instr.alloc 3 true (.tuple #[])) fun t6_9 =>
 B4 PR X (Instr.alloc 3 true (.tuple #[])) fun t7_9 =>
 B9 PR X (Instr.storeAt 3 t6_9 t13_5) <|
 B9 PR X (Instr.storeAt 3 t7_9 t15_11) <|
 C2 t6_9 t7_9) (both (B4 PR X (Instr.alloc 3 true (.tuple #[])) fun t7_8 =>
 B4 PR X (Instr.alloc 3 true (.tuple #[])) fun t6_8 =>
 B9 PR X (Instr.storeAt 3 t6_8 t13_5) <|
 B9 PR X (Instr.storeAt 3 t7_8 t15_11) <|
 C2 t6_8 t7_8) ((fun _ => True)))) (both (B4 PR X (Instr.alloc 3 true (.tuple #[])) fun t6_7 =>
 watch PR [(none, (Instr.loadAt 113 t5), t14_1)] <|
 both (M7 PR X t14_1 [(.int .i64 2), (.int .i64 2)] fun t15_10 =>
 B4 PR X (Instr.alloc 3 true (.tuple #[])) fun t7_7 =>
 B9 PR X (Instr.storeAt 3 t6_7 t13_5) <|
 B9 PR X (Instr.storeAt 3 t7_7 t15_10) <|
 C2 t6_7 t7_7) (both (B4 PR X (Instr.alloc 3 true (.tuple #[])) fun t7_6 =>
 watch PR [(none, (Instr.loadAt 113 t5), t14_1)] <|
 M7 PR X t14_1 [(.int .i64 2), (.int .i64 2)] fun t15_9 =>
 B9 PR X (Instr.storeAt 3 t6_7 t13_5) <|
 B9 PR X (Instr.storeAt 3 t7_6 t15_9) <|
 C2 t6_7 t7_6) ((fun _ => True)))) (both (B4 PR X (Instr.alloc 3 true (.tuple #[])) fun t7_5 =>
 watch PR [(none, (Instr.loadAt 113 t5), t14_1)] <|
 both (M7 PR X t14_1 [(.int .i64 2), (.int .i64 2)] fun t15_8 =>
 B4 PR X (Instr.alloc 3 true (.tuple #[])) fun t6_6 =>
 B9 PR X (Instr.storeAt 3 t6_6 t13_5) <|
 B9 PR X (Instr.storeAt 3 t7_5 t15_8) <|
 C2 t6_6 t7_5) (both (B4 PR X (Instr.alloc 3 true (.tuple #[])) fun t6_5 =>
 watch PR [(none, (Instr.loadAt 113 t5), t14_1)] <|
 M7 PR X t14_1 [(.int .i64 2), (.int .i64 2)] fun t15_7 =>
 B9 PR X (Instr.storeAt 3 t6_5 t13_5) <|
 B9 PR X (Instr.storeAt 3 t7_5 t15_7) <|
 C2 t6_5 t7_5) ((fun _ => True)))) ((fun _ => True))))) (both (B4 PR X (Instr.alloc 3 true (.tuple #[])) fun t6_4 =>
 watch PR [(none, (Instr.loadAt 113 t5), t14_1), (none, (Instr.loadAt 113 t5), t10_1)] <|
 both (M7 PR X t10_1 [(.int .i64 0), (.int .i64 1)] fun t11_4 =>
 watch PR [(none, (Instr.loadAt 113 t5), t14_1)] <|
 A0 PR (binOp .and 3 t11_4 (.int .i64 15)) fun t12_4 =>
 A0 PR (binOp .mul 3 t12_4 (.int .i64 4)) fun t13_4 =>
 both (M7 PR X t14_1 [(.int .i64 2), (.int .i64 2)] fun t15_6 =>
 B4 PR X (Instr.alloc 3 true (.tuple #[])) fun t7_4 =>
 B9 PR X (Instr.storeAt 3 t6_4 t13_4) <|
 B9 PR X (Instr.storeAt 3 t7_4 t15_6) <|
 C2 t6_4 t7_4) (both (B4 PR X (Instr.alloc 3 true (.tuple #[])) fun t7_3 =>
 watch PR [(none, (Instr.loadAt 113 t5), t14_1)] <|
 M7 PR X t14_1 [(.int .i64 2), (.int .i64 2)] fun t15_5 =>
 B9 PR X (Instr.storeAt 3 t6_4 t13_4) <|
 B9 PR X (Instr.storeAt 3 t7_3 t15_5) <|
 C2 t6_4 t7_3) ((fun _ => True)))) (both (B4 PR X (Instr.alloc 3 true (.tuple #[])) fun t7_2 =>
 watch PR [(none, (Instr.loadAt 113 t5), t14_1), (none, (Instr.loadAt 113 t5), t10_1)] <|
 M7 PR X t10_1 [(.int .i64 0), (.int .i64 1)] fun t11_3 =>
 watch PR [(none, (Instr.loadAt 113 t5), t14_1)] <|
 A0 PR (binOp .and 3 t11_3 (.int .i64 15)) fun t12_3 =>
 A0 PR (binOp .mul 3 t12_3 (.int .i64 4)) fun t13_3 =>
 M7 PR X t14_1 [(.int .i64 2), (.int .i64 2)] fun t15_4 =>
 B9 PR X (Instr.storeAt 3 t6_4 t13_3) <|
 B9 PR X (Instr.storeAt 3 t7_2 t15_4) <|
 C2 t6_4 t7_2) ((fun _ => True)))) (both (B4 PR X (Instr.alloc 3 true (.tuple #[])) fun t7_1 =>
 watch PR [(none, (Instr.loadAt 113 t5), t14_1), (none, (Instr.loadAt 113 t5), t10_1)] <|
 both (M7 PR X t10_1 [(.int .i64 0), (.int .i64 1)] fun t11_2 =>
 watch PR [(none, (Instr.loadAt 113 t5), t14_1)] <|
 A0 PR (binOp .and 3 t11_2 (.int .i64 15)) fun t12_2 =>
 A0 PR (binOp .mul 3 t12_2 (.int .i64 4)) fun t13_2 =>
 both (M7 PR X t14_1 [(.int .i64 2), (.int .i64 2)] fun t15_3 =>
 B4 PR X (Instr.alloc 3 true (.tuple #[])) fun t6_3 =>
 B9 PR X (Instr.storeAt 3 t6_3 t13_2) <|
 B9 PR X (Instr.storeAt 3 t7_1 t15_3) <|
 C2 t6_3 t7_1) (both (B4 PR X (Instr.alloc 3 true (.tuple #[])) fun t6_2 =>
 watch PR [(none, (Instr.loadAt 113 t5), t14_1)] <|
 M7 PR X t14_1 [(.int .i64 2), (.int .i64 2)] fun t15_2 =>
 B9 PR X (Instr.storeAt 3 t6_2 t13_2) <|
 B9 PR X (Instr.storeAt 3 t7_1 t15_2) <|
 C2 t6_2 t7_1) ((fun _ => True)))) (both (B4 PR X (Instr.alloc 3 true (.tuple #[])) fun t6_1 =>
 watch PR [(none, (Instr.loadAt 113 t5), t14_1), (none, (Instr.loadAt 113 t5), t10_1)] <|
 M7 PR X t10_1 [(.int .i64 0), (.int .i64 1)] fun t11_1 =>
 watch PR [(none, (Instr.loadAt 113 t5), t14_1)] <|
 A0 PR (binOp .and 3 t11_1 (.int .i64 15)) fun t12_1 =>
 A0 PR (binOp .mul 3 t12_1 (.int .i64 4)) fun t13_1 =>
 M7 PR X t14_1 [(.int .i64 2), (.int .i64 2)] fun t15_1 =>
 B9 PR X (Instr.storeAt 3 t6_1 t13_1) <|
 B9 PR X (Instr.storeAt 3 t7_1 t15_1) <|
 C2 t6_1 t7_1) ((fun _ => True)))) ((fun _ => True))))
theorem B54 : A9 PR 138 := A7 Tryz.func138 (by kernel_rfl) rfl
theorem B6m {X : Nat → Prop} {t0 : Value} {R : Value → WP} {w : World} (h : B0F X t0 R w) : Fn PR X 138 #[t0] w R := C4 (args := [t0]) mixed Tryz.func138 (by kernel_rfl) h
def A5L (X : Nat → Prop) (t0 t1 t2 : Value) (R : Value → WP) : WP :=
 A6 PR (Instr.loadAt 9 t2) fun t9 =>
 B7 PR X 144 [t9, t0, t1] fun t12 =>
 A0 PR (Instr.extract t12 0) fun t13 =>
 A0 PR (Instr.extract t12 1) fun t14 =>
 A0 PR (convert 208 3 t13) fun t16 =>
 R t16
theorem p3 : A9 PR 167 := A7 Tryz.func167 (by kernel_rfl) rfl
theorem B32 {X : Nat → Prop} {t0 t1 t2 : Value} {R : Value → WP} {w : World} (h : A5L X t0 t1 t2 R w) : Fn PR X 167 #[t0, t1, t2] w R := C4 (args := [t0, t1, t2]) mixed Tryz.func167 (by kernel_rfl) h
def B0M (X : Nat → Prop) (t0 : Value) (R : Value → WP) : WP :=
 jn (n := 2) (fun t3 t8 =>
 R t3) fun J1 =>
 A0 PR (A8 .len #[336] 0 [t0]) fun t7 =>
 lp (n := 2) (fun L2 t3_1 t8_1 =>
 A0 PR (binOp .lss 3 t8_1 t7) fun t9 =>
 jn (n := 0) (
 jn (n := 1) (fun t3_2 =>
 A0 PR (binOp .add 3 t8_1 (.int .i64 1)) fun t17 =>
 L2 t3_2 t17) fun J3 =>
 A0 PR (Instr.indexAt 336 t0 t8_1) fun t10 =>
 A6 PR (Instr.loadAt 306 t10) fun t11 =>
 B4 PR X (Instr.alloc 306 true (.tuple #[])) fun t5 =>
 B9 PR X (Instr.storeAt 306 t5 t11) <|
 A0 PR (Instr.fieldAt 306 t5 0) fun t12 =>
 A6 PR (Instr.loadAt 26 t12) fun t13 =>
 M7 PR X t13 [] fun t14 =>
 C3 t14 (
 A0 PR (Instr.fieldAt 306 t5 1) fun t15 =>
 A6 PR (Instr.loadAt 31 t15) fun t16 =>
 J1 t16 t8_1) (
 J3 t3_1)) fun J4 =>
 C3 t9 (
 J4) (
 J1 t3_1 t8_1)) (.int .i64 0) (.int .i64 0)
theorem B57 : A9 PR 168 := A7 Tryz.func168 (by kernel_rfl) rfl
theorem B8U {X : Nat → Prop} {t0 : Value} {R : Value → WP} {w : World} (h : B0M X t0 R w) : Fn PR X 168 #[t0] w R := C4 (args := [t0]) mixed Tryz.func168 (by kernel_rfl) h
def A50 (X : Nat → Prop) (t0 : Value) (R : Value → WP) : WP :=
 A6 PR (Instr.loadAt 9 t0) fun t2 =>
 A0 PR (A8 .len #[9] 0 [t2]) fun t3 =>
 A0 PR (binOp .lss 3 t3 (.int .i64 20)) fun t4 =>
 R t4
theorem B1w : A9 PR 169 := A7 Tryz.func169 (by kernel_rfl) rfl
theorem B3w {X : Nat → Prop} {t0 : Value} {R : Value → WP} {w : World} (h : A50 X t0 R w) : Fn PR X 169 #[t0] w R := C4 (args := [t0]) mixed Tryz.func169 (by kernel_rfl) h
def A5k (X : Nat → Prop) (t0 : Value) (R : Value → WP) : WP :=
 A6 PR (Instr.loadAt 113 t0) fun t2 =>
 M7 PR X t2 [(.int .i64 0), (.int .i64 1)] fun t3 =>
 A0 PR (binOp .shr 3 t3 (.int .u64 4)) fun t4 =>
 A0 PR (binOp .neq 3 t4 (.int .i64 4)) fun t5 =>
 R t5
theorem B2B : A9 PR 170 := A7 Tryz.func170 (by kernel_rfl) rfl
theorem B3c {X : Nat → Prop} {t0 : Value} {R : Value → WP} {w : World} (h : A5k X t0 R w) : Fn PR X 170 #[t0] w R := C4 (args := [t0]) mixed Tryz.func170 (by kernel_rfl) h
def A5e (X : Nat → Prop) (t0 t1 t2 : Value) (R : Value → WP) : WP :=
 A6 PR (Instr.loadAt 3 t0) fun t4 =>
 A0 PR (binOp .lss 3 t4 (.int .i64 20)) fun t5 =>
 gj t5 false (fun J => A6 PR (Instr.loadAt 3 t0) J) fun t7 =>
 gj t5 false (fun J => A6 PR (Instr.loadAt 9 t1) J) fun t8 =>
 gj t5 false (fun J => A0 PR (A8 .len #[9] 0 [t8]) J) fun t9 =>
 gj t5 false (fun J => A0 PR (binOp .gtr 3 t7 t9) J) fun t10 =>
 A0 PR (do pure (if ← asBool t5 then (.bool true) else t10)) fun t11 =>
 gj t11 false (fun J => A6 PR (Instr.loadAt 3 t2) J) fun t13 =>
 gj t11 false (fun J => A6 PR (Instr.loadAt 3 t0) J) fun t14 =>
 gj t11 false (fun J => A0 PR (binOp .lss 3 t13 t14) J) fun t15 =>
 A0 PR (do pure (if ← asBool t11 then (.bool true) else t15)) fun t16 =>
 gj t16 false (fun J => A6 PR (Instr.loadAt 3 t2) J) fun t18 =>
 gj t16 false (fun J => A6 PR (Instr.loadAt 9 t1) J) fun t19 =>
 gj t16 false (fun J => A0 PR (A8 .len #[9] 0 [t19]) J) fun t20 =>
 gj t16 false (fun J => A0 PR (binOp .gtr 3 t18 t20) J) fun t21 =>
 A0 PR (do pure (if ← asBool t16 then (.bool true) else t21)) fun t22 =>
 R t22
theorem B2N : A9 PR 171 := A7 Tryz.func171 (by kernel_rfl) rfl
theorem B34 {X : Nat → Prop} {t0 t1 t2 : Value} {R : Value → WP} {w : World} (h : A5e X t0 t1 t2 R w) : Fn PR X 171 #[t0, t1, t2] w R := C4 (args := [t0, t1, t2]) mixed Tryz.func171 (by kernel_rfl) h
def A52 (X : Nat → Prop) (t0 t1 : Value) (R : Value → WP) : WP :=
 A6 PR (Instr.loadAt 9 t0) fun t3 =>
 A6 PR (Instr.loadAt 3 t1) fun t4 =>
 A0 PR (Instr.sliceAt 9 t3 none (some t4) none) fun t5 =>
 B7 PR X 173 [t5] fun t6 =>
 A0 PR (Op.unary .not t6) fun t7 =>
 R t7
theorem B1y : A9 PR 172 := A7 Tryz.func172 (by kernel_rfl) rfl
theorem B27 {X : Nat → Prop} {t0 t1 : Value} {R : Value → WP} {w : World} (h : A52 X t0 t1 R w) : Fn PR X 172 #[t0, t1] w R := C4 (args := [t0, t1]) mixed Tryz.func172 (by kernel_rfl) h
def A5W (X : Nat → Prop) (t0 : Value) (R : Value → WP) : WP :=
 A6 PR (Instr.loadAt 113 t0) fun t2 =>
 M7 PR X t2 [(.int .i64 6), (.int .i64 2)] fun t3 =>
 A0 PR (binOp .and 3 t3 (.int .i64 16383)) fun t4 =>
 A0 PR (binOp .neq 3 t4 (.int .i64 0)) fun t5 =>
 R t5
theorem B1z : A9 PR 174 := A7 Tryz.func174 (by kernel_rfl) rfl
theorem B3C {X : Nat → Prop} {t0 : Value} {R : Value → WP} {w : World} (h : A5W X t0 R w) : Fn PR X 174 #[t0] w R := C4 (args := [t0]) mixed Tryz.func174 (by kernel_rfl) h
end Go.Proofs.YtpnidmkaobfhiaaGreat
namespace Go.Proofs.YtpnidmkaobfhiaaGreat
open Go
def B1p (X : Nat → Prop) (t0 : Value) (R : Value → WP) : WP :=
 B7 PR X 197 [t0] fun t4 =>
 A0 PR (binOp .eql 3 t4 (.int .i64 65535)) fun t5 =>
 R t5
theorem B8Q : A9 PR 173 := A7 Tryz.func173 (by kernel_rfl) rfl
theorem B8q {X : Nat → Prop} {t0 : Value} {R : Value → WP} {w : World} (h : B1p X t0 R w) : Fn PR X 173 #[t0] w R := C4 (args := [t0]) mixed Tryz.func173 (by kernel_rfl) h
def B1e (X : Nat → Prop) (t0 : Value) (R : Value → WP) : WP :=
 B4 PR X (Instr.alloc 208 true (.tuple #[])) fun t3 =>
 jn (n := 0) (
 jn (n := 0) (
 A6 PR (Instr.loadAt 208 t3) fun t18 =>
 A0 PR (convert 208 3 t18) fun t19 =>
 j9 (R t19)) fun J1 =>
 lp (n := 0) (fun L2 =>
 jn (n := 0) (
 A6 PR (Instr.loadAt 208 t3) fun t13 =>
 A0 PR (binOp .shr 208 t13 (.int .u64 16)) fun t14 =>
 A6 PR (Instr.loadAt 208 t3) fun t15 =>
 A0 PR (binOp .and 208 t15 (.int .u64 65535)) fun t16 =>
 A0 PR (binOp .add 208 t14 t16) fun t17 =>
 B9 PR X (Instr.storeAt 208 t3 t17) <|
 L2) fun J3 =>
 A6 PR (Instr.loadAt 208 t3) fun t11 =>
 A0 PR (binOp .leq 208 t11 (.int .u64 65535)) fun t12 =>
 C3 t12 (
 J1) (
 J3)) ) fun J4 =>
 B7 PR X 210 [t0] fun t6 =>
 rng (N := 1) PR X (fun t7 K5 =>
 bgn <|
 A6 PR (Instr.loadAt 208 t3) fun t8 =>
 A0 PR (binOp .add 208 t8 t7) fun t10 =>
 B9 PR (fun _ => False) (Instr.storeAt 208 t3 t10) <|
 K5 none) t6 (fun j => match j with | none => (J4) | some (.exit i) => (match Nat.beq i 0 with | true => (J4) | false => (H2)) | some .ret => (j9 (R (.int .i64 0))) | some _ => H2)
theorem B8J : A9 PR 197 := A7 Tryz.func197 (by kernel_rfl) rfl
theorem B84 {X : Nat → Prop} {t0 : Value} {R : Value → WP} {w : World} (h : B1e X t0 R w) : Fn PR X 197 #[t0] w R := C4 (args := [t0]) mixed Tryz.func197 (by kernel_rfl) h
def B0H (X : Nat → Prop) (t0 : Value) (R : Value → WP) : WP :=
 B4 PR X (Instr.box 9 t0) fun t1 =>
 A0 PR (Instr.makeFunc (.func 213) #[] #[t1]) fun t3 =>
 R t3
theorem B6H : A9 PR 210 := A7 Tryz.func210 (by kernel_rfl) rfl
theorem B8a {X : Nat → Prop} {t0 : Value} {R : Value → WP} {w : World} (h : B0H X t0 R w) : Fn PR X 210 #[t0] w R := C4 (args := [t0]) mixed Tryz.func210 (by kernel_rfl) h
def A5d (X : Nat → Prop) (t0 t1 : Value) (R : Value → WP) : WP :=
 jn (n := 0) (
 lp (n := 1) (fun L1 t3 =>
 jn (n := 0) (
 jn (n := 0) (
 A0 PR (binOp .add 3 t3 (.int .i64 2)) fun t17 =>
 L1 t17) fun J2 =>
 A6 PR (Instr.loadAt 9 t1) fun t19 =>
 B7 PR X 144 [t19, t3, (.int .i64 2)] fun t21 =>
 A0 PR (Instr.extract t21 0) fun t22 =>
 A0 PR (Instr.extract t21 1) fun t23 =>
 M7 PR X t0 [t22] fun t26 =>
 A0 PR (Op.unary .not t26) fun t27 =>
 C3 t27 (
 R (.tuple #[])) (
 J2)) fun J3 =>
 A6 PR (Instr.loadAt 9 t1) fun t13 =>
 A0 PR (A8 .len #[9] 0 [t13]) fun t14 =>
 A0 PR (binOp .lss 3 t3 t14) fun t15 =>
 C3 t15 (
 J3) (
 R (.tuple #[]))) (.int .i64 0)) fun J4 =>
 A6 PR (Instr.loadAt 9 t1) fun t6 =>
 A0 PR (A8 .len #[9] 0 [t6]) fun t7 =>
 A0 PR (binOp .rem 3 t7 (.int .i64 2)) fun t8 =>
 A0 PR (binOp .eql 3 t8 (.int .i64 1)) fun t9 =>
 C3 t9 (
 A6 PR (Instr.loadAt 9 t1) fun t10 =>
 A0 PR (binOp .add 9 t10 (.string (ByteArray.mk #[0]))) fun t11 =>
 B9 PR X (Instr.storeAt 9 t1 t11) <|
 J4) (
 J4)
theorem B2V : A9 PR 213 := A7 Tryz.func213 (by kernel_rfl) rfl
theorem B3T {X : Nat → Prop} {t0 t1 : Value} {R : Value → WP} {w : World} (h : A5d X t0 t1 R w) : Fn PR X 213 #[t0, t1] w R := C4 (args := [t0, t1]) mixed Tryz.func213 (by kernel_rfl) h
theorem B36 {X : Nat → Prop} {t0 t1 : Value} {K : Value → WP} {w : World} (h : Fn PR X 213 #[t0, t1] w K) : A06 PR X 213 [t0, t1] K w := ⟨B2V, h⟩
end Go.Proofs.YtpnidmkaobfhiaaGreat
namespace Go.Proofs.YtpnidmkaobfhiaaGreat
open Go
abbrev C3H (b : Nat) : Value := .func (.func 213) #[] #[.pointer (some ⟨b, 0, none⟩)]
theorem C4b (w : World) (s : ByteArray) : Fn PR B6 210 #[.string s] w (Rn [] w (fun b v => v = C3H b) fun b => [.pt b (.cells #[.string s] 9)]) := by
 refine B8a (TW.go (κ := false) (S := []) ?_)
 unfold B0H
 (have zz:=trivial;repeat((first|clear zz|with_reducible first|refine A3 ?_|refine A5 fun _=>?_|refine A4 fun _=>?_);try simp(disch:=first|omega|assumption|((repeat(first|exact A1|exact uH|apply A2|apply uT));first|done|fail)|(simp;first|done|omega|fail))[]))
 rename_i b
 exact v8 b rfl (by simp)
def B6a (s : ByteArray) (i : Nat) : List Value := [.int .u64 (u6 s (2 * i) 2 : Nat)]
def f9 (s : ByteArray) : Nat := (s.size + 1) / 2
def pad (s : ByteArray) : ByteArray := if s.size % 2 = 1 then s ++ ByteArray.mk #[0] else s
theorem C45 (s : ByteArray) : (pad s).size = 2 * f9 s := by
 unfold pad f9; split
 ·rw [ByteArray.size_append, show (ByteArray.mk #[0]).size = 1 from rfl]; omega
 ·omega
theorem B59 (s t : ByteArray) (i : Nat) : F4 (s ++ t) i = if i < s.size then F4 s i else F4 t (i - s.size) := by
 unfold F4
 rw [ByteArray.data_append, Array.getD_eq_getD_getElem?, Array.getElem?_append, Array.getD_eq_getD_getElem?, Array.getD_eq_getD_getElem?]
 simp only [ByteArray.size]
 split <;> rfl
theorem C0w (s : ByteArray) (i : Nat) : F4 (pad s) i = F4 s i := by
 unfold pad; split
 ·rw [B59]; split
  ·rfl
  ·rename_i h
   have h1 : F4 s i = 0 := by unfold F4; rw [Array.getD_eq_getD_getElem?, Array.getElem?_eq_none (by simp only [ByteArray.size] at h; omega)]; rfl
   rw [h1]; unfold F4
   by_cases h2 : i - s.size = 0
   ·rw [h2]; rfl
   ·rw [Array.getD_eq_getD_getElem?, Array.getElem?_eq_none (by simp; omega)]; rfl
 ·rfl
theorem C6z (s : ByteArray) (a n : Nat) : u6 (pad s) a n = u6 s a n := by
 induction n with
 | zero => rfl
 | succ n ih => simp only [u6, ih, C0w]
theorem C36 (b : Nat) (s : ByteArray) (hs : s.size < 2 ^ 60) : A4H (C3H b) [.pt b (.cells #[.string s] 9)] (fun _ _ => True) ((List.range (f9 s)).map (B6a s)) := by
 refine ⟨_, _, _, rfl, fun l J E hJ hE stJ stE hy w0 h0 => ?_⟩
 refine B36 (B3T (TW.at (κ := true) ?_ (hJ _ _ _ h0).1))
 unfold A5d
 have hp := C45 s
 have hnw : f9 s ≤ s.size := by unfold f9; omega
 have key : ∀ Lp : WP, TW true (B2 [Res.pt b (.cells #[.string s] 9)]) w0 [.pt b (.cells #[.string (pad s)] 9)] Lp → (if s.size % 2 = 1 then TW true (B2 [Res.pt b (.cells #[.string s] 9)]) w0 [.pt b (.cells #[.string (s ++ ByteArray.mk #[0])] 9)] Lp else TW true (B2 [Res.pt b (.cells #[.string s] 9)]) w0 [.pt b (.cells #[.string s] 9)] Lp) := by
  intro Lp h; unfold pad at h; split <;> simp_all
 have hrem : ((s.size : Int).tmod 2 = 1) = (s.size % 2 = 1) := by
  rw [Int.tmod_eq_emod_of_nonneg (by omega)]; exact propext (by omega)
 have hadd : s.size + (ByteArray.mk #[0]).size ≤ 9223372036854775807 := by rw [show (ByteArray.mk #[0]).size = 1 from rfl]; omega
 (have zz:=trivial;repeat((first|clear zz|with_reducible first|refine A3 ?_|refine A5 fun _=>?_|refine A4 fun _=>?_);try simp(disch:=first|omega|assumption|((repeat(first|exact A1|exact uH|apply A2|apply uT));first|done|fail)|(simp;first|done|omega|fail))[y4, r3, hrem]))
 refine key _ ?_
 clear key
 refine C55 (fun i => i) (fun _ => [.pt b (.cells #[.string (pad s)] 9)]) (fun i => i ≤ f9 s) (fun i => f9 s - i) (fun i : Nat => .int .i64 (2 * (i : Int))) 0 hJ stJ h0 (Nat.zero_le _) fun i a hi hJi _ L hL => ?_
 by_cases hlt : i < f9 s
 ·have h2 : 2 * (i : Int) < (pad s).size := by omega
  (have zz:=trivial;repeat((first|clear zz|with_reducible first|refine A3 ?_|refine A5 fun _=>?_|refine A4 fun _=>?_);try simp(disch:=first|omega|assumption|((repeat(first|exact A1|exact uH|apply A2|apply uT));first|done|fail)|(simp;first|done|omega|fail))[h2]))
  refine C8 U0 (fun w' _ => A3K w' (pad s) (by omega) _ _) ?_
  have hg : A24 (pad s) (2 * (i : Int)) 2 = true := by simp only [A24, decide_eq_true_eq]; omega
  have hv : A6J (pad s) (2 * (i : Int)) 2 = (u6 s (2 * i) 2 : Nat) := by
   unfold A6J; rw [if_pos hg, C6z]; congr 2
  rw [hv, hg]
  (have zz:=trivial;repeat((first|clear zz|with_reducible first|refine A3 ?_|refine A5 fun _=>?_|refine A4 fun _=>?_);try simp(disch:=first|omega|assumption|((repeat(first|exact A1|exact uH|apply A2|apply uT));first|done|fail)|(simp;first|done|omega|fail))[]))
  refine A5U hJ hE stJ hy hJi (by simpa using hlt) (by simp [B6a]) (fun w3 h => ?_) (fun w3 h => ?_)
  ·(have zz:=trivial;repeat((first|clear zz|with_reducible first|refine A3 ?_|refine A5 fun _=>?_|refine A4 fun _=>?_);try simp(disch:=first|omega|assumption|((repeat(first|exact A1|exact uH|apply A2|apply uT));first|done|fail)|(simp;first|done|omega|fail))[]))
   intro w' hw'
   have := hL (i + 1) w' hlt (by omega) (stJ _ _ _ _ _ h hw')
   simpa [Int.mul_add] using this
  ·(have zz:=trivial;repeat((first|clear zz|with_reducible first|refine A3 ?_|refine A5 fun _=>?_|refine A4 fun _=>?_);try simp(disch:=first|omega|assumption|((repeat(first|exact A1|exact uH|apply A2|apply uT));first|done|fail)|(simp;first|done|omega|fail))[]))
   exact A3W stE h
 ·have h2 : ¬ 2 * (i : Int) < (pad s).size := by omega
  obtain rfl : i = f9 s := by omega
  (have zz:=trivial;repeat((first|clear zz|with_reducible first|refine A3 ?_|refine A5 fun _=>?_|refine A4 fun _=>?_);try simp(disch:=first|omega|assumption|((repeat(first|exact A1|exact uH|apply A2|apply uT));first|done|fail)|(simp;first|done|omega|fail))[h2]))
  exact A29 stJ (by simpa using hJi)
def B2M (s : ByteArray) : Nat → Nat
 | 0 => 0
 | i + 1 => B2M s i + u6 s (2 * i) 2
def fld (n : Nat) : Nat := if n = 0 then 0 else (n - 1) % 65535 + 1
def A5n (s : ByteArray) : Nat := fld (B2M s (f9 s))
theorem C46 (n : Nat) : fld (n / 65536 + n % 65536) = fld n := by
 unfold fld
 have h := Nat.div_add_mod n 65536
 by_cases h0 : n = 0
 ·subst h0; rfl
 ·rw [if_neg (by omega), if_neg h0]; omega
theorem C24 {n : Nat} (h : n ≤ 65535) : fld n = n := by unfold fld; split <;> omega
theorem B95 (s : ByteArray) (i : Nat) : B2M s i ≤ i * 65535 := by
 induction i with
 | zero => simp [B2M]
 | succ i ih => have := B0r s (2 * i) 2; simp only [B2M]; omega
theorem C5c (n : Nat) (h : n < 2 ^ 64) : IntKind.u64.wrap ((n % 2 ^ IntKind.u64.bits &&& 65535 % 2 ^ IntKind.u64.bits : Nat) : Int) = ((n % 65536 : Nat) : Int) := by
 rw [show (2 : Nat) ^ IntKind.u64.bits = 2 ^ 64 from rfl, Nat.mod_eq_of_lt h, show 65535 % 2 ^ 64 = 2 ^ 16 - 1 from rfl, Nat.and_two_pow_sub_one_eq_mod]
 exact A2q (by omega) (by omega)
theorem C7f (w : World) (s : ByteArray) (hs : s.size < 2 ^ 40) : Fn PR B6 197 #[.string s] w (fun v w' => v = .int .i64 (A5n s : Nat) ∧ C6 [] w w') := by
 refine Fn.pure (B84 (TW.go (κ := false) (S := []) ?_))
 unfold B1e
 (have zz:=trivial;repeat((first|clear zz|with_reducible first|refine A3 ?_|refine A5 fun _=>?_|refine A4 fun _=>?_);try simp(disch:=first|omega|assumption|((repeat(first|exact A1|exact uH|apply A2|apply uT));first|done|fail)|(simp;first|done|omega|fail))[]))
 rename_i bn
 refine H9 B6H (fun w' _ => C4b w' s) ?_
 rintro b v rfl
 have hnw : f9 s ≤ 2 ^ 39 := by unfold f9; omega
 refine A28 (C36 b s (by omega)) (by simp [B6a]) (fun _ (_ : Unit) => True) (fun i _ => [.pt bn (.cells #[.int .u64 ((B2M s i : Nat) : Int)] 208)]) (fun _ (_ : Unit) => False) (fun _ => []) () trivial ?_ ?_ ?_ ?_
 ·intros; trivial
 ·rintro i hi _ F _ K' hK _
  have hi' : i < f9 s := by simpa using hi
  have h1 := B95 s i
  have h2 := B0r s (2 * i) 2
  simp only [List.getElem_map, List.getElem_range, B6a, VF.app]
  (have zz:=trivial;repeat((first|clear zz|with_reducible first|refine A3 ?_|refine A5 fun _=>?_|refine A4 fun _=>?_);try simp(disch:=first|omega|assumption|((repeat(first|exact A1|exact uH|apply A2|apply uT));first|done|fail)|(simp;first|done|omega|fail))[]))
  refine TW.eqH ?_ (hK () trivial)
  simp [B2M]
 ·rintro _ _
  (have zz:=trivial;repeat((first|clear zz|with_reducible first|refine A3 ?_|refine A5 fun _=>?_|refine A4 fun _=>?_);try simp(disch:=first|omega|assumption|((repeat(first|exact A1|exact uH|apply A2|apply uT));first|done|fail)|(simp;first|done|omega|fail))[]))
  refine D0a (fun n : Nat => [.pt bn (.cells #[.int .u64 (n : Int)] 208)]) (fun n => fld n = A5n s ∧ n < 2 ^ 63) (fun n => n) _ ⟨by simp [A5n], by have := B95 s (f9 s); simp; omega⟩ ?_
  rintro n ⟨h1, h2⟩ L hL
  by_cases h3 : n ≤ 65535
  ·have h4 : (n : Int) ≤ 65535 := by omega
   (have zz:=trivial;repeat((first|clear zz|with_reducible first|refine A3 ?_|refine A5 fun _=>?_|refine A4 fun _=>?_);try simp(disch:=first|omega|assumption|((repeat(first|exact A1|exact uH|apply A2|apply uT));first|done|fail)|(simp;first|done|omega|fail))[h4]))
   rw [C24 h3] at h1
   exact B0 (by rw [h1])
  ·have h4 : ¬ (n : Int) ≤ 65535 := by omega
   have e1 : (n : Int).fdiv (2 ^ min 16 IntKind.u64.bits) = (n / 65536 : Nat) := by rw [show (2 : Int) ^ min 16 IntKind.u64.bits = 65536 from rfl, Int.fdiv_eq_ediv_of_nonneg _ (by omega)]; omega
   (have zz:=trivial;repeat((first|clear zz|with_reducible first|refine A3 ?_|refine A5 fun _=>?_|refine A4 fun _=>?_);try simp(disch:=first|omega|assumption|((repeat(first|exact A1|exact uH|apply A2|apply uT));first|done|fail)|(simp;first|done|omega|fail))[h4]))
   refine TW.eqH ?_ (hL (n / 65536 + n % 65536) ⟨by rw [C46]; exact h1, by omega⟩ (by omega))
   rw [e1, C5c n (by omega), A2q (by omega) (by omega)]; simp
 ·rintro _ _ h; exact h.elim
theorem C6n (w : World) (s : ByteArray) (hs : s.size < 2 ^ 40) : Fn PR B6 173 #[.string s] w (fun v w' => v = .bool (decide (A5n s = 65535)) ∧ C6 [] w w') := by
 refine Fn.pure (B8q (TW.go (κ := false) (S := []) ?_))
 unfold B1p
 refine C8 B8J (fun w' _ => C7f w' s hs) ?_
 (have zz:=trivial;repeat((first|clear zz|with_reducible first|refine A3 ?_|refine A5 fun _=>?_|refine A4 fun _=>?_);try simp(disch:=first|omega|assumption|((repeat(first|exact A1|exact uH|apply A2|apply uT));first|done|fail)|(simp;first|done|omega|fail))[]))
 exact B0 (by simp; omega)
end Go.Proofs.YtpnidmkaobfhiaaGreat
namespace Go.Proofs.YtpnidmkaobfhiaaGreat
open Go
def gv (s : ByteArray) (a n : Nat) : Nat := if a + n ≤ s.size then u6 s a n else 0
theorem A6y (s : ByteArray) (a n : Nat) (h1 : 1 ≤ n) (h8 : n ≤ 8) : A6J s a n = gv s a n := by
 unfold A6J gv
 by_cases h : a + n ≤ s.size
 ·rw [if_pos (by simp only [A24, decide_eq_true_eq]; omega), if_pos h]; simp
 ·rw [if_neg (by simp only [A24, decide_eq_true_eq]; omega), if_neg h]; rfl
theorem B20 (s : ByteArray) (a : Nat) : gv s a 1 < 256 := by
 unfold gv; split
 ·exact B0r s a 1
 ·omega
theorem A3e (s : ByteArray) (a : Nat) : gv s a 2 < 65536 := by
 unfold gv; split
 ·exact B0r s a 2
 ·omega
theorem A4W (w : World) (s : ByteArray) (hs : s.size < 2 ^ 63) (b a n : Nat) (h1 : 1 ≤ n) (h2 : n ≤ 2) (hc : w.cell? ⟨b, 0, none⟩ = some (.string s)) :
  Fn PR B6 167 #[.int .i64 (a : Int), .int .i64 (n : Int), .pointer (some ⟨b, 0, none⟩)] w (fun v w' => v = .int .i64 (gv s a n : Nat) ∧ C6 [] w w') := by
 refine Fn.pure (B32 (TW.go (κ := false) (S := []) ?_))
 unfold A5L
 (have zz:=trivial;repeat((first|clear zz|with_reducible first|refine A3 ?_|refine A5 fun _=>?_|refine A4 fun _=>?_|refine G1 fun _=>?_|refine F7 (hK:=fun _=>?_)|refine F9 (hK:=fun _=>?_)|refine F8 (hK:=fun _=>?_)|refine F6 (hK:=fun _=>?_)|refine G0 (hK:=fun _=>?_));try simp(disch:=first|omega|assumption|((repeat(first|exact A1|exact uH|apply A2|apply uT));first|done|fail)|(simp;first|done|omega|fail))[hc]))
 refine C8 U0 (fun w' _ => A3K w' s (by omega) _ _) ?_
 rw [A6y s a n h1 (by omega)]
 have hlt : gv s a n < 65536 := by
  obtain rfl | rfl : n = 1 ∨ n = 2 := by omega
  ·have := B20 s a; omega
  ·exact A3e s a
 (have zz:=trivial;repeat((first|clear zz|with_reducible first|refine A3 ?_|refine A5 fun _=>?_|refine A4 fun _=>?_|refine G1 fun _=>?_|refine F7 (hK:=fun _=>?_)|refine F9 (hK:=fun _=>?_)|refine F8 (hK:=fun _=>?_)|refine F6 (hK:=fun _=>?_)|refine G0 (hK:=fun _=>?_));try simp(disch:=first|omega|assumption|((repeat(first|exact A1|exact uH|apply A2|apply uT));first|done|fail)|(simp;first|done|omega|fail))[]))
 exact B0 rfl
theorem C7U (w : World) (s : ByteArray) (hs : s.size < 2 ^ 63) (b : Nat) (hc : w.cell? ⟨b, 0, none⟩ = some (.string s)) :
  Fn PR B6 167 #[.int .i64 0, .int .i64 1, .pointer (some ⟨b, 0, none⟩)] w (fun v w' => v = .int .i64 (gv s 0 1 : Nat) ∧ C6 [] w w') := A4W w s hs b 0 1 (by omega) (by omega) hc
theorem C6x (w : World) (s : ByteArray) (hs : s.size < 2 ^ 63) (b : Nat) (hc : w.cell? ⟨b, 0, none⟩ = some (.string s)) :
  Fn PR B6 167 #[.int .i64 2, .int .i64 2, .pointer (some ⟨b, 0, none⟩)] w (fun v w' => v = .int .i64 (gv s 2 2 : Nat) ∧ C6 [] w w') := A4W w s hs b 2 2 (by omega) (by omega) hc
theorem C6g (w : World) (s : ByteArray) (hs : s.size < 2 ^ 63) (b : Nat) (hc : w.cell? ⟨b, 0, none⟩ = some (.string s)) :
  Fn PR B6 167 #[.int .i64 9, .int .i64 1, .pointer (some ⟨b, 0, none⟩)] w (fun v w' => v = .int .i64 (gv s 9 1 : Nat) ∧ C6 [] w w') := A4W w s hs b 9 1 (by omega) (by omega) hc
def B6g (x : Value × Int × Bool) : List Value := [x.1, .int .i64 x.2.1]
def A4d (l : List (Value × Int × Bool)) : Int := match l.find? (·.2.2) with | some x => x.2.1 | none => 0
theorem B8p {l : List (Value × Int × Bool)} (h : ∀ i (hi : i < l.length), l[i].2.2 = false) : A4d l = 0 := by
 have : l.find? (·.2.2) = none := by
  rw [List.find?_eq_none]; intro x hx; obtain ⟨i, hi, rfl⟩ := List.getElem_of_mem hx; simp [h i hi]
 simp [A4d, this]
theorem B9M {l : List (Value × Int × Bool)} {i : Nat} (hi : i < l.length) (hp : l[i].2.2 = true) (h : ∀ j (hj : j < i), (l[j]'(by omega)).2.2 = false) : A4d l = l[i].2.1 := by
 have : l.find? (·.2.2) = some l[i] := by
  rw [List.find?_eq_some_iff_getElem]
  exact ⟨hp, i, hi, rfl, fun j hj => by simp [h j hj]⟩
 simp [A4d, this]
theorem C42 (w : World) (v : Value) (l : List (Value × Int × Bool)) (hl : l.length < 1000) (hv : E2 w v l.length (l.flatMap B6g))
  (hg : ∀ i (hi : i < l.length), (∀ j (hj : j < i), (l[j]'(by omega)).2.2 = false) → ∃ f cap, l[i].1 = .func (.func f) #[] cap ∧ A9 PR f ∧ ∀ w', KS false [] w w' → Fn PR B6 f cap w' (fun v w'' => v = .bool l[i].2.2 ∧ C6 [] w' w'')) :
  Fn PR B6 168 #[v] w (fun u w' => u = .int .i64 (A4d l) ∧ C6 [] w w') := by
 refine Fn.pure (B8U (TW.go (κ := false) (S := []) ?_))
 unfold B0M
 obtain ⟨a, c, rfl, hrow⟩ := hv.form
 (have zz:=trivial;repeat((first|clear zz|with_reducible first|refine A3 ?_|refine A5 fun _=>?_|refine A4 fun _=>?_|refine G1 fun _=>?_|refine F7 (hK:=fun _=>?_)|refine F9 (hK:=fun _=>?_)|refine F8 (hK:=fun _=>?_)|refine F6 (hK:=fun _=>?_)|refine G0 (hK:=fun _=>?_));try simp(disch:=first|omega|assumption|((repeat(first|exact A1|exact uH|apply A2|apply uT));first|done|fail)|(simp;first|done|omega|fail))[]))
 refine w7 (α := Unit) l.length (fun _ _ => .int .i64 0) (fun _ _ => []) (fun i _ => ∀ j (hj : j < i), ∀ (h : j < l.length), l[j].2.2 = false) () (by intro j hj; omega) ?_
 rintro i _ hi hpre L hL
 by_cases hlt : i < l.length
 ·obtain ⟨b, o, rfl, hr⟩ := hrow (by omega)
  have hx : l[i]? = some l[i] := List.getElem?_eq_getElem hlt
  have hrn := hr.at (f := B6g) (k := 2) (fun _ => rfl) hx
  have hpre' : ∀ j (hj : j < i), (l[j]'(by omega)).2.2 = false := fun j hj => hpre j hj (by omega)
  obtain ⟨f, cap, he, hent, hcall⟩ := hg i hlt hpre'
  rw [B6g, he] at hrn
  (have zz:=trivial;repeat((first|clear zz|with_reducible first|refine A3 ?_|refine A5 fun _=>?_|refine A4 fun _=>?_|refine G1 fun _=>?_|refine F7 (hK:=fun _=>?_)|refine F9 (hK:=fun _=>?_)|refine F8 (hK:=fun _=>?_)|refine F6 (hK:=fun _=>?_)|refine G0 (hK:=fun _=>?_));try simp(disch:=first|omega|assumption|((repeat(first|exact A1|exact uH|apply A2|apply uT));first|done|fail)|(simp;first|done|omega|fail))[hlt, hrn]))
  refine B4v hent (φ := fun v => v = .bool l[i].2.2) (fun w' hw' => by simpa using hcall w' hw'.ks) ?_
  rintro _ rfl
  cases hb : l[i].2.2 with
  | true =>
   (have zz:=trivial;repeat((first|clear zz|with_reducible first|refine A3 ?_|refine A5 fun _=>?_|refine A4 fun _=>?_|refine G1 fun _=>?_|refine F7 (hK:=fun _=>?_)|refine F9 (hK:=fun _=>?_)|refine F8 (hK:=fun _=>?_)|refine F6 (hK:=fun _=>?_)|refine G0 (hK:=fun _=>?_));try simp(disch:=first|omega|assumption|((repeat(first|exact A1|exact uH|apply A2|apply uT));first|done|fail)|(simp;first|done|omega|fail))[]))
   exact B0 (by rw [B9M hlt hb hpre'])
  | false =>
   (have zz:=trivial;repeat((first|clear zz|with_reducible first|refine A3 ?_|refine A5 fun _=>?_|refine A4 fun _=>?_|refine G1 fun _=>?_|refine F7 (hK:=fun _=>?_)|refine F9 (hK:=fun _=>?_)|refine F8 (hK:=fun _=>?_)|refine F6 (hK:=fun _=>?_)|refine G0 (hK:=fun _=>?_));try simp(disch:=first|omega|assumption|((repeat(first|exact A1|exact uH|apply A2|apply uT));first|done|fail)|(simp;first|done|omega|fail))[]))
   refine Sels.tw .nil (hL hlt () ?_)
   intro j hj h
   by_cases hji : j = i
   ·subst hji; exact hb
   ·exact hpre j (by omega) h
 ·obtain rfl : i = l.length := by omega
  (have zz:=trivial;repeat((first|clear zz|with_reducible first|refine A3 ?_|refine A5 fun _=>?_|refine A4 fun _=>?_|refine G1 fun _=>?_|refine F7 (hK:=fun _=>?_)|refine F9 (hK:=fun _=>?_)|refine F8 (hK:=fun _=>?_)|refine F6 (hK:=fun _=>?_)|refine G0 (hK:=fun _=>?_));try simp(disch:=first|omega|assumption|((repeat(first|exact A1|exact uH|apply A2|apply uT));first|done|fail)|(simp;first|done|omega|fail))[]))
  exact B0 (by rw [B8p fun j hj => hpre j hj hj])
structure HeadV where
 src : ByteArray
 dst : ByteArray
 proto : Nat
 rest : ByteArray
 e : Nat
abbrev Z1 : ByteArray := ByteArray.mk #[]
def HeadV.err (e : Nat) : HeadV := ⟨Z1, Z1, 0, Z1, e⟩
def HeadV.val (h : HeadV) : Value := .tuple #[.agg #[.string h.src, .string h.dst, .int .i64 h.proto], .string h.rest, .int .i64 h.e]
def N7 (s : ByteArray) : Nat := gv s 0 1 % 16 * 4
def B2k (s : ByteArray) : Nat := if s.size < 20 then 2 else if gv s 0 1 / 16 ≠ 4 then 3 else if N7 s < 20 ∨ s.size < N7 s ∨ gv s 2 2 < N7 s ∨ s.size < gv s 2 2 then 4
 else if A5n (s.extract 0 (N7 s)) ≠ 65535 then 5 else if gv s 6 2 % 16384 ≠ 0 then 6 else 0
def A04 (s : ByteArray) : HeadV := if B2k s = 0 then ⟨s.extract 12 16, s.extract 16 20, gv s 9 1, s.extract (N7 s) (gv s 2 2), 0⟩ else .err (B2k s)
theorem C9v (n : Nat) (h : n < 256) : IntKind.i64.wrap ((n % 2 ^ IntKind.i64.bits &&& 15 % 2 ^ IntKind.i64.bits : Nat) : Int) = ((n % 16 : Nat) : Int) := by
 rw [show (2 : Nat) ^ IntKind.i64.bits = 2 ^ 64 from rfl, Nat.mod_eq_of_lt (by omega), show 15 % 2 ^ 64 = 2 ^ 4 - 1 from rfl, Nat.and_two_pow_sub_one_eq_mod]
 exact T2 (by omega) (by omega)
theorem D01 (n : Nat) (h : n < 65536) : IntKind.i64.wrap ((n % 2 ^ IntKind.i64.bits &&& 16383 % 2 ^ IntKind.i64.bits : Nat) : Int) = ((n % 16384 : Nat) : Int) := by
 rw [show (2 : Nat) ^ IntKind.i64.bits = 2 ^ 64 from rfl, Nat.mod_eq_of_lt (by omega), show 16383 % 2 ^ 64 = 2 ^ 14 - 1 from rfl, Nat.and_two_pow_sub_one_eq_mod]
 exact T2 (by omega) (by omega)
section
variable (w : World) (s : ByteArray) (hs : s.size < 2 ^ 63) (b1 b5 b6 b7 : Nat) (h1 : w.cell? ⟨b1, 0, none⟩ = some (.string s)) (h5 : w.cell? ⟨b5, 0, none⟩ = some (.func (.func 167) #[] #[.pointer (some ⟨b1, 0, none⟩)]))
 (h6 : w.cell? ⟨b6, 0, none⟩ = some (.int .i64 (N7 s : Nat))) (h7 : w.cell? ⟨b7, 0, none⟩ = some (.int .i64 (gv s 2 2 : Nat)))
include h1
theorem D0U : Fn PR B6 169 #[.pointer (some ⟨b1, 0, none⟩)] w (fun v w' => v = .bool (decide (s.size < 20)) ∧ C6 [] w w') := by
 refine Fn.pure (B3w (TW.go (κ := false) (S := []) ?_))
 unfold A50
 (have zz:=trivial;repeat((first|clear zz|with_reducible first|refine A3 ?_|refine A5 fun _=>?_|refine A4 fun _=>?_|refine G1 fun _=>?_|refine F7 (hK:=fun _=>?_)|refine F9 (hK:=fun _=>?_)|refine F8 (hK:=fun _=>?_)|refine F6 (hK:=fun _=>?_)|refine G0 (hK:=fun _=>?_));try simp(disch:=first|omega|assumption|((repeat(first|exact A1|exact uH|apply A2|apply uT));first|done|fail)|(simp;first|done|omega|fail))[h1]))
 exact B0 (by simp; omega)
include hs h5
theorem C90 : Fn PR B6 170 #[.pointer (some ⟨b5, 0, none⟩)] w (fun v w' => v = .bool (decide (gv s 0 1 / 16 ≠ 4)) ∧ C6 [] w w') := by
 refine Fn.pure (B3c (TW.go (κ := false) (S := []) ?_))
 unfold A5k
 (have zz:=trivial;repeat((first|clear zz|with_reducible first|refine A3 ?_|refine A5 fun _=>?_|refine A4 fun _=>?_|refine G1 fun _=>?_|refine F7 (hK:=fun _=>?_)|refine F9 (hK:=fun _=>?_)|refine F8 (hK:=fun _=>?_)|refine F6 (hK:=fun _=>?_)|refine G0 (hK:=fun _=>?_));try simp(disch:=first|omega|assumption|((repeat(first|exact A1|exact uH|apply A2|apply uT));first|done|fail)|(simp;first|done|omega|fail))[h1, h5]))
 refine C8 p3 (fun w' hw' => A4W w' s hs b1 0 1 (by omega) (by omega) (hw'.ks.cell (by simp) h1)) ?_
 have e1 : ((gv s 0 1 : Nat) : Int).fdiv (2 ^ min 4 IntKind.i64.bits) = (gv s 0 1 / 16 : Nat) := by rw [show (2 : Int) ^ min 4 IntKind.i64.bits = 16 from rfl, Int.fdiv_eq_ediv_of_nonneg _ (by omega)]; omega
 (have zz:=trivial;repeat((first|clear zz|with_reducible first|refine A3 ?_|refine A5 fun _=>?_|refine A4 fun _=>?_|refine G1 fun _=>?_|refine F7 (hK:=fun _=>?_)|refine F9 (hK:=fun _=>?_)|refine F8 (hK:=fun _=>?_)|refine F6 (hK:=fun _=>?_)|refine G0 (hK:=fun _=>?_));try simp(disch:=first|omega|assumption|((repeat(first|exact A1|exact uH|apply A2|apply uT));first|done|fail)|(simp;first|done|omega|fail))[]))
 rw [e1]
 exact B0 (by simp; omega)
theorem D1H : Fn PR B6 174 #[.pointer (some ⟨b5, 0, none⟩)] w (fun v w' => v = .bool (decide (gv s 6 2 % 16384 ≠ 0)) ∧ C6 [] w w') := by
 refine Fn.pure (B3C (TW.go (κ := false) (S := []) ?_))
 unfold A5W
 (have zz:=trivial;repeat((first|clear zz|with_reducible first|refine A3 ?_|refine A5 fun _=>?_|refine A4 fun _=>?_|refine G1 fun _=>?_|refine F7 (hK:=fun _=>?_)|refine F9 (hK:=fun _=>?_)|refine F8 (hK:=fun _=>?_)|refine F6 (hK:=fun _=>?_)|refine G0 (hK:=fun _=>?_));try simp(disch:=first|omega|assumption|((repeat(first|exact A1|exact uH|apply A2|apply uT));first|done|fail)|(simp;first|done|omega|fail))[h1, h5]))
 refine C8 p3 (fun w' hw' => A4W w' s hs b1 6 2 (by omega) (by omega) (hw'.ks.cell (by simp) h1)) ?_
 have := A3e s 6
 (have zz:=trivial;repeat((first|clear zz|with_reducible first|refine A3 ?_|refine A5 fun _=>?_|refine A4 fun _=>?_|refine G1 fun _=>?_|refine F7 (hK:=fun _=>?_)|refine F9 (hK:=fun _=>?_)|refine F8 (hK:=fun _=>?_)|refine F6 (hK:=fun _=>?_)|refine G0 (hK:=fun _=>?_));try simp(disch:=first|omega|assumption|((repeat(first|exact A1|exact uH|apply A2|apply uT));first|done|fail)|(simp;first|done|omega|fail))[]))
 rw [D01 _ this]
 exact B0 (by simp; omega)
omit h5
include h6
omit hs in
theorem D1m (hl : N7 s ≤ s.size) : Fn PR B6 172 #[.pointer (some ⟨b1, 0, none⟩), .pointer (some ⟨b6, 0, none⟩)] w (fun v w' => v = .bool (decide (A5n (s.extract 0 (N7 s)) ≠ 65535)) ∧ C6 [] w w') := by
 refine Fn.pure (B27 (TW.go (κ := false) (S := []) ?_))
 unfold A52
 have hl' : ((N7 s : Nat) : Int) ≤ s.size := by omega
 have hl60 : N7 s ≤ 60 := by unfold N7; omega
 (have zz:=trivial;repeat((first|clear zz|with_reducible first|refine A3 ?_|refine A5 fun _=>?_|refine A4 fun _=>?_|refine G1 fun _=>?_|refine F7 (hK:=fun _=>?_)|refine F9 (hK:=fun _=>?_)|refine F8 (hK:=fun _=>?_)|refine F6 (hK:=fun _=>?_)|refine G0 (hK:=fun _=>?_));try simp(disch:=first|omega|assumption|((repeat(first|exact A1|exact uH|apply A2|apply uT));first|done|fail)|(simp;first|done|omega|fail))[h1, h6]))
 refine C8 B8Q (fun w' hw' => C6n w' _ (by simp [ByteArray.size_extract]; omega)) ?_
 (have zz:=trivial;repeat((first|clear zz|with_reducible first|refine A3 ?_|refine A5 fun _=>?_|refine A4 fun _=>?_|refine G1 fun _=>?_|refine F7 (hK:=fun _=>?_)|refine F9 (hK:=fun _=>?_)|refine F8 (hK:=fun _=>?_)|refine F6 (hK:=fun _=>?_)|refine G0 (hK:=fun _=>?_));try simp(disch:=first|omega|assumption|((repeat(first|exact A1|exact uH|apply A2|apply uT));first|done|fail)|(simp;first|done|omega|fail))[]))
 exact B0 (by simp)
include h7
theorem D0V : Fn PR B6 171 #[.pointer (some ⟨b6, 0, none⟩), .pointer (some ⟨b1, 0, none⟩), .pointer (some ⟨b7, 0, none⟩)] w
  (fun v w' => v = .bool (decide (N7 s < 20 ∨ s.size < N7 s ∨ gv s 2 2 < N7 s ∨ s.size < gv s 2 2)) ∧ C6 [] w w') := by
 have hs_ := hs
 refine Fn.pure (B34 (TW.go (κ := false) (S := []) ?_))
 unfold A5e
 by_cases g1 : N7 s < 20
 ·have g1' : ((N7 s : Nat) : Int) < 20 := by omega
  (have zz:=trivial;repeat((first|clear zz|with_reducible first|refine A3 ?_|refine A5 fun _=>?_|refine A4 fun _=>?_|refine G1 fun _=>?_|refine F7 (hK:=fun _=>?_)|refine F9 (hK:=fun _=>?_)|refine F8 (hK:=fun _=>?_)|refine F6 (hK:=fun _=>?_)|refine G0 (hK:=fun _=>?_));try simp(disch:=first|omega|assumption|((repeat(first|exact A1|exact uH|apply A2|apply uT));first|done|fail)|(simp;first|done|omega|fail))[h1, h6, h7, g1, g1']))
  exact B0 (by simp [g1])
 have g1' : ¬ ((N7 s : Nat) : Int) < 20 := by omega
 by_cases g2 : s.size < N7 s
 ·have g2' : ((s.size : Nat) : Int) < N7 s := by omega
  (have zz:=trivial;repeat((first|clear zz|with_reducible first|refine A3 ?_|refine A5 fun _=>?_|refine A4 fun _=>?_|refine G1 fun _=>?_|refine F7 (hK:=fun _=>?_)|refine F9 (hK:=fun _=>?_)|refine F8 (hK:=fun _=>?_)|refine F6 (hK:=fun _=>?_)|refine G0 (hK:=fun _=>?_));try simp(disch:=first|omega|assumption|((repeat(first|exact A1|exact uH|apply A2|apply uT));first|done|fail)|(simp;first|done|omega|fail))[h1, h6, h7, g1, g1', g2, g2']))
  exact B0 (by simp [g2])
 have g2' : ¬ ((s.size : Nat) : Int) < N7 s := by omega
 by_cases g3 : gv s 2 2 < N7 s
 ·have g3' : ((gv s 2 2 : Nat) : Int) < N7 s := by omega
  (have zz:=trivial;repeat((first|clear zz|with_reducible first|refine A3 ?_|refine A5 fun _=>?_|refine A4 fun _=>?_|refine G1 fun _=>?_|refine F7 (hK:=fun _=>?_)|refine F9 (hK:=fun _=>?_)|refine F8 (hK:=fun _=>?_)|refine F6 (hK:=fun _=>?_)|refine G0 (hK:=fun _=>?_));try simp(disch:=first|omega|assumption|((repeat(first|exact A1|exact uH|apply A2|apply uT));first|done|fail)|(simp;first|done|omega|fail))[h1, h6, h7, g1, g1', g2, g2', g3, g3']))
  exact B0 (by simp [g3])
 have g3' : ¬ ((gv s 2 2 : Nat) : Int) < N7 s := by omega
 (have zz:=trivial;repeat((first|clear zz|with_reducible first|refine A3 ?_|refine A5 fun _=>?_|refine A4 fun _=>?_|refine G1 fun _=>?_|refine F7 (hK:=fun _=>?_)|refine F9 (hK:=fun _=>?_)|refine F8 (hK:=fun _=>?_)|refine F6 (hK:=fun _=>?_)|refine G0 (hK:=fun _=>?_));try simp(disch:=first|omega|assumption|((repeat(first|exact A1|exact uH|apply A2|apply uT));first|done|fail)|(simp;first|done|omega|fail))[h1, h6, h7, g1, g1', g2, g2', g3, g3']))
 exact B0 (by simp [g1, g2, g3])
end
theorem B9K (w : World) (s : ByteArray) (hs : s.size < 2 ^ 63) : Fn PR B6 138 #[.string s] w (fun v w' => v = (A04 s).val ∧ C6 [] w w') := by
 refine Fn.pure (B6m (TW.go (κ := false) (S := []) ?_))
 unfold B0F
 (have zz:=trivial;repeat((first|clear zz|with_reducible first|refine A3 ?_|refine A5 fun _=>?_|refine A4 fun _=>?_|refine G1 fun _=>?_|refine F7 (hK:=fun _=>?_)|refine F9 (hK:=fun _=>?_)|refine F8 (hK:=fun _=>?_)|refine F6 (hK:=fun _=>?_)|refine G0 (hK:=fun _=>?_));try simp(disch:=first|omega|assumption|((repeat(first|exact A1|exact uH|apply A2|apply uT));first|done|fail)|(simp;first|done|omega|fail))[]))
 rename_i b1 b2 b5
 refine C0x (α := Nat × Nat) (fun _ => True) (fun x => [.pt x.1 (.cells #[.int .i64 (N7 s : Nat)] 3), .pt x.2 (.cells #[.int .i64 (gv s 2 2 : Nat)] 3),
  .pt b5 (.cells #[.func (.func 167) #[] #[.pointer (some ⟨b1, 0, none⟩)]] 113), .pt b2 (.cells #[.string Z1, .string Z1, .int .i64 0] 265), .pt b1 (.cells #[.string s] 9)])
  (fun x => .pointer (some ⟨x.1, 0, none⟩)) (fun x => .pointer (some ⟨x.2, 0, none⟩)) ?_ ?_
 ·rintro ⟨b6, b7⟩ _
  simp only
  (have zz:=trivial;repeat((first|clear zz|with_reducible first|refine A3 ?_|refine A5 fun _=>?_|refine A4 fun _=>?_|refine G1 fun _=>?_|refine F7 (hK:=fun _=>?_)|refine F9 (hK:=fun _=>?_)|refine F8 (hK:=fun _=>?_)|refine F6 (hK:=fun _=>?_)|refine G0 (hK:=fun _=>?_));try simp(disch:=first|omega|assumption|((repeat(first|exact A1|exact uH|apply A2|apply uT));first|done|fail)|(simp;first|done|omega|fail))[]))
  rename_i bl
  refine C8 (u := .int .i64 (B2k s : Nat)) B57 (fun w' hw' => ?_) ?_
  ·have h1 := hw'.cell1 (b := b1) (by (repeat constructor))
   have h5 := hw'.cell1 (b := b5) (by (repeat constructor))
   have h6 := hw'.cell1 (b := b6) (by (repeat constructor))
   have h7 := hw'.cell1 (b := b7) (by (repeat constructor))
   have hk : ∀ {w2 : World} {b : Nat} {v : Value}, KS false [] w' w2 → w'.cell? ⟨b, 0, none⟩ = some v → w2.cell? ⟨b, 0, none⟩ = some v := fun h e => h.cell (by simp) e
   have hE : A4d [(.func (.func 169) #[] #[.pointer (some ⟨b1, 0, none⟩)], 2, decide (s.size < 20)), (.func (.func 170) #[] #[.pointer (some ⟨b5, 0, none⟩)], 3, decide (gv s 0 1 / 16 ≠ 4)),
    (.func (.func 171) #[] #[.pointer (some ⟨b6, 0, none⟩), .pointer (some ⟨b1, 0, none⟩), .pointer (some ⟨b7, 0, none⟩)], 4, decide (N7 s < 20 ∨ s.size < N7 s ∨ gv s 2 2 < N7 s ∨ s.size < gv s 2 2)),
    (.func (.func 172) #[] #[.pointer (some ⟨b1, 0, none⟩), .pointer (some ⟨b6, 0, none⟩)], 5, decide (A5n (s.extract 0 (N7 s)) ≠ 65535)), (.func (.func 174) #[] #[.pointer (some ⟨b5, 0, none⟩)], 6, decide (gv s 6 2 % 16384 ≠ 0))] = (B2k s : Nat) := by
    unfold A4d B2k
    by_cases c1 : s.size < 20
    ·simp [c1]
    by_cases c2 : gv s 0 1 / 16 ≠ 4
    ·simp [c1, c2]
    by_cases c3 : N7 s < 20 ∨ s.size < N7 s ∨ gv s 2 2 < N7 s ∨ s.size < gv s 2 2
    ·simp [c1, c2, c3]
    by_cases c4 : A5n (s.extract 0 (N7 s)) ≠ 65535
    ·simp [c1, c2, c3, c4]
    by_cases c5 : gv s 6 2 % 16384 ≠ 0
    ·simp [c1, c2, c3, c4, c5]
    ·simp [c1, c2, c3, c4, c5]
   rw [← hE]
   refine C42 w' _ _ (by simp) ?_ ?_
   ·have := P4.own (κ := false) (S := []) (w0 := w) (e := 306) (k := 2) (q := 5) (v := .slice (some ⟨bl, 0, none⟩) 5 5) (by (repeat constructor)) w' hw'
    simpa [B6g] using this
   ·intro i hi hpre
    have hi' : i = 0 ∨ i = 1 ∨ i = 2 ∨ i = 3 ∨ i = 4 := by simp at hi; omega
    rcases hi' with rfl | rfl | rfl | rfl | rfl
    ·exact ⟨_, _, rfl, B1w, fun w2 h => D0U w2 s b1 (hk h h1)⟩
    ·exact ⟨_, _, rfl, B2B, fun w2 h => C90 w2 s hs b1 b5 (hk h h1) (hk h h5)⟩
    ·exact ⟨_, _, rfl, B2N, fun w2 h => D0V w2 s hs b1 b6 b7 (hk h h1) (hk h h6) (hk h h7)⟩
    ·have h2 := hpre 2 (by omega)
     simp only [List.getElem_cons_succ, List.getElem_cons_zero, decide_eq_false_iff_not] at h2
     exact ⟨_, _, rfl, B1y, fun w2 h => D1m w2 s b1 b6 (hk h h1) (hk h h6) (by omega)⟩
    ·exact ⟨_, _, rfl, B1z, fun w2 h => D1H w2 s hs b1 b5 (hk h h1) (hk h h5)⟩
  ·by_cases he : B2k s = 0
   ·have hE := he
    unfold B2k at hE
    by_cases c1 : s.size < 20
    ·simp [c1] at hE
    by_cases c2 : gv s 0 1 / 16 ≠ 4
    ·simp [c1, c2] at hE
    by_cases c3 : N7 s < 20 ∨ s.size < N7 s ∨ gv s 2 2 < N7 s ∨ s.size < gv s 2 2
    ·simp [c1, c2, c3] at hE
    clear hE
    have hg91 := B20 s 9
    (have zz:=trivial;repeat((first|clear zz|with_reducible first|refine A3 ?_|refine A5 fun _=>?_|refine A4 fun _=>?_|refine G1 fun _=>?_|refine F7 (hK:=fun _=>?_)|refine F9 (hK:=fun _=>?_)|refine F8 (hK:=fun _=>?_)|refine F6 (hK:=fun _=>?_)|refine G0 (hK:=fun _=>?_));try simp(disch:=first|omega|assumption|((repeat(first|exact A1|exact uH|apply A2|apply uT));first|done|fail)|(simp;first|done|omega|fail))[he]))
    refine C8 p3 (fun w' hw' => C6g w' s hs b1 (hw'.cell1 (by (repeat constructor)))) ?_
    (have zz:=trivial;repeat((first|clear zz|with_reducible first|refine A3 ?_|refine A5 fun _=>?_|refine A4 fun _=>?_|refine G1 fun _=>?_|refine F7 (hK:=fun _=>?_)|refine F9 (hK:=fun _=>?_)|refine F8 (hK:=fun _=>?_)|refine F6 (hK:=fun _=>?_)|refine G0 (hK:=fun _=>?_));try simp(disch:=first|omega|assumption|((repeat(first|exact A1|exact uH|apply A2|apply uT));first|done|fail)|(simp;first|done|omega|fail))[]))
    exact B0 (by simp [A04, he, HeadV.val])
   ·(have zz:=trivial;repeat((first|clear zz|with_reducible first|refine A3 ?_|refine A5 fun _=>?_|refine A4 fun _=>?_|refine G1 fun _=>?_|refine F7 (hK:=fun _=>?_)|refine F9 (hK:=fun _=>?_)|refine F8 (hK:=fun _=>?_)|refine F6 (hK:=fun _=>?_)|refine G0 (hK:=fun _=>?_));try simp(disch:=first|omega|assumption|((repeat(first|exact A1|exact uH|apply A2|apply uT));first|done|fail)|(simp;first|done|omega|fail))[he]))
    exact B0 (by simp [A04, he, HeadV.val, HeadV.err])
 ·intro J hJ
  have hl := B20 s 0
  have e15 := C9v _ hl
  have em : ((gv s 0 1 : Nat) : Int) % 16 * 4 = (N7 s : Nat) := by simp [N7]
  have hJ' := fun b6 b7 => hJ (b6, b7) trivial
  simp only at hJ'
  clear hJ
  iterate 16 all_goals (try (first
   | exact fun _ _ => trivial
   | with_reducible refine And.intro ?_ ?_
   | (with_reducible apply C8 p3); (first | with_reducible exact fun w' hw' => C7U w' s hs b1 (hw'.cell1 (by ((repeat (first | exact A1 | exact Up.here | exact Sel.here | apply A2 | apply Up.there | apply Sel.there)); first | done | fail))) | with_reducible exact fun w' hw' => C6x w' s hs b1 (hw'.cell1 (by ((repeat (first | exact A1 | exact Up.here | exact Sel.here | apply A2 | apply Up.there | apply Sel.there)); first | done | fail))))
   | with_reducible refine A4 fun _ => ?_
   | simp(disch:=first|omega|assumption|((repeat(first|exact A1|exact uH|apply A2|apply uT));first|done|fail)|(simp;first|done|omega|fail))[e15, em]
   | with_reducible exact Sels.tw (by ((repeat (first | exact Sels.nil | (apply Sels.cons; · ((repeat (first | exact A1 | exact Up.here | exact Sel.here | apply A2 | apply Up.there | apply Sel.there)); first | done | fail)))); first | done | fail)) (hJ' _ _)))
  all_goals trace_state
end Go.Proofs.YtpnidmkaobfhiaaGreat
namespace Go.Proofs.YtpnidmkaobfhiaaGreat
open Go
def A8E : List Nat → ByteArray → List ByteArray
 | [], s => [s]
 | n :: ns, s => s.extract 0 n :: A8E ns (s.extract n s.size)
theorem C8q (w : World) (v : Value) (ns : List Nat) (s : ByteArray) (hn : ns.length < 100) (hv : E2 w v ns.length (ns.map fun n : Nat => Value.int .i64 (n : Int))) (hs : ns.sum ≤ s.size) (hs2 : s.size < 2 ^ 63) :
  Fn PR B6 175 #[.string s, v] w (Rn [] w (fun v u => u = v) fun v => [.own 9 1 v (ns.length + 1) ((A8E ns s).map .string)]) := by
 refine C0Z (TW.go (κ := false) (S := []) ?_)
 unfold B3W
 obtain ⟨a, c, rfl, hrow⟩ := hv.form
 (have zz:=trivial;repeat((first|clear zz|with_reducible first|refine A3 ?_|refine A5 fun _=>?_|refine A4 fun _=>?_|refine G1 fun _=>?_|refine F7 (hK:=fun _=>?_)|refine F9 (hK:=fun _=>?_)|refine F8 (hK:=fun _=>?_)|refine F6 (hK:=fun _=>?_)|refine G0 (hK:=fun _=>?_));try simp(disch:=first|omega|assumption|((repeat(first|exact A1|exact uH|apply A2|apply uT));first|done|fail)|(simp;first|done|omega|fail))[]))
 refine s9 9 1 ?_
 refine C8s (α := Value × ByteArray × List ByteArray) ns.length (fun _ x => x.1) (fun _ x => .string x.2.1) (fun i x => [.own 9 1 x.1 i (x.2.2.map .string)])
  (fun i x => A8E ns s = x.2.2 ++ A8E (ns.drop i) x.2.1 ∧ (ns.drop i).sum ≤ x.2.1.size ∧ x.2.1.size ≤ s.size) (.slice none 0 0, s, []) ⟨by simp, by simpa using hs, Nat.le_refl _⟩ ?_
 rintro i ⟨v, r, d⟩ hi ⟨h1, h2, h3⟩ L hL
 simp only at h1 h2 h3 hL ⊢
 by_cases hlt : i < ns.length
 ·obtain ⟨b, o, rfl, hr⟩ := hrow (by omega)
  have hx : ns[i]? = some ns[i] := List.getElem?_eq_getElem hlt
  have hc := hr.one hx
  rw [List.drop_eq_getElem_cons hlt] at h1 h2
  simp only [List.sum_cons, A8E] at h1 h2
  have hle : ((ns[i] : Nat) : Int) ≤ r.size := by omega
  (have zz:=trivial;repeat((first|clear zz|with_reducible first|refine A3 ?_|refine A5 fun _=>?_|refine A4 fun _=>?_|refine G1 fun _=>?_|refine F7 (hK:=fun _=>?_)|refine F9 (hK:=fun _=>?_)|refine F8 (hK:=fun _=>?_)|refine F6 (hK:=fun _=>?_)|refine G0 (hK:=fun _=>?_));try simp(disch:=first|omega|assumption|((repeat(first|exact A1|exact uH|apply A2|apply uT));first|done|fail)|(simp;first|done|omega|fail))[hlt, hc]))
  refine A22 (by (repeat constructor)) (P4.own (by (repeat constructor))) (by decide) (by simp) (by simp) (by simp only [maxLen]; omega) (by omega) fun a' c' => ?_
  (have zz:=trivial;repeat((first|clear zz|with_reducible first|refine A3 ?_|refine A5 fun _=>?_|refine A4 fun _=>?_|refine G1 fun _=>?_|refine F7 (hK:=fun _=>?_)|refine F9 (hK:=fun _=>?_)|refine F8 (hK:=fun _=>?_)|refine F6 (hK:=fun _=>?_)|refine G0 (hK:=fun _=>?_));try simp(disch:=first|omega|assumption|((repeat(first|exact A1|exact uH|apply A2|apply uT));first|done|fail)|(simp;first|done|omega|fail))[hlt, hle]))
  have := hL hlt (.slice a' (i + 1) c', r.extract ns[i] r.size, d ++ [r.extract 0 ns[i]]) ⟨by rw [h1]; simp, by rw [ByteArray.size_extract]; omega, by rw [ByteArray.size_extract]; omega⟩
  simp only [List.map_append, List.map_cons, List.map_nil] at this
  exact Sels.tw (by (repeat' constructor)) this
 ·obtain rfl : i = ns.length := by omega
  (have zz:=trivial;repeat((first|clear zz|with_reducible first|refine A3 ?_|refine A5 fun _=>?_|refine A4 fun _=>?_|refine G1 fun _=>?_|refine F7 (hK:=fun _=>?_)|refine F9 (hK:=fun _=>?_)|refine F8 (hK:=fun _=>?_)|refine F6 (hK:=fun _=>?_)|refine G0 (hK:=fun _=>?_));try simp(disch:=first|omega|assumption|((repeat(first|exact A1|exact uH|apply A2|apply uT));first|done|fail)|(simp;first|done|omega|fail))[]))
  refine A22 (by (repeat constructor)) (P4.own (by (repeat constructor))) (by decide) (by simp) (by simp) (by simp only [maxLen]; omega) (by omega) fun a' c' => ?_
  simp only [List.drop_length, A8E] at h1
  rw [h1]
  exact v8 _ rfl (by simp)
def B4G (s : ByteArray) : Nat := if s.size < 40 then 2 else if gv s 0 1 / 16 ≠ 6 then 3 else if s.size - 40 < gv s 4 2 then 4 else 0
def w8 (s : ByteArray) : HeadV := if B4G s = 0 then ⟨s.extract 8 24, s.extract 24 40, gv s 6 1, s.extract 40 (40 + gv s 4 2), 0⟩ else .err (B4G s)
theorem A7B (s : ByteArray) (a b i : Nat) (hb : b ≤ s.size) (hi : i < b - a) : F4 (s.extract a b) i = F4 s (a + i) := by
 unfold F4
 rw [Array.getD_eq_getD_getElem?, Array.getD_eq_getD_getElem?, ByteArray.data_extract, Array.getElem?_extract]
 rw [if_pos (by simp only [ByteArray.size] at hb; omega)]
theorem B9A (s : ByteArray) (a b i n : Nat) (hb : b ≤ s.size) (hn : i + n ≤ b - a) : u6 (s.extract a b) i n = u6 s (a + i) n := by
 induction n with
 | zero => rfl
 | succ n ih => simp only [u6]; rw [ih (by omega), A7B s a b _ hb (by omega), Nat.add_assoc]
theorem C1L {s : ByteArray} {a n : Nat} (h : a + n ≤ s.size) : gv s a n = u6 s a n := if_pos h
theorem C0B (s : ByteArray) (a b i n : Nat) (hb : b ≤ s.size) (hn : i + n ≤ b - a) (hab : a ≤ b) : gv (s.extract a b) i n = gv s (a + i) n := by
 rw [C1L (by rw [ByteArray.size_extract]; omega), C1L (by omega), B9A s a b i n hb hn]
theorem C2c {s : ByteArray} {a : Nat} (h : a < s.size) : gv s a 1 = F4 s a := by rw [C1L (by omega)]; simp [u6]
theorem B2g (s : ByteArray) (a b c d : Nat) (hb : b ≤ s.size) (hd : a + d ≤ b) : (s.extract a b).extract c d = s.extract (a + c) (a + d) := by
 apply ByteArray.ext
 rw [ByteArray.data_extract, ByteArray.data_extract, ByteArray.data_extract, Array.extract_extract]
 congr 1; omega
def C3s (s : ByteArray) : Nat → List Nat → List ByteArray
 | a, [] => [s.extract a s.size]
 | a, n :: ns => s.extract a (a + n) :: C3s s (a + n) ns
theorem C71 (s : ByteArray) (ns : List Nat) : ∀ a, a + ns.sum ≤ s.size → A8E ns (s.extract a s.size) = C3s s a ns := by
 induction ns with
 | nil => intro a _; rfl
 | cons n ns ih =>
  intro a h
  simp only [List.sum_cons] at h
  simp only [A8E, C3s]
  rw [B2g _ _ _ _ _ (by omega) (by omega), B2g _ _ _ _ _ (by omega) (by rw [ByteArray.size_extract]; omega), ByteArray.size_extract, Nat.add_zero]
  rw [show a + (min s.size s.size - a) = s.size from by omega, ih _ (by omega)]
theorem B88 (s : ByteArray) : s.extract 0 s.size = s := by
 apply ByteArray.ext; rw [ByteArray.data_extract]; exact Array.extract_size ..
theorem C0F {s : ByteArray} (h : 40 ≤ s.size) : A8E [4, 2, 1, 1, 16, 16] s = [s.extract 0 4, s.extract 4 6, s.extract 6 7, s.extract 7 8, s.extract 8 24, s.extract 24 40, s.extract 40 s.size] := by
 have := C71 s [4, 2, 1, 1, 16, 16] 0 (by simp; omega)
 rw [B88] at this; rw [this]; rfl
theorem B9P (w : World) (s : ByteArray) (hs : s.size < 2 ^ 63) : Fn PR B6 141 #[.string s] w (fun v w' => v = (w8 s).val ∧ C6 [] w w') := by
 refine Fn.pure (B8P (TW.go (κ := false) (S := []) ?_))
 unfold B0p
 by_cases c1 : s.size < 40
 ·have c1' : (s.size : Int) < 40 := by omega
  (have zz:=trivial;repeat((first|clear zz|with_reducible first|refine A3 ?_|refine A5 fun _=>?_|refine A4 fun _=>?_|refine G1 fun _=>?_|refine F7 (hK:=fun _=>?_)|refine F9 (hK:=fun _=>?_)|refine F8 (hK:=fun _=>?_)|refine F6 (hK:=fun _=>?_)|refine G0 (hK:=fun _=>?_));try simp(disch:=first|omega|assumption|((repeat(first|exact A1|exact uH|apply A2|apply uT));first|done|fail)|(simp;first|done|omega|fail))[c1'])); exact B0 (by simp [w8, B4G, c1, HeadV.val, HeadV.err])
 have c1' : ¬ (s.size : Int) < 40 := by omega
 obtain ⟨by0, hb0, hb1⟩ := A00 (s := s) (i := 0) (by omega)
 have hg0 : gv s 0 1 = F4 s 0 := C2c (by omega)
 have e1 : ((by0.toNat : Nat) : Int).fdiv (2 ^ min 4 IntKind.u8.bits) = (gv s 0 1 / 16 : Nat) := by rw [show (2 : Int) ^ min 4 IntKind.u8.bits = 16 from rfl, Int.fdiv_eq_ediv_of_nonneg _ (by omega), hb1, hg0]; omega
 have hb0' : s[(0 : Int).toNat]? = some by0 := hb0
 by_cases c2 : gv s 0 1 / 16 = 6
 case neg =>
  have c2' : ¬ ((gv s 0 1 / 16 : Nat) : Int) = 6 := by omega
  (have zz:=trivial;repeat((first|clear zz|with_reducible first|refine A3 ?_|refine A5 fun _=>?_|refine A4 fun _=>?_|refine G1 fun _=>?_|refine F7 (hK:=fun _=>?_)|refine F9 (hK:=fun _=>?_)|refine F8 (hK:=fun _=>?_)|refine F6 (hK:=fun _=>?_)|refine G0 (hK:=fun _=>?_));try simp(disch:=first|omega|assumption|((repeat(first|exact A1|exact uH|apply A2|apply uT));first|done|fail)|(simp;first|done|omega|fail))[c1', g6]))
  rw [e1, if_neg c2']
  (have zz:=trivial;repeat((first|clear zz|with_reducible first|refine A3 ?_|refine A5 fun _=>?_|refine A4 fun _=>?_|refine G1 fun _=>?_|refine F7 (hK:=fun _=>?_)|refine F9 (hK:=fun _=>?_)|refine F8 (hK:=fun _=>?_)|refine F6 (hK:=fun _=>?_)|refine G0 (hK:=fun _=>?_));try simp(disch:=first|omega|assumption|((repeat(first|exact A1|exact uH|apply A2|apply uT));first|done|fail)|(simp;first|done|omega|fail))[])); exact B0 (by simp [w8, B4G, c1, c2, HeadV.val, HeadV.err])
 have c2' : ((gv s 0 1 / 16 : Nat) : Int) = 6 := by omega
 (have zz:=trivial;repeat((first|clear zz|with_reducible first|refine A3 ?_|refine A5 fun _=>?_|refine A4 fun _=>?_|refine G1 fun _=>?_|refine F7 (hK:=fun _=>?_)|refine F9 (hK:=fun _=>?_)|refine F8 (hK:=fun _=>?_)|refine F6 (hK:=fun _=>?_)|refine G0 (hK:=fun _=>?_));try simp(disch:=first|omega|assumption|((repeat(first|exact A1|exact uH|apply A2|apply uT));first|done|fail)|(simp;first|done|omega|fail))[c1', g6]))
 rw [e1, if_pos c2']
 (have zz:=trivial;repeat((first|clear zz|with_reducible first|refine A3 ?_|refine A5 fun _=>?_|refine A4 fun _=>?_|refine G1 fun _=>?_|refine F7 (hK:=fun _=>?_)|refine F9 (hK:=fun _=>?_)|refine F8 (hK:=fun _=>?_)|refine F6 (hK:=fun _=>?_)|refine G0 (hK:=fun _=>?_));try simp(disch:=first|omega|assumption|((repeat(first|exact A1|exact uH|apply A2|apply uT));first|done|fail)|(simp;first|done|omega|fail))[]))
 rename_i bh bl
 refine H9 B83 (fun w' hw' => C8q w' _ [4, 2, 1, 1, 16, 16] s (by simp) ?_ (by simp; omega) (by omega)) ?_
 ·have := P4.own (κ := false) (S := []) (w0 := w) (e := 3) (k := 1) (q := 6) (v := .slice (some ⟨bl, 0, none⟩) 6 6) (by (repeat constructor)) w' hw'
  simpa using this
 rintro v _ rfl
 rw [C0F (by omega)]
 simp only [List.length_cons, List.length_nil, List.map_cons, List.map_nil, List.cons_append, List.nil_append]
 refine l2 (by (repeat constructor)) (by omega) fun g c hv => ?_
 subst hv
 (have zz:=trivial;repeat((first|clear zz|with_reducible first|refine A3 ?_|refine A5 fun _=>?_|refine A4 fun _=>?_|refine G1 fun _=>?_|refine F7 (hK:=fun _=>?_)|refine F9 (hK:=fun _=>?_)|refine F8 (hK:=fun _=>?_)|refine F6 (hK:=fun _=>?_)|refine G0 (hK:=fun _=>?_));try simp(disch:=first|omega|assumption|((repeat(first|exact A1|exact uH|apply A2|apply uT));first|done|fail)|(simp;first|done|omega|fail))[]))
 refine C8 U0 (fun w' _ => A3K w' _ (by simp; omega) _ _) ?_
 have hgv := A6y (s.extract 4 6) 0 2 (by omega) (by omega)
 rw [C0B s 4 6 0 2 (by omega) (by omega) (by omega)] at hgv
 simp only [Int.natCast_zero, Int.cast_ofNat_Int] at hgv
 have hlt := A3e s 4
 rw [hgv]
 (have zz:=trivial;repeat((first|clear zz|with_reducible first|refine A3 ?_|refine A5 fun _=>?_|refine A4 fun _=>?_|refine G1 fun _=>?_|refine F7 (hK:=fun _=>?_)|refine F9 (hK:=fun _=>?_)|refine F8 (hK:=fun _=>?_)|refine F6 (hK:=fun _=>?_)|refine G0 (hK:=fun _=>?_));try simp(disch:=first|omega|assumption|((repeat(first|exact A1|exact uH|apply A2|apply uT));first|done|fail)|(simp;first|done|omega|fail))[]))
 refine B7B (fun c3 => ?_) (fun c3 => ?_)
 ·(have zz:=trivial;repeat((first|clear zz|with_reducible first|refine A3 ?_|refine A5 fun _=>?_|refine A4 fun _=>?_|refine G1 fun _=>?_|refine F7 (hK:=fun _=>?_)|refine F9 (hK:=fun _=>?_)|refine F8 (hK:=fun _=>?_)|refine F6 (hK:=fun _=>?_)|refine G0 (hK:=fun _=>?_));try simp(disch:=first|omega|assumption|((repeat(first|exact A1|exact uH|apply A2|apply uT));first|done|fail)|(simp;first|done|omega|fail))[]))
  exact B0 (by simp [w8, B4G, c1, c2, c3, HeadV.val, HeadV.err])
 ·obtain ⟨by6, hb6, hb6'⟩ := A00 (s := s.extract 6 7) (i := 0) (by simp; omega)
  have hp : F4 (s.extract 6 7) 0 = gv s 6 1 := by rw [A7B s 6 7 0 (by omega) (by omega), C2c (by omega)]
  have hb6'' : (s.extract 6 7)[(0 : Int).toNat]? = some by6 := hb6
  have hle : ((gv s 4 2 : Nat) : Int) ≤ (s.extract 40 s.size).size := by rw [ByteArray.size_extract]; omega
  (have zz:=trivial;repeat((first|clear zz|with_reducible first|refine A3 ?_|refine A5 fun _=>?_|refine A4 fun _=>?_|refine G1 fun _=>?_|refine F7 (hK:=fun _=>?_)|refine F9 (hK:=fun _=>?_)|refine F8 (hK:=fun _=>?_)|refine F6 (hK:=fun _=>?_)|refine G0 (hK:=fun _=>?_));try simp(disch:=first|omega|assumption|((repeat(first|exact A1|exact uH|apply A2|apply uT));first|done|fail)|(simp;first|done|omega|fail))[g6]))
  have h6 := B20 s 6
  have w6 : IntKind.i64.wrap (gv s 6 1 : Nat) = (gv s 6 1 : Nat) := T2 (by omega) (by omega)
  rw [hb6', hp]
  exact B0 (by rw [B2g s 40 s.size 0 _ (by omega) (by omega)]; simp [w8, B4G, c1, c2, c3, HeadV.val, w6])
end Go.Proofs.YtpnidmkaobfhiaaGreat
namespace Go.Proofs.YtpnidmkaobfhiaaGreat
open Go
theorem A74 {κ : Bool} {X : Nat → Prop} {S : List Nat} {w0 : World} {H : List Res} {K : Value → WP} {g u : Value} {name : String} {args : List Value} {f : FuncId} {args' : Array Value} (hr : ∀ w, (callMethod g name args.toArray).run PR w = .ok (.enter f args') w)
  (hf : ∀ w, LW κ S w0 H w → Fn PR B6 f args' w (fun v w' => v = u ∧ C6 [] w w')) (hK : TW κ S w0 H (K u)) : TW κ S w0 H (inv PR X g name args K) := fun w hw =>
 ⟨f, args', hr w, (hf w hw).use fun v w' ⟨h1, h2⟩ hsk => by subst h1; exact hK w' (hw.ext (h2.ks fun _ => hsk))⟩
theorem C1G {P : Program} {t : TypeId} {n m : Nat} {z : Value} {ms : Array (String × TypeId)} {e : Nat} (h : TI P t (.interface ms) n m z) : EqV P (e + 1) t .nilIface .nilIface true := by
 intro w
 simp only [Op.equalIn, Sem.run_bind, h.run_und, Result.andThen_ok]; rfl
theorem C0J {P : Program} {t : TypeId} {n m : Nat} {z : Value} {ms : Array (String × TypeId)} {e : Nat} (h : TI P t (.interface ms) n m z) (u : TypeId) (v : Value) : EqV P (e + 1) t (.iface u v) .nilIface false := by
 intro w
 simp only [Op.equalIn, Sem.run_bind, h.run_und, Result.andThen_ok]; rfl
theorem B9W {t : TypeId} {op : BinOp} {x y : Operand} {g : Value} {r : Bool} {K : Value → WP} (hg : (eqGuard .eql t x y g .nilIface) = pure ()) (he : EqV PR 10000 t g .nilIface r) : A6 PR (H6 .eql t x y g .nilIface) K = K (.bool r) := by
 funext w
 refine Y2 ?_ K
 have := he w
 simp [H6, hg, binOp, Op.equal, Op.maxDepth, this]
theorem A2e {x : Operand} {c : Value} {K : Value → WP} : A6 PR (H6 .eql 273 x (.const c) .nilIface .nilIface) K = K (.bool true) := B9W (op := .eql) (by cases x <;> rfl) (C1G (e := 9999) B6d)
theorem A2v {x y : Operand} {K : Value → WP} {u : TypeId} {v : Value} : A6 PR (H6 .eql 273 x y (.iface u v) .nilIface) K = K (.bool false) := B9W (op := .eql) (by rfl) (C0J (e := 9999) B6d u v)
abbrev B8D : Value := .iface 311 (.agg #[])
abbrev B7d : Value := .iface 312 (.agg #[])
def q8 : List (Int × Value) := [(6, B8D), (17, B7d)]
theorem B5D (w : World) : Fn PR B6 143 #[] w (Rn [] w (fun r v => v = .map (some r)) fun r => [.pt r (r6 (Value.int .i64) q8)]) := by
 refine B4b (TW.go (κ := false) (S := []) ?_)
 unfold A7b
 refine B93 (Value.int .i64) fun r => ?_
 (have zz:=trivial;repeat((first|clear zz|with_reducible first|refine A3 ?_|refine A5 fun _=>?_|refine A4 fun _=>?_);try simp(disch:=first|omega|assumption|((repeat(first|exact A1|exact uH|apply A2|apply uT));first|done|fail)|(simp;first|done|omega|fail))[]))
 refine B2b B6j (KeyT.int G9) (k := 6) (by (repeat constructor)) ?_
 (have zz:=trivial;repeat((first|clear zz|with_reducible first|refine A3 ?_|refine A5 fun _=>?_|refine A4 fun _=>?_);try simp(disch:=first|omega|assumption|((repeat(first|exact A1|exact uH|apply A2|apply uT));first|done|fail)|(simp;first|done|omega|fail))[]))
 refine B2b B6j (KeyT.int G9) (k := 17) (by (repeat constructor)) ?_
 exact v8 r rfl (by simp [n8, q8])
def B0A (s : ByteArray) : Nat × Nat := if s.size < 20 then (0, 2) else if F4 s 12 / 16 * 4 < 20 ∨ s.size < F4 s 12 / 16 * 4 then (0, 8) else (F4 s 13, 0)
def B0d (s : ByteArray) : Nat × Nat := if s.size < 8 then (0, 2) else if gv s 4 2 < 8 ∨ s.size < gv s 4 2 then (0, 4) else (0, 0)
theorem B8y (w : World) (s : ByteArray) (hs : s.size < 2 ^ 40) : Fn PR B6 258 #[.agg #[], .string s] w (fun v w' => v = .tuple #[.int .i64 (B0A s).1, .int .i64 (B0A s).2] ∧ C6 [] w w') := by
 refine Fn.pure (B1Q (TW.go (κ := false) (S := []) ?_))
 unfold A31
 by_cases c1 : s.size < 20
 ·have c1' : (s.size : Int) < 20 := by omega
  (have zz:=trivial;repeat((first|clear zz|with_reducible first|refine A3 ?_|refine A5 fun _=>?_|refine A4 fun _=>?_);try simp(disch:=first|omega|assumption|((repeat(first|exact A1|exact uH|apply A2|apply uT));first|done|fail)|(simp;first|done|omega|fail))[c1'])); exact B0 (by simp [B0A, c1])
 have c1' : ¬ (s.size : Int) < 20 := by omega
 obtain ⟨by0, hb0, hb1⟩ := A00 (s := s) (i := 12) (by omega)
 obtain ⟨by1, hb2, hb3⟩ := A00 (s := s) (i := 13) (by omega)
 have hb0' : s[(12 : Int).toNat]? = some by0 := hb0
 have hb2' : s[(13 : Int).toNat]? = some by1 := hb2
 have hl0 := A1b s 12
 have hl1 := A1b s 13
 have e1 : ((by0.toNat : Nat) : Int).fdiv (2 ^ min 4 IntKind.u8.bits) = (F4 s 12 / 16 : Nat) := by rw [show (2 : Int) ^ min 4 IntKind.u8.bits = 16 from rfl, Int.fdiv_eq_ediv_of_nonneg _ (by omega), hb1]; omega
 have e2 : IntKind.i64.wrap (by1.toNat : Nat) = (F4 s 13 : Nat) := by rw [T2 (by omega) (by omega), hb3]
 have l1 : ∀ n : Nat, ((n * 4 : Nat) : Int) = (n : Int) * 4 := by omega
 by_cases c2 : F4 s 12 / 16 * 4 < 20
 ·have c2' : ((F4 s 12 : Nat) : Int) / 16 * 4 < 20 := by omega
  (have zz:=trivial;repeat((first|clear zz|with_reducible first|refine A3 ?_|refine A5 fun _=>?_|refine A4 fun _=>?_);try simp(disch:=first|omega|assumption|((repeat(first|exact A1|exact uH|apply A2|apply uT));first|done|fail)|(simp;first|done|omega|fail))[c1', g6]))
  rw [e1]
  (have zz:=trivial;repeat((first|clear zz|with_reducible first|refine A3 ?_|refine A5 fun _=>?_|refine A4 fun _=>?_);try simp(disch:=first|omega|assumption|((repeat(first|exact A1|exact uH|apply A2|apply uT));first|done|fail)|(simp;first|done|omega|fail))[c2']))
  exact B0 (by simp [B0A, c1, c2])
 have c2' : ¬ ((F4 s 12 : Nat) : Int) / 16 * 4 < 20 := by omega
 by_cases c3 : s.size < F4 s 12 / 16 * 4
 ·have c3' : (s.size : Int) < ((F4 s 12 : Nat) : Int) / 16 * 4 := by omega
  (have zz:=trivial;repeat((first|clear zz|with_reducible first|refine A3 ?_|refine A5 fun _=>?_|refine A4 fun _=>?_);try simp(disch:=first|omega|assumption|((repeat(first|exact A1|exact uH|apply A2|apply uT));first|done|fail)|(simp;first|done|omega|fail))[c1', g6]))
  rw [e1]
  (have zz:=trivial;repeat((first|clear zz|with_reducible first|refine A3 ?_|refine A5 fun _=>?_|refine A4 fun _=>?_);try simp(disch:=first|omega|assumption|((repeat(first|exact A1|exact uH|apply A2|apply uT));first|done|fail)|(simp;first|done|omega|fail))[c2', c3']))
  exact B0 (by simp [B0A, c1, c2, c3])
 have c3' : ¬ (s.size : Int) < ((F4 s 12 : Nat) : Int) / 16 * 4 := by omega
 (have zz:=trivial;repeat((first|clear zz|with_reducible first|refine A3 ?_|refine A5 fun _=>?_|refine A4 fun _=>?_);try simp(disch:=first|omega|assumption|((repeat(first|exact A1|exact uH|apply A2|apply uT));first|done|fail)|(simp;first|done|omega|fail))[c1', g6]))
 rw [e1]
 (have zz:=trivial;repeat((first|clear zz|with_reducible first|refine A3 ?_|refine A5 fun _=>?_|refine A4 fun _=>?_);try simp(disch:=first|omega|assumption|((repeat(first|exact A1|exact uH|apply A2|apply uT));first|done|fail)|(simp;first|done|omega|fail))[c2', c3', g6, e2]))
 exact B0 (by simp [B0A, c1, c2, c3, hb3])
def z1 : ByteArray := ByteArray.mk #[0]
def A6C (f : Int) : ByteArray × Nat := if f < 0 ∨ 255 < f then (Z1, 1) else (B2m z1 8 ++ ByteArray.mk #[80] ++ M2 f 1 ++ B2m z1 6, 0)
def A8c (f : Int) : ByteArray × Nat := if f ≠ 0 then (Z1, 1) else (ByteArray.mk #[0, 8, 0, 0], 0)
theorem C9x (w : World) : Fn PR B6 260 #[.string (ByteArray.mk #[0]), .int .i64 8] w (fun v w' => v = .string (B2m z1 8) ∧ C6 [] w w') := B5g w z1 8 (by omega) (by decide)
theorem D08 (w : World) : Fn PR B6 260 #[.string (ByteArray.mk #[0]), .int .i64 6] w (fun v w' => v = .string (B2m z1 6) ∧ C6 [] w w') := B5g w z1 6 (by omega) (by decide)
theorem A3T (c : Nat) : (B2m z1 c).size = c := by
 have : ∀ (l : List UInt8) (n : Nat), (Lib.repeatL l n).length = n * l.length := by
  intro l n
  induction n with
  | zero => simp [Lib.repeatL]
  | succ n ih => simp [Lib.repeatL, ih, Nat.add_mul, Nat.add_comm]
 show (Lib.repeatL z1.data.toList c).toArray.size = c
 rw [List.size_toArray, this]; simp [z1]
theorem C3J (w : World) (f : Int) : Fn PR B6 259 #[.agg #[], .int .i64 f] w (fun v w' => v = .tuple #[.string (A6C f).1, .int .i64 (A6C f).2] ∧ C6 [] w w') := by
 refine Fn.pure (B3V (TW.go (κ := false) (S := []) ?_))
 unfold A5v
 by_cases c1 : f < 0
 ·(have zz:=trivial;repeat((first|clear zz|with_reducible first|refine A3 ?_|refine A5 fun _=>?_|refine A4 fun _=>?_);try simp(disch:=first|omega|assumption|((repeat(first|exact A1|exact uH|apply A2|apply uT));first|done|fail)|(simp;first|done|omega|fail))[c1])); exact B0 (by simp [A6C, c1])
 by_cases c2 : 255 < f
 ·(have zz:=trivial;repeat((first|clear zz|with_reducible first|refine A3 ?_|refine A5 fun _=>?_|refine A4 fun _=>?_);try simp(disch:=first|omega|assumption|((repeat(first|exact A1|exact uH|apply A2|apply uT));first|done|fail)|(simp;first|done|omega|fail))[c1, c2])); exact B0 (by simp [A6C, c2])
 (have zz:=trivial;repeat((first|clear zz|with_reducible first|refine A3 ?_|refine A5 fun _=>?_|refine A4 fun _=>?_);try simp(disch:=first|omega|assumption|((repeat(first|exact A1|exact uH|apply A2|apply uT));first|done|fail)|(simp;first|done|omega|fail))[c1, c2]))
 have h8 := A3T 8
 have h6 := A3T 6
 refine C8 A3U (fun w' hw' => C9x w') ?_
 (have zz:=trivial;repeat((first|clear zz|with_reducible first|refine A3 ?_|refine A5 fun _=>?_|refine A4 fun _=>?_);try simp(disch:=first|omega|assumption|((repeat(first|exact A1|exact uH|apply A2|apply uT));first|done|fail)|(simp;first|done|omega|fail))[c1, c2, r3]))
 refine C8 N5 (fun w' hw' => v6 w' _ _) ?_
 (have zz:=trivial;repeat((first|clear zz|with_reducible first|refine A3 ?_|refine A5 fun _=>?_|refine A4 fun _=>?_);try simp(disch:=first|omega|assumption|((repeat(first|exact A1|exact uH|apply A2|apply uT));first|done|fail)|(simp;first|done|omega|fail))[c1, c2, r3]))
 refine C8 A3U (fun w' hw' => D08 w') ?_
 (have zz:=trivial;repeat((first|clear zz|with_reducible first|refine A3 ?_|refine A5 fun _=>?_|refine A4 fun _=>?_);try simp(disch:=first|omega|assumption|((repeat(first|exact A1|exact uH|apply A2|apply uT));first|done|fail)|(simp;first|done|omega|fail))[c1, c2, r3]))
 exact B0 (by simp [A6C, c1, c2])
theorem B9F (w : World) (s : ByteArray) (hs : s.size < 2 ^ 40) : Fn PR B6 274 #[.agg #[], .string s] w (fun v w' => v = .tuple #[.int .i64 (B0d s).1, .int .i64 (B0d s).2] ∧ C6 [] w w') := by
 refine Fn.pure (B1N (TW.go (κ := false) (S := []) ?_))
 unfold A3r
 by_cases c1 : s.size < 8
 ·have c1' : (s.size : Int) < 8 := by omega
  (have zz:=trivial;repeat((first|clear zz|with_reducible first|refine A3 ?_|refine A5 fun _=>?_|refine A4 fun _=>?_);try simp(disch:=first|omega|assumption|((repeat(first|exact A1|exact uH|apply A2|apply uT));first|done|fail)|(simp;first|done|omega|fail))[c1'])); exact B0 (by simp [B0d, c1])
 have c1' : ¬ (s.size : Int) < 8 := by omega
 (have zz:=trivial;repeat((first|clear zz|with_reducible first|refine A3 ?_|refine A5 fun _=>?_|refine A4 fun _=>?_);try simp(disch:=first|omega|assumption|((repeat(first|exact A1|exact uH|apply A2|apply uT));first|done|fail)|(simp;first|done|omega|fail))[c1']))
 refine C8 U0 (fun w' _ => A3K w' s (by omega) _ _) ?_
 have e1 := A6y s 4 2 (by omega) (by omega)
 have e1' : A6J s 4 2 = gv s 4 2 := e1
 have hg := A3e s 4
 by_cases c2 : gv s 4 2 < 8
 ·have c2' : ((gv s 4 2 : Nat) : Int) < 8 := by omega
  (have zz:=trivial;repeat((first|clear zz|with_reducible first|refine A3 ?_|refine A5 fun _=>?_|refine A4 fun _=>?_);try simp(disch:=first|omega|assumption|((repeat(first|exact A1|exact uH|apply A2|apply uT));first|done|fail)|(simp;first|done|omega|fail))[e1', c2, c2']))
  exact B0 (by simp [B0d, c1, c2])
 have c2' : ¬ ((gv s 4 2 : Nat) : Int) < 8 := by omega
 by_cases c3 : s.size < gv s 4 2
 ·have c3' : ((s.size : Nat) : Int) < gv s 4 2 := by omega
  (have zz:=trivial;repeat((first|clear zz|with_reducible first|refine A3 ?_|refine A5 fun _=>?_|refine A4 fun _=>?_);try simp(disch:=first|omega|assumption|((repeat(first|exact A1|exact uH|apply A2|apply uT));first|done|fail)|(simp;first|done|omega|fail))[e1', c2, c2', c3, c3']))
  exact B0 (by simp [B0d, c1, c2, c3])
 have c3' : ¬ ((s.size : Nat) : Int) < gv s 4 2 := by omega
 (have zz:=trivial;repeat((first|clear zz|with_reducible first|refine A3 ?_|refine A5 fun _=>?_|refine A4 fun _=>?_);try simp(disch:=first|omega|assumption|((repeat(first|exact A1|exact uH|apply A2|apply uT));first|done|fail)|(simp;first|done|omega|fail))[e1', c2, c2', c3, c3']))
 exact B0 (by simp [B0d, c1, c2, c3])
theorem C3U (w : World) (f : Int) : Fn PR B6 275 #[.agg #[], .int .i64 f] w (fun v w' => v = .tuple #[.string (A8c f).1, .int .i64 (A8c f).2] ∧ C6 [] w w') := by
 refine Fn.pure (B21 (TW.go (κ := false) (S := []) ?_))
 unfold A54
 by_cases c1 : f = 0
 ·(have zz:=trivial;repeat((first|clear zz|with_reducible first|refine A3 ?_|refine A5 fun _=>?_|refine A4 fun _=>?_);try simp(disch:=first|omega|assumption|((repeat(first|exact A1|exact uH|apply A2|apply uT));first|done|fail)|(simp;first|done|omega|fail))[c1])); exact B0 (by simp [A8c, c1])
 ·(have zz:=trivial;repeat((first|clear zz|with_reducible first|refine A3 ?_|refine A5 fun _=>?_|refine A4 fun _=>?_);try simp(disch:=first|omega|assumption|((repeat(first|exact A1|exact uH|apply A2|apply uT));first|done|fail)|(simp;first|done|omega|fail))[c1])); exact B0 (by simp [A8c, c1])
def A3A (number : Int) (s : ByteArray) : Nat × Nat := if number = 6 then B0A s else if number = 17 then B0d s else (0, 7)
def g8 (number : Int) (s : ByteArray) : Nat × Nat × Nat × Nat := if (A3A number s).2 ≠ 0 then (0, 0, 0, (A3A number s).2) else (gv s 0 2, gv s 2 2, (A3A number s).1, 0)
def g8.val (x : Nat × Nat × Nat × Nat) : Value := .tuple #[.agg #[.int .i64 x.1, .int .i64 x.2.1, .int .i64 x.2.2.1], .int .i64 x.2.2.2]
theorem B3b (w : World) (s : ByteArray) : (callMethod B8D "gangplank/port.parse" [Value.string s].toArray).run PR w = .ok (.enter 258 #[.agg #[], .string s]) w := by kernel_rfl
theorem B3g (w : World) (s : ByteArray) : (callMethod B7d "gangplank/port.parse" [Value.string s].toArray).run PR w = .ok (.enter 274 #[.agg #[], .string s]) w := by kernel_rfl
theorem B55 (w : World) (f : Int) : (callMethod B8D "gangplank/port.put" [Value.int .i64 f].toArray).run PR w = .ok (.enter 259 #[.agg #[], .int .i64 f]) w := by kernel_rfl
theorem B6P (w : World) (f : Int) : (callMethod B7d "gangplank/port.put" [Value.int .i64 f].toArray).run PR w = .ok (.enter 275 #[.agg #[], .int .i64 f]) w := by kernel_rfl
theorem B8Z (w : World) (s : ByteArray) (hs : s.size < 2 ^ 40) (number : Int) : Fn PR B6 111 #[.int .i64 number, .string s] w (fun v w' => v = g8.val (g8 number s) ∧ C6 [] w w') := by
 refine Fn.pure (B52 (TW.go (κ := false) (S := []) ?_))
 unfold A9G
 (have zz:=trivial;repeat((first|clear zz|with_reducible first|refine A3 ?_|refine A5 fun _=>?_|refine A4 fun _=>?_);try simp(disch:=first|omega|assumption|((repeat(first|exact A1|exact uH|apply A2|apply uT));first|done|fail)|(simp;first|done|omega|fail))[]))
 refine H9 A5Z (fun w' _ => B5D w') ?_
 rintro r v rfl
 (have zz:=trivial;repeat((first|clear zz|with_reducible first|refine A3 ?_|refine A5 fun _=>?_|refine A4 fun _=>?_);try simp(disch:=first|omega|assumption|((repeat(first|exact A1|exact uH|apply A2|apply uT));first|done|fail)|(simp;first|done|omega|fail))[]))
 rw [B2U B6j B6d (KeyT.int G9) (l := q8) (by (repeat constructor))]
 have fin : ∀ {f1 : Nat} {b : Nat}, True := fun {_ _} => trivial
 have hg0 := A3e s 0
 have hg2 := A3e s 2
 have e1 : A6J s 0 2 = gv s 0 2 := A6y s 0 2 (by omega) (by omega)
 have e2 : A6J s 2 2 = gv s 2 2 := A6y s 2 2 (by omega) (by omega)
 by_cases c1 : number = 6
 ·rw [show (p7 number q8).getD .nilIface = B8D by subst c1; rfl]
  (have zz:=trivial;repeat((first|clear zz|with_reducible first|refine A3 ?_|refine A5 fun _=>?_|refine A4 fun _=>?_);try simp(disch:=first|omega|assumption|((repeat(first|exact A1|exact uH|apply A2|apply uT));first|done|fail)|(simp;first|done|omega|fail))[A2e, A2v]))
  refine A74 (fun w => B3b w s) (fun w' hw' => B8y w' s hs) ?_
  by_cases c2 : (B0A s).2 = 0
  ·(have zz:=trivial;repeat((first|clear zz|with_reducible first|refine A3 ?_|refine A5 fun _=>?_|refine A4 fun _=>?_);try simp(disch:=first|omega|assumption|((repeat(first|exact A1|exact uH|apply A2|apply uT));first|done|fail)|(simp;first|done|omega|fail))[c2]))
   refine C8 U0 (fun w' _ => A3K w' s (by omega) _ _) ?_
   (have zz:=trivial;repeat((first|clear zz|with_reducible first|refine A3 ?_|refine A5 fun _=>?_|refine A4 fun _=>?_);try simp(disch:=first|omega|assumption|((repeat(first|exact A1|exact uH|apply A2|apply uT));first|done|fail)|(simp;first|done|omega|fail))[e1]))
   refine C8 U0 (fun w' _ => A3K w' s (by omega) _ _) ?_
   (have zz:=trivial;repeat((first|clear zz|with_reducible first|refine A3 ?_|refine A5 fun _=>?_|refine A4 fun _=>?_);try simp(disch:=first|omega|assumption|((repeat(first|exact A1|exact uH|apply A2|apply uT));first|done|fail)|(simp;first|done|omega|fail))[e1, e2]))
   exact B0 (by simp [g8, A3A, g8.val, c1, c2])
  ·(have zz:=trivial;repeat((first|clear zz|with_reducible first|refine A3 ?_|refine A5 fun _=>?_|refine A4 fun _=>?_);try simp(disch:=first|omega|assumption|((repeat(first|exact A1|exact uH|apply A2|apply uT));first|done|fail)|(simp;first|done|omega|fail))[c2]))
   exact B0 (by simp [g8, A3A, g8.val, c1, c2])
 by_cases c1' : number = 17
 ·rw [show (p7 number q8).getD .nilIface = B7d by subst c1'; rfl]
  (have zz:=trivial;repeat((first|clear zz|with_reducible first|refine A3 ?_|refine A5 fun _=>?_|refine A4 fun _=>?_);try simp(disch:=first|omega|assumption|((repeat(first|exact A1|exact uH|apply A2|apply uT));first|done|fail)|(simp;first|done|omega|fail))[A2e, A2v]))
  refine A74 (fun w => B3g w s) (fun w' hw' => B9F w' s hs) ?_
  by_cases c2 : (B0d s).2 = 0
  ·(have zz:=trivial;repeat((first|clear zz|with_reducible first|refine A3 ?_|refine A5 fun _=>?_|refine A4 fun _=>?_);try simp(disch:=first|omega|assumption|((repeat(first|exact A1|exact uH|apply A2|apply uT));first|done|fail)|(simp;first|done|omega|fail))[c2]))
   refine C8 U0 (fun w' _ => A3K w' s (by omega) _ _) ?_
   (have zz:=trivial;repeat((first|clear zz|with_reducible first|refine A3 ?_|refine A5 fun _=>?_|refine A4 fun _=>?_);try simp(disch:=first|omega|assumption|((repeat(first|exact A1|exact uH|apply A2|apply uT));first|done|fail)|(simp;first|done|omega|fail))[e1]))
   refine C8 U0 (fun w' _ => A3K w' s (by omega) _ _) ?_
   (have zz:=trivial;repeat((first|clear zz|with_reducible first|refine A3 ?_|refine A5 fun _=>?_|refine A4 fun _=>?_);try simp(disch:=first|omega|assumption|((repeat(first|exact A1|exact uH|apply A2|apply uT));first|done|fail)|(simp;first|done|omega|fail))[e1, e2]))
   exact B0 (by simp [g8, A3A, g8.val, c1', c2])
  ·(have zz:=trivial;repeat((first|clear zz|with_reducible first|refine A3 ?_|refine A5 fun _=>?_|refine A4 fun _=>?_);try simp(disch:=first|omega|assumption|((repeat(first|exact A1|exact uH|apply A2|apply uT));first|done|fail)|(simp;first|done|omega|fail))[c2]))
   exact B0 (by simp [g8, A3A, g8.val, c1', c2])
 ·rw [show (p7 number q8).getD .nilIface = .nilIface by simp [p7, q8, c1, c1']]
  (have zz:=trivial;repeat((first|clear zz|with_reducible first|refine A3 ?_|refine A5 fun _=>?_|refine A4 fun _=>?_);try simp(disch:=first|omega|assumption|((repeat(first|exact A1|exact uH|apply A2|apply uT));first|done|fail)|(simp;first|done|omega|fail))[A2e, A2v]))
  exact B0 (by simp [g8, A3A, g8.val, c1, c1'])
theorem A0C (s : ByteArray) : s ++ Z1 = s := by apply ByteArray.ext; rw [ByteArray.data_append]; simp
theorem A0D (s : ByteArray) : Z1 ++ s = s := by apply ByteArray.ext; rw [ByteArray.data_append]; simp
def W3 (x : Int) : ByteArray := if 0 ≤ x ∧ x ≤ 65535 then M2 x 2 else Z1
def W4 (x y : Int) : Bool := decide (0 ≤ x ∧ x ≤ 65535 ∧ 0 ≤ y ∧ y ≤ 65535)
theorem B8F (w : World) (x y z : Int) : Fn PR B6 145 #[.agg #[.int .i64 x, .int .i64 y, .int .i64 z]] w (fun v w' => v = .tuple #[.string (W3 x ++ W3 y), .bool (W4 x y)] ∧ C6 [] w w') := by
 refine Fn.pure (B5s (TW.go (κ := false) (S := []) ?_))
 unfold A87
 by_cases c1 : 0 ≤ x ∧ x ≤ 65535
 ·have c1' := c1.1; have c1'' := c1.2
  (have zz:=trivial;repeat((first|clear zz|with_reducible first|refine A3 ?_|refine A5 fun _=>?_|refine A4 fun _=>?_);try simp(disch:=first|omega|assumption|((repeat(first|exact A1|exact uH|apply A2|apply uT));first|done|fail)|(simp;first|done|omega|fail))[c1', c1'']))
  refine C8 N5 (fun w' hw' => v6 w' _ _) ?_
  by_cases c2 : 0 ≤ y ∧ y ≤ 65535
  ·have c2' := c2.1; have c2'' := c2.2
   (have zz:=trivial;repeat((first|clear zz|with_reducible first|refine A3 ?_|refine A5 fun _=>?_|refine A4 fun _=>?_);try simp(disch:=first|omega|assumption|((repeat(first|exact A1|exact uH|apply A2|apply uT));first|done|fail)|(simp;first|done|omega|fail))[c1', c1'', c2', c2'']))
   refine C8 N5 (fun w' hw' => v6 w' _ _) ?_
   (have zz:=trivial;repeat((first|clear zz|with_reducible first|refine A3 ?_|refine A5 fun _=>?_|refine A4 fun _=>?_);try simp(disch:=first|omega|assumption|((repeat(first|exact A1|exact uH|apply A2|apply uT));first|done|fail)|(simp;first|done|omega|fail))[c1', c1'', c2', c2'', r3]))
   exact B0 (by simp [A0C, A0D, W3, W4, c1, c2])
  ·by_cases c3 : 0 ≤ y
   ·have c4 : ¬ y ≤ 65535 := fun h => c2 ⟨c3, h⟩
    (have zz:=trivial;repeat((first|clear zz|with_reducible first|refine A3 ?_|refine A5 fun _=>?_|refine A4 fun _=>?_);try simp(disch:=first|omega|assumption|((repeat(first|exact A1|exact uH|apply A2|apply uT));first|done|fail)|(simp;first|done|omega|fail))[c1', c1'', c3, c4]))
    exact B0 (by simp [A0C, A0D, W3, W4, c1, c3, c4])
   ·(have zz:=trivial;repeat((first|clear zz|with_reducible first|refine A3 ?_|refine A5 fun _=>?_|refine A4 fun _=>?_);try simp(disch:=first|omega|assumption|((repeat(first|exact A1|exact uH|apply A2|apply uT));first|done|fail)|(simp;first|done|omega|fail))[c1', c1'', c3]))
    exact B0 (by simp [A0C, A0D, W3, W4, c1, c3])
 ·have hn : W3 x = Z1 := by simp [W3, c1]
  have ho : W4 x y = false := by simp only [W4, decide_eq_false_iff_not]; exact fun h => c1 ⟨h.1, h.2.1⟩
  rw [hn, ho]
  have key : ∀ bx, TW false [] w [.pt bx (.cells #[.int .i64 x, .int .i64 y, .int .i64 z] 228)] = TW false [] w [.pt bx (.cells #[.int .i64 x, .int .i64 y, .int .i64 z] 228)] := fun _ => rfl
  by_cases c0 : 0 ≤ x
  ·have c0' : ¬ x ≤ 65535 := fun h => c1 ⟨c0, h⟩
   by_cases c2 : 0 ≤ y ∧ y ≤ 65535
   ·have c2' := c2.1; have c2'' := c2.2
    (have zz:=trivial;repeat((first|clear zz|with_reducible first|refine A3 ?_|refine A5 fun _=>?_|refine A4 fun _=>?_);try simp(disch:=first|omega|assumption|((repeat(first|exact A1|exact uH|apply A2|apply uT));first|done|fail)|(simp;first|done|omega|fail))[c0, c0', c2', c2'']))
    refine C8 N5 (fun w' hw' => v6 w' _ _) ?_
    (have zz:=trivial;repeat((first|clear zz|with_reducible first|refine A3 ?_|refine A5 fun _=>?_|refine A4 fun _=>?_);try simp(disch:=first|omega|assumption|((repeat(first|exact A1|exact uH|apply A2|apply uT));first|done|fail)|(simp;first|done|omega|fail))[c0, c0', c2', c2'', r3]))
    exact B0 (by simp [A0C, A0D, W3, c2])
   ·by_cases c3 : 0 ≤ y
    ·have c4 : ¬ y ≤ 65535 := fun h => c2 ⟨c3, h⟩
     (have zz:=trivial;repeat((first|clear zz|with_reducible first|refine A3 ?_|refine A5 fun _=>?_|refine A4 fun _=>?_);try simp(disch:=first|omega|assumption|((repeat(first|exact A1|exact uH|apply A2|apply uT));first|done|fail)|(simp;first|done|omega|fail))[c0, c0', c3, c4]))
     exact B0 (by simp [A0C, A0D, W3, c3, c4])
    ·(have zz:=trivial;repeat((first|clear zz|with_reducible first|refine A3 ?_|refine A5 fun _=>?_|refine A4 fun _=>?_);try simp(disch:=first|omega|assumption|((repeat(first|exact A1|exact uH|apply A2|apply uT));first|done|fail)|(simp;first|done|omega|fail))[c0, c0', c3]))
     exact B0 (by simp [A0C, A0D, W3, c3])
  ·by_cases c2 : 0 ≤ y ∧ y ≤ 65535
   ·have c2' := c2.1; have c2'' := c2.2
    (have zz:=trivial;repeat((first|clear zz|with_reducible first|refine A3 ?_|refine A5 fun _=>?_|refine A4 fun _=>?_);try simp(disch:=first|omega|assumption|((repeat(first|exact A1|exact uH|apply A2|apply uT));first|done|fail)|(simp;first|done|omega|fail))[c0, c2', c2'']))
    refine C8 N5 (fun w' hw' => v6 w' _ _) ?_
    (have zz:=trivial;repeat((first|clear zz|with_reducible first|refine A3 ?_|refine A5 fun _=>?_|refine A4 fun _=>?_);try simp(disch:=first|omega|assumption|((repeat(first|exact A1|exact uH|apply A2|apply uT));first|done|fail)|(simp;first|done|omega|fail))[c0, c2', c2'', r3]))
    exact B0 (by simp [A0C, A0D, W3, c2])
   ·by_cases c3 : 0 ≤ y
    ·have c4 : ¬ y ≤ 65535 := fun h => c2 ⟨c3, h⟩
     (have zz:=trivial;repeat((first|clear zz|with_reducible first|refine A3 ?_|refine A5 fun _=>?_|refine A4 fun _=>?_);try simp(disch:=first|omega|assumption|((repeat(first|exact A1|exact uH|apply A2|apply uT));first|done|fail)|(simp;first|done|omega|fail))[c0, c3, c4]))
     exact B0 (by simp [A0C, A0D, W3, c3, c4])
    ·(have zz:=trivial;repeat((first|clear zz|with_reducible first|refine A3 ?_|refine A5 fun _=>?_|refine A4 fun _=>?_);try simp(disch:=first|omega|assumption|((repeat(first|exact A1|exact uH|apply A2|apply uT));first|done|fail)|(simp;first|done|omega|fail))[c0, c3]))
     exact B0 (by simp [A0C, A0D, W3, c3])
def A64 (number f : Int) : ByteArray × Nat := if number = 6 then A6C f else if number = 17 then A8c f else (Z1, 7)
def z8 (number x y f : Int) : ByteArray × Nat := if number ≠ 6 ∧ number ≠ 17 then (Z1, 7) else if W4 x y = false ∨ (A64 number f).2 ≠ 0 then (Z1, 1) else (M2 x 2 ++ M2 y 2 ++ (A64 number f).1, 0)
theorem B78 {x y : Int} (h : W4 x y = true) : W3 x ++ W3 y = M2 x 2 ++ M2 y 2 := by
 simp only [W4, decide_eq_true_eq] at h
 unfold W3; rw [if_pos (by omega), if_pos (by omega)]
theorem C0N (w : World) (number x y f : Int) : Fn PR B6 113 #[.int .i64 number, .agg #[.int .i64 x, .int .i64 y, .int .i64 f]] w (fun v w' => v = .tuple #[.string (z8 number x y f).1, .int .i64 (z8 number x y f).2] ∧ C6 [] w w') := by
 refine Fn.pure (B87 (TW.go (κ := false) (S := []) ?_))
 unfold B1m
 (have zz:=trivial;repeat((first|clear zz|with_reducible first|refine A3 ?_|refine A5 fun _=>?_|refine A4 fun _=>?_);try simp(disch:=first|omega|assumption|((repeat(first|exact A1|exact uH|apply A2|apply uT));first|done|fail)|(simp;first|done|omega|fail))[]))
 refine H9 A5Z (fun w' _ => B5D w') ?_
 rintro r v rfl
 (have zz:=trivial;repeat((first|clear zz|with_reducible first|refine A3 ?_|refine A5 fun _=>?_|refine A4 fun _=>?_);try simp(disch:=first|omega|assumption|((repeat(first|exact A1|exact uH|apply A2|apply uT));first|done|fail)|(simp;first|done|omega|fail))[]))
 rw [B2U B6j B6d (KeyT.int G9) (l := q8) (by (repeat constructor))]
 by_cases c1 : number = 6
 ·rw [show (p7 number q8).getD .nilIface = B8D by subst c1; rfl]
  (have zz:=trivial;repeat((first|clear zz|with_reducible first|refine A3 ?_|refine A5 fun _=>?_|refine A4 fun _=>?_);try simp(disch:=first|omega|assumption|((repeat(first|exact A1|exact uH|apply A2|apply uT));first|done|fail)|(simp;first|done|omega|fail))[A2e, A2v]))
  refine C8 A7S (fun w' hw' => B8F w' _ _ _) ?_
  (have zz:=trivial;repeat((first|clear zz|with_reducible first|refine A3 ?_|refine A5 fun _=>?_|refine A4 fun _=>?_);try simp(disch:=first|omega|assumption|((repeat(first|exact A1|exact uH|apply A2|apply uT));first|done|fail)|(simp;first|done|omega|fail))[]))
  refine A74 (fun w => B55 w f) (fun w' hw' => C3J w' f) ?_
  cases c3 : W4 x y with
  | false => (have zz:=trivial;repeat((first|clear zz|with_reducible first|refine A3 ?_|refine A5 fun _=>?_|refine A4 fun _=>?_);try simp(disch:=first|omega|assumption|((repeat(first|exact A1|exact uH|apply A2|apply uT));first|done|fail)|(simp;first|done|omega|fail))[c3])); exact B0 (by simp [z8, c1, c3])
  | true =>
   have hp := B78 c3
   by_cases c2 : (A6C f).2 = 0
   ·have hz : (W3 x).size + (W3 y).size + (A6C f).1.size < 2 ^ 30 := by
     have := congrArg ByteArray.size hp
     simp at this
     have h6 := A3T 6
     have h8 := A3T 8
     have : (A6C f).1.size ≤ 100 := by unfold A6C; split <;> simp [h6, h8]
     omega
    (have zz:=trivial;repeat((first|clear zz|with_reducible first|refine A3 ?_|refine A5 fun _=>?_|refine A4 fun _=>?_);try simp(disch:=first|omega|assumption|((repeat(first|exact A1|exact uH|apply A2|apply uT));first|done|fail)|(simp;first|done|omega|fail))[c2, c3, r3]))
    exact B0 (by simp [z8, A64, c1, c2, c3, hp])
   ·(have zz:=trivial;repeat((first|clear zz|with_reducible first|refine A3 ?_|refine A5 fun _=>?_|refine A4 fun _=>?_);try simp(disch:=first|omega|assumption|((repeat(first|exact A1|exact uH|apply A2|apply uT));first|done|fail)|(simp;first|done|omega|fail))[c2, c3]))
    exact B0 (by simp [z8, A64, c1, c2, c3])
 by_cases c1' : number = 17
 ·rw [show (p7 number q8).getD .nilIface = B7d by subst c1'; rfl]
  (have zz:=trivial;repeat((first|clear zz|with_reducible first|refine A3 ?_|refine A5 fun _=>?_|refine A4 fun _=>?_);try simp(disch:=first|omega|assumption|((repeat(first|exact A1|exact uH|apply A2|apply uT));first|done|fail)|(simp;first|done|omega|fail))[A2e, A2v]))
  refine C8 A7S (fun w' hw' => B8F w' _ _ _) ?_
  (have zz:=trivial;repeat((first|clear zz|with_reducible first|refine A3 ?_|refine A5 fun _=>?_|refine A4 fun _=>?_);try simp(disch:=first|omega|assumption|((repeat(first|exact A1|exact uH|apply A2|apply uT));first|done|fail)|(simp;first|done|omega|fail))[]))
  refine A74 (fun w => B6P w f) (fun w' hw' => C3U w' f) ?_
  cases c3 : W4 x y with
  | false => (have zz:=trivial;repeat((first|clear zz|with_reducible first|refine A3 ?_|refine A5 fun _=>?_|refine A4 fun _=>?_);try simp(disch:=first|omega|assumption|((repeat(first|exact A1|exact uH|apply A2|apply uT));first|done|fail)|(simp;first|done|omega|fail))[c3])); exact B0 (by simp [z8, c1', c3])
  | true =>
   have hp := B78 c3
   by_cases c2 : (A8c f).2 = 0
   ·have hz : (W3 x).size + (W3 y).size + (A8c f).1.size < 2 ^ 30 := by
     have := congrArg ByteArray.size hp
     simp at this
     have : (A8c f).1.size ≤ 100 := by unfold A8c; split <;> simp
     omega
    (have zz:=trivial;repeat((first|clear zz|with_reducible first|refine A3 ?_|refine A5 fun _=>?_|refine A4 fun _=>?_);try simp(disch:=first|omega|assumption|((repeat(first|exact A1|exact uH|apply A2|apply uT));first|done|fail)|(simp;first|done|omega|fail))[c2, c3, r3]))
    exact B0 (by simp [z8, A64, c1', c2, c3, hp])
   ·(have zz:=trivial;repeat((first|clear zz|with_reducible first|refine A3 ?_|refine A5 fun _=>?_|refine A4 fun _=>?_);try simp(disch:=first|omega|assumption|((repeat(first|exact A1|exact uH|apply A2|apply uT));first|done|fail)|(simp;first|done|omega|fail))[c2, c3]))
    exact B0 (by simp [z8, A64, c1', c2, c3])
 ·rw [show (p7 number q8).getD .nilIface = .nilIface by simp [p7, q8, c1, c1']]
  (have zz:=trivial;repeat((first|clear zz|with_reducible first|refine A3 ?_|refine A5 fun _=>?_|refine A4 fun _=>?_);try simp(disch:=first|omega|assumption|((repeat(first|exact A1|exact uH|apply A2|apply uT));first|done|fail)|(simp;first|done|omega|fail))[A2e, A2v]))
  exact B0 (by simp [z8, c1, c1'])
end Go.Proofs.YtpnidmkaobfhiaaGreat
