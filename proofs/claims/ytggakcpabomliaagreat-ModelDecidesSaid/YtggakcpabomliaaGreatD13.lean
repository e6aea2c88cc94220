/- The proof of a given statement, a part of it (Map ShIp6 ShIp4 ShSum Sum Ip4 Ip6 Port). No condition but what each lemma says. -/
import Derived.MapKept
import Derived.Test.YtggakcpabomliaaGreatD12
set_option linter.unusedVariables false
set_option linter.unusedSimpArgs false
namespace Go.Proofs.YtggakcpabomliaaGreat
open Go
section
variable {κ : Type} [DecidableEq κ]
def ents (enc : κ → Value) : List (κ × Value) → Nat → List MapEntry
  | [], _ => []
  | p :: l, i => ⟨enc p.1, p.2, i⟩ :: ents enc l (i + 1)
def mapO (enc : κ → Value) (l : List (κ × Value)) : Obj := .map (ents enc l 0).toArray l.length
def fidx (k : κ) : List (κ × Value) → Nat → Option (Nat × Value)
  | [], _ => none
  | p :: l, i => if k = p.1 then some (i, p.2) else fidx k l (i + 1)
def mget (k : κ) : List (κ × Value) → Option Value
  | [] => none
  | p :: l => if k = p.1 then some p.2 else mget k l
def mset (k : κ) (v : Value) : List (κ × Value) → List (κ × Value)
  | [] => [(k, v)]
  | p :: l => if k = p.1 then (k, v) :: l else p :: mset k v l
theorem mget_mset (k k' : κ) (v : Value) (l : List (κ × Value)) : mget k' (mset k v l) = if k' = k then some v else mget k' l := by
  induction l with
  | nil => simp [mset, mget]
  | cons p l ih =>
    simp only [mset]
    by_cases h : k = p.1
    · rw [if_pos h]; simp only [mget]
      by_cases h' : k' = k
      · rw [if_pos h', if_pos h']
      · rw [if_neg h', if_neg h', if_neg (by rw [← h]; exact h')]
    · rw [if_neg h]; simp only [mget, ih]
      by_cases h' : k' = p.1
      · rw [if_pos h', if_pos h', if_neg (by rw [h']; exact fun e => h e.symm)]
      · rw [if_neg h', if_neg h']
theorem fidx_mget (k : κ) (l : List (κ × Value)) (i : Nat) : (fidx k l i).map (·.2) = mget k l := by
  induction l generalizing i with
  | nil => rfl
  | cons p l ih => simp only [fidx, mget]; split <;> simp [ih]
@[simp] theorem ents_len {α : Type} (enc : α → Value) (l : List (α × Value)) (i : Nat) : (ents enc l i).length = l.length := by
  induction l generalizing i with
  | nil => rfl
  | cons p l ih => simp [ents, ih]
theorem ents_append {α : Type} (enc : α → Value) (l m : List (α × Value)) (i : Nat) : ents enc (l ++ m) i = ents enc l i ++ ents enc m (i + l.length) := by
  induction l generalizing i with
  | nil => simp [ents]
  | cons p l ih => simp only [List.cons_append, ents, ih, List.length_cons]; congr 3; omega
theorem mset_none (k : κ) (v : Value) (l : List (κ × Value)) (j : Nat) (h : fidx k l j = none) : mset k v l = l ++ [(k, v)] := by
  induction l generalizing j with
  | nil => rfl
  | cons p l ih =>
    simp only [fidx] at h
    split at h
    · cases h
    · rename_i hn; simp only [mset, if_neg hn, List.cons_append, ih _ h]
theorem ents_set (enc : κ → Value) (k : κ) (v : Value) (l : List (κ × Value)) : ∀ (j n : Nat) (u : Value), fidx k l j = some (n, u) → j ≤ n ∧ n < j + l.length ∧ ((ents enc l j)[n - j]?).map (·.key) = some (enc k) ∧
    ents enc (mset k v l) j = (ents enc l j).modify (n - j) (fun e => { e with key := enc k, val := v }) := by
  induction l with
  | nil => intro j n u h; cases h
  | cons p l ih =>
    intro j n u h
    simp only [fidx] at h
    split at h
    · rename_i hk; cases h
      refine ⟨Nat.le_refl _, by simp, by simp [ents, hk], ?_⟩
      simp only [mset, if_pos hk, ents, Nat.sub_self, List.modify_zero_cons]
    · rename_i hn
      obtain ⟨h1, h2, h3, h4⟩ := ih _ _ _ h
      have e : n - j = n - (j + 1) + 1 := by omega
      refine ⟨by omega, by simp only [List.length_cons]; omega, by rw [e]; simpa [ents] using h3, ?_⟩
      simp only [mset, if_neg hn, ents, e, List.modify_succ_cons, h4]
/-- keys of a type, as the machine holds them against each other -/
structure KeyT (P : Program) (kt : TypeId) (enc : κ → Value) : Prop where
  find : ∀ k l j w, (Instr.findKey kt (enc k) (ents enc l j)).run P w = .ok (fidx k l 0) w
  check : ∀ k e w, (Instr.checkKey e 10000 kt (enc k)).run P w = .ok () w
  stays : ∀ k, Instr.sameBits 10000 (enc k) (enc k) = true
theorem findNow_ents {d : TypeDesc} {enc : κ → Value} (hs : ∀ a b, Instr.sameNow d (enc a) (enc b) = some (decide (a = b))) (k : κ) (l : List (κ × Value)) : ∀ j i, Instr.findNow d (enc k) (ents enc l j) i = some (fidx k l i) := by
  induction l with
  | nil => intro j i; rfl
  | cons p l ih =>
    intro j i
    simp only [ents, Instr.findNow, hs, fidx]
    by_cases h : k = p.1
    · simp [h]
    · simp [h, ih]
end
theorem KeyT.int {P : Program} {kt : TypeId} {n m : Nat} {z : Value} (h : TI P kt (.int .i64) n m z) : KeyT P kt (fun a : Int => Value.int .i64 a) := by
  refine ⟨fun k l j w => ?_, fun k e w => ?_, fun k => ?_⟩
  · exact MapKept.run_findKey h.und (findNow_ents (fun a b => by simp [Instr.sameNow]; exact beq_dec a b) k l j 0)
  · exact MapKept.run_checkKey h.und (by trivial) e 9999
  · simp [Instr.sameBits]
theorem KeyT.string {P : Program} {kt : TypeId} {n m : Nat} {z : Value} (h : TI P kt .string n m z) : KeyT P kt Value.string := by
  refine ⟨fun k l j w => ?_, fun k e w => ?_, fun k => ?_⟩
  · exact MapKept.run_findKey h.und (findNow_ents (fun a b => by simp only [Instr.sameNow, ba_beq]) k l j 0)
  · exact MapKept.run_checkKey h.und (by trivial) e 9999
  · simp only [Instr.sameBits, ba_beq, decide_true]
section
variable {κ : Type} [DecidableEq κ] {enc : κ → Value} {σ : Bool} {P : Program} {X : Nat → Prop} {S : List Nat} {w0 : World} {H H' : List Res} {K : Value → WP} {K0 : WP} {t kt et : TypeId} {n m n2 m2 : Nat} {z z2 : Value} {d : TypeDesc}
theorem T_mkmap {α : Type} (enc : α → Value) (hK : ∀ r, TW σ S w0 (.pt r (mapO enc []) :: H) (K (.map (some r)))) : TW σ S w0 H (lou P X (Instr.makeMap t none) K) := fun w hw => by
  have : (Instr.makeMap t none).run P w = .ok (.map (some (sz w))) (w.alloc (mapO enc [])) := by simp [Instr.makeMap, run_newObj, mapO, ents, sz]
  rw [lou_of this (Sk.alloc X w _ (Or.inl rfl))]
  exact hK _ _ (hw.new rfl (Or.inl rfl))
theorem T_lookup (hm : TI P t (.map kt et) n m z) (he : TI P et d n2 m2 z2) (hk : KeyT P kt enc) {r : Nat} {l : List (κ × Value)} {k : κ} (hr : Res.pt r (mapO enc l) ∈ H) :
    TW σ S w0 H (rds P (Instr.lookup t (.map (some r)) (enc k) false) K) = TW σ S w0 H (K ((mget k l).getD z2)) := TW.congr fun w hw => by
  have hb : w.heap[r]? = some (.map (ents enc l 0).toArray l.length) := hw.pt hr
  refine rds_of ?_ K
  have h1 : (getObj r).run P w = .ok (.map (ents enc l 0).toArray l.length) w := MapKept.run_getObj_map hb
  simp only [Instr.lookup, Sem.run_bind, hm.run_und, Result.andThen_ok, h1, Sem.run_pure, hk.check, hk.find]
  rw [← fidx_mget k l 0]
  cases fidx k l 0 with
  | none => simp [he.run_zero]
  | some p => simp
theorem T_mapset (hm : TI P t (.map kt et) n m z) (hk : KeyT P kt enc) {r : Nat} {l : List (κ × Value)} {k : κ} {v : Value} (hu : Up (.pt r (mapO enc l)) (.pt r (mapO enc (mset k v l))) H H') (hK : TW σ S w0 H' K0) :
    TW σ S w0 H (sto P X (Instr.mapUpdate t (.map (some r)) (enc k) v) K0) := fun w hw => by
  have hmem : Res.pt r (mapO enc l) ∈ H := by obtain ⟨A, B, rfl, _⟩ := hu.parts; simp
  have hb0 := hw.pt hmem
  have hb : w.heap[r]? = some (.map (ents enc l 0).toArray l.length) := hb0
  have h1 : (getObj r).run P w = .ok (.map (ents enc l 0).toArray l.length) w := MapKept.run_getObj_map hb
  have hrun : (Instr.mapUpdate t (.map (some r)) (enc k) v).run P w = .ok () (World.putb w r (mapO enc (mset k v l))) := by
    simp only [Instr.mapUpdate, Sem.run_bind, hm.run_und, Result.andThen_ok, h1, hk.check, hk.find]
    cases hf : fidx k l 0 with
    | none =>
      have e := mset_none k v l 0 hf
      simp [mapO, e, ents_append, ents, World.putb, MapKept.run_setObj_map _ hb]
    | some p =>
      obtain ⟨i, u⟩ := p
      obtain ⟨_, h2, h3, h4⟩ := ents_set enc k v l 0 i u hf
      have hl : (mset k v l).length = l.length := by
        have := congrArg List.length h4; simpa using this
      simp only [Nat.sub_zero] at h3 h4
      simp [mapO, h4, hl, World.putb, MapKept.run_setObj_map _ hb, Instr.keyThatStays, h3, hk.stays]
  have hks : KS σ [r] w (World.putb w r (mapO enc (mset k v l))) := by
    refine ((But.refl [r] w).putb _ (Or.inl (by simp))).ks fun _ => ?_
    have h2 : ∀ (q : Nat) x, (∀ c T, x ≠ Obj.map c T) → w.heap[q]? = some x → (World.putb w r (mapO enc (mset k v l))).heap[q]? = some x := fun q x hx e => by
      have : r ≠ q := by rintro rfl; rw [hb] at e; cases e; exact hx _ _ rfl
      exact (bl_putb_other (w := w) (o := mapO enc (mset k v l)) this).trans e
    exact ⟨by simp [World.putb], fun q d => h2 q _ (by simp), fun q lo _ => h2 q _ (by simp), rfl, rfl⟩
  have hsk : Sk X w (World.putb w r (mapO enc (mset k v l))) := by
    have h2 : ∀ (q : Nat) x, (∀ c T, x ≠ Obj.map c T) → w.heap[q]? = some x → (World.putb w r (mapO enc (mset k v l))).heap[q]? = some x := fun q x hx e => by
      have : r ≠ q := by rintro rfl; rw [hb] at e; cases e; exact hx _ _ rfl
      exact (bl_putb_other (w := w) (o := mapO enc (mset k v l)) this).trans e
    exact ⟨by simp [World.putb], fun q d => h2 q _ (by simp), fun q lo _ => h2 q _ (by simp), rfl, rfl⟩
  rw [sto_of hrun hsk]
  refine hK _ (hw.up hu ⟨hks, ?_, ?_, by simp⟩)
  · simp only [List.mem_singleton, forall_eq, Res.holds]; exact ⟨bl_putb_same (bl_lt hb0), rfl⟩
  · simp only [List.mem_singleton, forall_eq, Res.foot]; exact ⟨Or.inl (by simp), by have := bl_lt hb0; simpa using this⟩
end
end Go.Proofs.YtggakcpabomliaaGreat
namespace Go.Proofs.YtggakcpabomliaaGreat
open Go
def sh_ip6_Put (X : Nat → Prop) (t0 t1 : Value) (R : Value → WP) : WP :=
  lou PR X (Instr.box 164 t0) fun t2 =>
  jn (n := 2) (fun t4 t5 =>
  lou PR X (Instr.alloc 222 true (.tuple #[])) fun t6 =>
  cal PR X 147 [t6, (.int .i64 1610612736), (.int .i64 4)] fun t34 =>
  pur PR (builtinS .len #[9] 0 [t1]) fun t36 =>
  cal PR X 147 [t6, t36, (.int .i64 2)] fun t37 =>
  pur PR (Instr.fieldAt 164 t2 2) fun t38 =>
  rds PR (Instr.loadAt 3 t38) fun t39 =>
  cal PR X 147 [t6, t39, (.int .i64 1)] fun t40 =>
  cal PR X 147 [t6, (.int .i64 64), (.int .i64 1)] fun t41 =>
  jn (n := 1) (fun t49 =>
  pur PR (Instr.fieldAt 222 t6 0) fun t57 =>
  cal PR X 149 [t57] fun t58 =>
  R (.tuple #[t58, (.int .i64 0)])) fun J1 =>
  pur PR (Instr.fieldAt 164 t2 0) fun t42 =>
  rds PR (Instr.loadAt 9 t42) fun t43 =>
  pur PR (Instr.fieldAt 164 t2 1) fun t44 =>
  rds PR (Instr.loadAt 9 t44) fun t45 =>
  lou PR X (Instr.buildSlice 57 3 #[(0, t43), (1, t45), (2, t1)]) fun t47 =>
  pur PR (builtinS .len #[57] 0 [t47]) fun t48 =>
  lp (n := 1) (fun L2 t49_1 =>
  pur PR (binOp .lss 3 t49_1 t48) fun t50 =>
  jn (n := 0) (
  jn (n := 0) (
  pur PR (binOp .add 3 t49_1 (.int .i64 1)) fun t56 =>
  L2 t56) fun J3 =>
  pur PR (Instr.indexAt 57 t47 t49_1) fun t51 =>
  rds PR (Instr.loadAt 9 t51) fun t52 =>
  pur PR (Instr.fieldAt 222 t6 0) fun t53 =>
  cal PR X 148 [t53, t52] fun t55 =>
  J3) fun J4 =>
  cnd t50 (
  J4) (
  J1 t49_1)) (.int .i64 0)) fun J5 =>
  pur PR (Instr.fieldAt 164 t2 0) fun t10 =>
  rds PR (Instr.loadAt 9 t10) fun t11 =>
  pur PR (builtinS .len #[9] 0 [t11]) fun t12 =>
  pur PR (binOp .neq 3 t12 (.int .i64 16)) fun t13 =>
  gj t13 false (fun J => pur PR (Instr.fieldAt 164 t2 1) J) fun t15 =>
  gj t13 false (fun J => rds PR (Instr.loadAt 9 t15) J) fun t16 =>
  gj t13 false (fun J => pur PR (builtinS .len #[9] 0 [t16]) J) fun t17 =>
  gj t13 false (fun J => pur PR (binOp .neq 3 t17 (.int .i64 16)) J) fun t18 =>
  pur PR (do pure (if ← asBool t13 then (.bool true) else t18)) fun t19 =>
  gj t19 false (fun J => pur PR (Instr.fieldAt 164 t2 2) J) fun t21 =>
  gj t19 false (fun J => rds PR (Instr.loadAt 3 t21) J) fun t22 =>
  gj t19 false (fun J => pur PR (binOp .lss 3 t22 (.int .i64 0)) J) fun t23 =>
  pur PR (do pure (if ← asBool t19 then (.bool true) else t23)) fun t24 =>
  gj t24 false (fun J => pur PR (Instr.fieldAt 164 t2 2) J) fun t26 =>
  gj t24 false (fun J => rds PR (Instr.loadAt 3 t26) J) fun t27 =>
  gj t24 false (fun J => pur PR (binOp .gtr 3 t27 (.int .i64 255)) J) fun t28 =>
  pur PR (do pure (if ← asBool t24 then (.bool true) else t28)) fun t29 =>
  cnd t29 (
  R (.tuple #[(.string (ByteArray.mk #[])), (.int .i64 1)])) (
  pur PR (builtinS .len #[9] 0 [t1]) fun t32 =>
  pur PR (binOp .gtr 3 t32 (.int .i64 65535)) fun t33 =>
  cnd t33 (
  R (.tuple #[(.string (ByteArray.mk #[])), (.int .i64 4)])) (
  J5 (.string (ByteArray.mk #[])) (.int .i64 0)))
theorem sh_ip6_Put_eq (X : Nat → Prop) (t0 t1 : Value) (R : Value → WP) : vcFun PR X Tryz.f102 [t0, t1] R = sh_ip6_Put X t0 t1 R := by kernel_rfl
theorem ent_ip6_Put : Enters PR 102 := enters_of Tryz.func102 (by kernel_rfl) rfl
theorem mk_ip6_Put {X : Nat → Prop} {t0 t1 : Value} {R : Value → WP} {w : World} (h : sh_ip6_Put X t0 t1 R w) : Fn PR X 102 #[t0, t1] w R := fn_of_vc (args := [t0, t1]) mixed Tryz.func102 (by rw [sh_ip6_Put_eq]; exact h)
def sh_ip6_writer_number (X : Nat → Prop) (t0 t1 t2 : Value) (R : Value → WP) : WP :=
  drw <|
  pur PR (nilc t0) fun t7 =>
  pur PR (Instr.fieldAt 222 t7 0) fun t8 =>
  pur PR (convert 3 68 t1) fun t10 =>
  cal PR X 151 [t10, t2] fun t12 =>
  cal PR X 148 [t8, t12] fun t13 =>
  R (.tuple #[])
theorem sh_ip6_writer_number_eq (X : Nat → Prop) (t0 t1 t2 : Value) (R : Value → WP) : vcFun PR X Tryz.f147 [t0, t1, t2] R = sh_ip6_writer_number X t0 t1 t2 R := by kernel_rfl
theorem ent_ip6_writer_number : Enters PR 147 := enters_of Tryz.func147 (by kernel_rfl) rfl
theorem mk_ip6_writer_number {X : Nat → Prop} {t0 t1 t2 : Value} {R : Value → WP} {w : World} (h : sh_ip6_writer_number X t0 t1 t2 R w) : Fn PR X 147 #[t0, t1, t2] w R := fn_of_vc (args := [t0, t1, t2]) mixed Tryz.func147 (by rw [sh_ip6_writer_number_eq]; exact h)
def sh_ip6_Parse (X : Nat → Prop) (t0 : Value) (R : Value → WP) : WP :=
  lou PR X (Instr.alloc 164 true (.tuple #[])) fun t2 =>
  jn (n := 2) (fun t3 t4 =>
  jn (n := 2) (fun t3_1 t4_1 =>
  lou PR X (Instr.buildSlice 34 6 #[(0, (.int .i64 4)), (1, (.int .i64 2)), (2, (.int .i64 1)), (3, (.int .i64 1)), (4, (.int .i64 16)), (5, (.int .i64 16))]) fun t19 =>
  cal PR X 213 [t0, t19] fun t20 =>
  pur PR (Instr.indexAt 57 t20 (.int .i64 1)) fun t23 =>
  rds PR (Instr.loadAt 9 t23) fun t24 =>
  cal PR X 192 [t24, (.int .i64 0), (.int .i64 2)] fun t25 =>
  pur PR (Instr.extract t25 0) fun t26 =>
  pur PR (Instr.extract t25 1) fun t27 =>
  pur PR (Instr.indexAt 57 t20 (.int .i64 6)) fun t29 =>
  rds PR (Instr.loadAt 9 t29) fun t30 =>
  jn (n := 2) (fun t3_2 t4_2 =>
  drw <|
  pur PR (Instr.indexAt 57 t20 (.int .i64 4)) fun t38 =>
  rds PR (Instr.loadAt 9 t38) fun t39 =>
  pur PR (Instr.indexAt 57 t20 (.int .i64 5)) fun t41 =>
  rds PR (Instr.loadAt 9 t41) fun t42 =>
  pur PR (Instr.indexAt 57 t20 (.int .i64 2)) fun t44 =>
  rds PR (Instr.loadAt 9 t44) fun t45 =>
  pur PR (Instr.index 9 t45 (.int .i64 0)) fun t46 =>
  pur PR (convert 5 3 t46) fun t47 =>
  pur PR (Instr.build 164 #[(0, t39), (1, t42), (2, t47)]) fun t48 =>
  pur PR (Instr.sliceAt 9 t30 none (some t26) none) fun t51 =>
  sto PR X (Instr.storeAt 164 t2 t48) <|
  rds PR (finS [.c 164 t2, .v t51, .v (.int .i64 0)]) R) fun J1 =>
  pur PR (builtinS .len #[9] 0 [t30]) fun t33 =>
  pur PR (convert 3 68 t33) fun t34 =>
  pur PR (binOp .gtr 68 t26 t34) fun t35 =>
  cnd t35 (
  pur PR (Instr.build 164 #[]) fun t36 =>
  sto PR X (Instr.storeAt 164 t2 t36) <|
  rds PR (finS [.c 164 t2, .v (.string (ByteArray.mk #[])), .v (.int .i64 4)]) R) (
  J1 t3_1 t4_1)) fun J2 =>
  pur PR (Instr.index 9 t0 (.int .i64 0)) fun t14 =>
  pur PR (binOp .shr 5 t14 (.int .u64 4)) fun t15 =>
  pur PR (binOp .neq 5 t15 (.int .u8 6)) fun t16 =>
  cnd t16 (
  pur PR (Instr.build 164 #[]) fun t17 =>
  sto PR X (Instr.storeAt 164 t2 t17) <|
  rds PR (finS [.c 164 t2, .v (.string (ByteArray.mk #[])), .v (.int .i64 3)]) R) (
  J2 t3 t4)) fun J3 =>
  pur PR (builtinS .len #[9] 0 [t0]) fun t10 =>
  pur PR (binOp .lss 3 t10 (.int .i64 40)) fun t11 =>
  cnd t11 (
  pur PR (Instr.build 164 #[]) fun t12 =>
  sto PR X (Instr.storeAt 164 t2 t12) <|
  rds PR (finS [.c 164 t2, .v (.string (ByteArray.mk #[])), .v (.int .i64 2)]) R) (
  J3 (.string (ByteArray.mk #[])) (.int .i64 0))
theorem sh_ip6_Parse_eq (X : Nat → Prop) (t0 : Value) (R : Value → WP) : vcFun PR X Tryz.f190 [t0] R = sh_ip6_Parse X t0 R := by kernel_rfl
theorem ent_ip6_Parse : Enters PR 190 := enters_of Tryz.func190 (by kernel_rfl) rfl
theorem mk_ip6_Parse {X : Nat → Prop} {t0 : Value} {R : Value → WP} {w : World} (h : sh_ip6_Parse X t0 R w) : Fn PR X 190 #[t0] w R := fn_of_vc (args := [t0]) mixed Tryz.func190 (by rw [sh_ip6_Parse_eq]; exact h)
def sh_ip6_cut (X : Nat → Prop) (t0 t1 : Value) (R : Value → WP) : WP :=
  jn (n := 3) (fun t5 t0_1 t10 =>
  lou PR X (Instr.buildSlice 57 1 #[(0, t0_1)]) fun t26 =>
  lou PR X (builtinS .append #[57, 57] 57 [t5, t26]) fun t27 =>
  R t27) fun J1 =>
  pur PR (builtinS .len #[34] 0 [t1]) fun t9 =>
  lp (n := 3) (fun L2 t5_1 t0_2 t10_1 =>
  pur PR (binOp .lss 3 t10_1 t9) fun t11 =>
  jn (n := 0) (
  jn (n := 2) (fun t5_2 t0_3 =>
  pur PR (binOp .add 3 t10_1 (.int .i64 1)) fun t23 =>
  L2 t5_2 t0_3 t23) fun J3 =>
  pur PR (Instr.indexAt 34 t1 t10_1) fun t12 =>
  rds PR (Instr.loadAt 3 t12) fun t13 =>
  pur PR (Instr.sliceAt 9 t0_2 none (some t13) none) fun t17 =>
  lou PR X (Instr.buildSlice 57 1 #[(0, t17)]) fun t18 =>
  lou PR X (builtinS .append #[57, 57] 57 [t5_1, t18]) fun t19 =>
  pur PR (Instr.sliceAt 9 t0_2 (some t13) none none) fun t22 =>
  J3 t19 t22) fun J4 =>
  cnd t11 (
  J4) (
  J1 t5_1 t0_2 t10_1)) (.slice none 0 0) t0 (.int .i64 0)
theorem sh_ip6_cut_eq (X : Nat → Prop) (t0 t1 : Value) (R : Value → WP) : vcFun PR X Tryz.f213 [t0, t1] R = sh_ip6_cut X t0 t1 R := by kernel_rfl
theorem ent_ip6_cut : Enters PR 213 := enters_of Tryz.func213 (by kernel_rfl) rfl
theorem mk_ip6_cut {X : Nat → Prop} {t0 t1 : Value} {R : Value → WP} {w : World} (h : sh_ip6_cut X t0 t1 R w) : Fn PR X 213 #[t0, t1] w R := fn_of_vc (args := [t0, t1]) mixed Tryz.func213 (by rw [sh_ip6_cut_eq]; exact h)
end Go.Proofs.YtggakcpabomliaaGreat
namespace Go.Proofs.YtggakcpabomliaaGreat
open Go
def sh_ip4_Put (X : Nat → Prop) (t0 t1 : Value) (R : Value → WP) : WP :=
  lou PR X (Instr.box 166 t0) fun t2 =>
  lou PR X (Instr.box 9 t1) fun t3 =>
  jn (n := 2) (fun t4 t5 =>
  pur PR (Instr.makeFunc (.func 150) #[] #[t3, t2]) fun t32 =>
  drw <|
  rds PR (Instr.loadAt 9 t3) fun t38 =>
  cav PR X t32 [(.int .i64 0)] fun t35 =>
  watch PR [(none, (Instr.loadAt 9 t3), t38)] <|
  cal PR X 152 [t35] fun t36 =>
  watch PR [(none, (Instr.loadAt 9 t3), t38)] <|
  cav PR X t32 [t36] fun t37 =>
  watch PR [(none, (Instr.loadAt 9 t3), t38)] <|
  pur PR (binOp .add 9 t37 t38) fun t39 =>
  R (.tuple #[t39, (.int .i64 0)])) fun J1 =>
  pur PR (Instr.fieldAt 166 t2 0) fun t8 =>
  rds PR (Instr.loadAt 9 t8) fun t9 =>
  pur PR (builtinS .len #[9] 0 [t9]) fun t10 =>
  pur PR (binOp .neq 3 t10 (.int .i64 4)) fun t11 =>
  gj t11 false (fun J => pur PR (Instr.fieldAt 166 t2 1) J) fun t13 =>
  gj t11 false (fun J => rds PR (Instr.loadAt 9 t13) J) fun t14 =>
  gj t11 false (fun J => pur PR (builtinS .len #[9] 0 [t14]) J) fun t15 =>
  gj t11 false (fun J => pur PR (binOp .neq 3 t15 (.int .i64 4)) J) fun t16 =>
  pur PR (do pure (if ← asBool t11 then (.bool true) else t16)) fun t17 =>
  gj t17 false (fun J => pur PR (Instr.fieldAt 166 t2 2) J) fun t19 =>
  gj t17 false (fun J => rds PR (Instr.loadAt 3 t19) J) fun t20 =>
  gj t17 false (fun J => pur PR (binOp .lss 3 t20 (.int .i64 0)) J) fun t21 =>
  pur PR (do pure (if ← asBool t17 then (.bool true) else t21)) fun t22 =>
  gj t22 false (fun J => pur PR (Instr.fieldAt 166 t2 2) J) fun t24 =>
  gj t22 false (fun J => rds PR (Instr.loadAt 3 t24) J) fun t25 =>
  gj t22 false (fun J => pur PR (binOp .gtr 3 t25 (.int .i64 255)) J) fun t26 =>
  pur PR (do pure (if ← asBool t22 then (.bool true) else t26)) fun t27 =>
  cnd t27 (
  R (.tuple #[(.string (ByteArray.mk #[])), (.int .i64 1)])) (
  rds PR (Instr.loadAt 9 t3) fun t29 =>
  pur PR (builtinS .len #[9] 0 [t29]) fun t30 =>
  pur PR (binOp .gtr 3 t30 (.int .i64 65515)) fun t31 =>
  cnd t31 (
  R (.tuple #[(.string (ByteArray.mk #[])), (.int .i64 4)])) (
  J1 (.string (ByteArray.mk #[])) (.int .i64 0)))
theorem sh_ip4_Put_eq (X : Nat → Prop) (t0 t1 : Value) (R : Value → WP) : vcFun PR X Tryz.f103 [t0, t1] R = sh_ip4_Put X t0 t1 R := by kernel_rfl
theorem ent_ip4_Put : Enters PR 103 := enters_of Tryz.func103 (by kernel_rfl) rfl
theorem mk_ip4_Put {X : Nat → Prop} {t0 t1 : Value} {R : Value → WP} {w : World} (h : sh_ip4_Put X t0 t1 R w) : Fn PR X 103 #[t0, t1] w R := fn_of_vc (args := [t0, t1]) mixed Tryz.func103 (by rw [sh_ip4_Put_eq]; exact h)
def sh_ip4_Put_c1 (X : Nat → Prop) (t0 t1 t2 : Value) (R : Value → WP) : WP :=
  drw <|
  rds PR (Instr.loadAt 9 t1) fun t5 =>
  pur PR (builtinS .len #[9] 0 [t5]) fun t6 =>
  pur PR (binOp .add 3 (.int .i64 20) t6) fun t7 =>
  pur PR (convert 3 68 t7) fun t8 =>
  pur PR (Instr.fieldAt 166 t2 2) fun t12 =>
  rds PR (Instr.loadAt 3 t12) fun t13 =>
  pur PR (convert 3 68 t13) fun t14 =>
  pur PR (convert 3 68 t0) fun t18 =>
  pur PR (Instr.fieldAt 166 t2 0) fun t21 =>
  rds PR (Instr.loadAt 9 t21) fun t22 =>
  pur PR (Instr.fieldAt 166 t2 1) fun t24 =>
  rds PR (Instr.loadAt 9 t24) fun t25 =>
  cal PR X 151 [t8, (.int .i64 2)] fun t9 =>
  watch PR [(none, (Instr.loadAt 9 t24), t25), (none, (Instr.loadAt 9 t21), t22), (none, (Instr.loadAt 3 t12), t13)] <|
  pur PR (binOp .add 9 (.string (ByteArray.mk #[69, 0])) t9) fun t10 =>
  pur PR (binOp .add 9 t10 (.string (ByteArray.mk #[0, 0, 64, 0, 64]))) fun t11 =>
  cal PR X 151 [t14, (.int .i64 1)] fun t15 =>
  watch PR [(none, (Instr.loadAt 9 t24), t25), (none, (Instr.loadAt 9 t21), t22)] <|
  pur PR (binOp .add 9 t11 t15) fun t16 =>
  cal PR X 151 [t18, (.int .i64 2)] fun t19 =>
  watch PR [(none, (Instr.loadAt 9 t24), t25), (none, (Instr.loadAt 9 t21), t22)] <|
  pur PR (binOp .add 9 t16 t19) fun t20 =>
  pur PR (binOp .add 9 t20 t22) fun t23 =>
  pur PR (binOp .add 9 t23 t25) fun t26 =>
  R t26
theorem sh_ip4_Put_c1_eq (X : Nat → Prop) (t0 t1 t2 : Value) (R : Value → WP) : vcFun PR X Tryz.f150 [t0, t1, t2] R = sh_ip4_Put_c1 X t0 t1 t2 R := by kernel_rfl
theorem ent_ip4_Put_c1 : Enters PR 150 := enters_of Tryz.func150 (by kernel_rfl) rfl
theorem mk_ip4_Put_c1 {X : Nat → Prop} {t0 t1 t2 : Value} {R : Value → WP} {w : World} (h : sh_ip4_Put_c1 X t0 t1 t2 R w) : Fn PR X 150 #[t0, t1, t2] w R := fn_of_vc (args := [t0, t1, t2]) mixed Tryz.func150 (by rw [sh_ip4_Put_c1_eq]; exact h)
def sh_ip4_Parse (X : Nat → Prop) (t0 : Value) (R : Value → WP) : WP :=
  lou PR X (Instr.box 9 t0) fun t1 =>
  lou PR X (Instr.alloc 166 true (.tuple #[])) fun t2 =>
  pur PR (Instr.makeFunc (.func 205) #[] #[t1]) fun t9 =>
  lou PR X (Instr.alloc 152 true (.tuple #[])) fun t5 =>
  sto PR X (Instr.storeAt 152 t5 t9) <|
  drw <|
  kt (n := 2) (fun t6 t7 =>
  pur PR (Instr.makeFunc (.func 207) #[] #[t1]) fun t16 =>
  pur PR (Instr.build 300 #[(0, t16), (1, (.int .i64 2))]) fun t17 =>
  pur PR (Instr.makeFunc (.func 208) #[] #[t5]) fun t18 =>
  pur PR (Instr.build 300 #[(0, t18), (1, (.int .i64 3))]) fun t19 =>
  pur PR (Instr.makeFunc (.func 209) #[] #[t6, t1, t7]) fun t20 =>
  pur PR (Instr.build 300 #[(0, t20), (1, (.int .i64 4))]) fun t21 =>
  pur PR (Instr.makeFunc (.func 210) #[] #[t1, t6]) fun t22 =>
  pur PR (Instr.build 300 #[(0, t22), (1, (.int .i64 5))]) fun t23 =>
  pur PR (Instr.makeFunc (.func 212) #[] #[t5]) fun t24 =>
  pur PR (Instr.build 300 #[(0, t24), (1, (.int .i64 6))]) fun t25 =>
  lou PR X (Instr.buildSlice 314 5 #[(0, t17), (1, t19), (2, t21), (3, t23), (4, t25)]) fun t26 =>
  cal PR X 206 [t26] fun t27 =>
  jn (n := 2) (fun t3 t4 =>
  drw <|
  rds PR (Instr.loadAt 9 t1) fun t32 =>
  pur PR (Instr.sliceAt 9 t32 (some (.int .i64 12)) (some (.int .i64 16)) none) fun t33 =>
  rds PR (Instr.loadAt 9 t1) fun t34 =>
  pur PR (Instr.sliceAt 9 t34 (some (.int .i64 16)) (some (.int .i64 20)) none) fun t35 =>
  rds PR (Instr.loadAt 152 t5) fun t36 =>
  rds PR (Instr.loadAt 9 t1) fun t39 =>
  rds PR (Instr.loadAt 3 t6) fun t40 =>
  rds PR (Instr.loadAt 3 t7) fun t41 =>
  pur PR (Instr.sliceAt 9 t39 (some t40) (some t41) none) fun t42 =>
  cav PR X t36 [(.int .i64 9), (.int .i64 1)] fun t37 =>
  watch PR [(none, (Instr.loadAt 3 t7), t41), (none, (Instr.loadAt 3 t6), t40), (none, (Instr.loadAt 9 t1), t39), (none, (Instr.loadAt 9 t1), t34), (none, (Instr.loadAt 9 t1), t32)] <|
  pur PR (Instr.build 166 #[(0, t33), (1, t35), (2, t37)]) fun t38 =>
  sto PR X (Instr.storeAt 166 t2 t38) <|
  watch PR [(none, (Instr.loadAt 3 t7), t41), (none, (Instr.loadAt 3 t6), t40), (none, (Instr.loadAt 9 t1), t39)] <|
  rds PR (finS [.c 166 t2, .v t42, .v (.int .i64 0)]) R) fun J1 =>
  pur PR (binOp .neq 28 t27 (.int .i64 0)) fun t29 =>
  cnd t29 (
  pur PR (Instr.build 166 #[]) fun t30 =>
  sto PR X (Instr.storeAt 166 t2 t30) <|
  rds PR (finS [.c 166 t2, .v (.string (ByteArray.mk #[])), .v t27]) R) (
  J1 (.string (ByteArray.mk #[])) (.int .i64 0))) fun C2 =>
  rds PR (Instr.loadAt 152 t5) fun t10_1 =>
  rds PR (Instr.loadAt 152 t5) fun t14_1 =>
  both (cav PR X t10_1 [(.int .i64 0), (.int .i64 1)] fun t11_5 =>
  watch PR [(none, (Instr.loadAt 152 t5), t14_1)] <|
  pur PR (binOp .and 3 t11_5 (.int .i64 15)) fun t12_5 =>
  pur PR (binOp .mul 3 t12_5 (.int .i64 4)) fun t13_5 =>
  both (cav PR X t14_1 [(.int .i64 2), (.int .i64 2)] fun t15_11 =>
  both (lou PR X (Instr.alloc 3 true (.tuple #[])) fun t6_9 =>
  lou PR X (Instr.alloc 3 true (.tuple #[])) fun t7_9 =>
  sto PR X (Instr.storeAt 3 t6_9 t13_5) <|
  sto PR X (Instr.storeAt 3 t7_9 t15_11) <|
  C2 t6_9 t7_9) (both (lou PR X (Instr.alloc 3 true (.tuple #[])) fun t7_8 =>
  lou PR X (Instr.alloc 3 true (.tuple #[])) fun t6_8 =>
  sto PR X (Instr.storeAt 3 t6_8 t13_5) <|
  sto PR X (Instr.storeAt 3 t7_8 t15_11) <|
  C2 t6_8 t7_8) ((fun _ => True)))) (both (lou PR X (Instr.alloc 3 true (.tuple #[])) fun t6_7 =>
  watch PR [(none, (Instr.loadAt 152 t5), t14_1)] <|
  both (cav PR X t14_1 [(.int .i64 2), (.int .i64 2)] fun t15_10 =>
  lou PR X (Instr.alloc 3 true (.tuple #[])) fun t7_7 =>
  sto PR X (Instr.storeAt 3 t6_7 t13_5) <|
  sto PR X (Instr.storeAt 3 t7_7 t15_10) <|
  C2 t6_7 t7_7) (both (lou PR X (Instr.alloc 3 true (.tuple #[])) fun t7_6 =>
  watch PR [(none, (Instr.loadAt 152 t5), t14_1)] <|
  cav PR X t14_1 [(.int .i64 2), (.int .i64 2)] fun t15_9 =>
  sto PR X (Instr.storeAt 3 t6_7 t13_5) <|
  sto PR X (Instr.storeAt 3 t7_6 t15_9) <|
  C2 t6_7 t7_6) ((fun _ => True)))) (both (lou PR X (Instr.alloc 3 true (.tuple #[])) fun t7_5 =>
  watch PR [(none, (Instr.loadAt 152 t5), t14_1)] <|
  both (cav PR X t14_1 [(.int .i64 2), (.int .i64 2)] fun t15_8 =>
  lou PR X (Instr.alloc 3 true (.tuple #[])) fun t6_6 =>
  sto PR X (Instr.storeAt 3 t6_6 t13_5) <|
  sto PR X (Instr.storeAt 3 t7_5 t15_8) <|
  C2 t6_6 t7_5) (both (lou PR X (Instr.alloc 3 true (.tuple #[])) fun t6_5 =>
  watch PR [(none, (Instr.loadAt 152 t5), t14_1)] <|
  cav PR X t14_1 [(.int .i64 2), (.int .i64 2)] fun t15_7 =>
  sto PR X (Instr.storeAt 3 t6_5 t13_5) <|
  sto PR X (Instr.storeAt 3 t7_5 t15_7) <|
  C2 t6_5 t7_5) ((fun _ => True)))) ((fun _ => True))))) (both (lou PR X (Instr.alloc 3 true (.tuple #[])) fun t6_4 =>
  watch PR [(none, (Instr.loadAt 152 t5), t14_1), (none, (Instr.loadAt 152 t5), t10_1)] <|
  both (cav PR X t10_1 [(.int .i64 0), (.int .i64 1)] fun t11_4 =>
  watch PR [(none, (Instr.loadAt 152 t5), t14_1)] <|
  pur PR (binOp .and 3 t11_4 (.int .i64 15)) fun t12_4 =>
  pur PR (binOp .mul 3 t12_4 (.int .i64 4)) fun t13_4 =>
  both (cav PR X t14_1 [(.int .i64 2), (.int .i64 2)] fun t15_6 =>
  lou PR X (Instr.alloc 3 true (.tuple #[])) fun t7_4 =>
  sto PR X (Instr.storeAt 3 t6_4 t13_4) <|
  sto PR X (Instr.storeAt 3 t7_4 t15_6) <|
  C2 t6_4 t7_4) (both (lou PR X (Instr.alloc 3 true (.tuple #[])) fun t7_3 =>
  watch PR [(none, (Instr.loadAt 152 t5), t14_1)] <|
  cav PR X t14_1 [(.int .i64 2), (.int .i64 2)] fun t15_5 =>
  sto PR X (Instr.storeAt 3 t6_4 t13_4) <|
  sto PR X (Instr.storeAt 3 t7_3 t15_5) <|
  C2 t6_4 t7_3) ((fun _ => True)))) (both (lou PR X (Instr.alloc 3 true (.tuple #[])) fun t7_2 =>
  watch PR [(none, (Instr.loadAt 152 t5), t14_1), (none, (Instr.loadAt 152 t5), t10_1)] <|
  cav PR X t10_1 [(.int .i64 0), (.int .i64 1)] fun t11_3 =>
  watch PR [(none, (Instr.loadAt 152 t5), t14_1)] <|
  pur PR (binOp .and 3 t11_3 (.int .i64 15)) fun t12_3 =>
  pur PR (binOp .mul 3 t12_3 (.int .i64 4)) fun t13_3 =>
  cav PR X t14_1 [(.int .i64 2), (.int .i64 2)] fun t15_4 =>
  sto PR X (Instr.storeAt 3 t6_4 t13_3) <|
  sto PR X (Instr.storeAt 3 t7_2 t15_4) <|
  C2 t6_4 t7_2) ((fun _ => True)))) (both (lou PR X (Instr.alloc 3 true (.tuple #[])) fun t7_1 =>
  watch PR [(none, (Instr.loadAt 152 t5), t14_1), (none, (Instr.loadAt 152 t5), t10_1)] <|
  both (cav PR X t10_1 [(.int .i64 0), (.int .i64 1)] fun t11_2 =>
  watch PR [(none, (Instr.loadAt 152 t5), t14_1)] <|
  pur PR (binOp .and 3 t11_2 (.int .i64 15)) fun t12_2 =>
  pur PR (binOp .mul 3 t12_2 (.int .i64 4)) fun t13_2 =>
  both (cav PR X t14_1 [(.int .i64 2), (.int .i64 2)] fun t15_3 =>
  lou PR X (Instr.alloc 3 true (.tuple #[])) fun t6_3 =>
  sto PR X (Instr.storeAt 3 t6_3 t13_2) <|
  sto PR X (Instr.storeAt 3 t7_1 t15_3) <|
  C2 t6_3 t7_1) (both (lou PR X (Instr.alloc 3 true (.tuple #[])) fun t6_2 =>
  watch PR [(none, (Instr.loadAt 152 t5), t14_1)] <|
  cav PR X t14_1 [(.int .i64 2), (.int .i64 2)] fun t15_2 =>
  sto PR X (Instr.storeAt 3 t6_2 t13_2) <|
  sto PR X (Instr.storeAt 3 t7_1 t15_2) <|
  C2 t6_2 t7_1) ((fun _ => True)))) (both (lou PR X (Instr.alloc 3 true (.tuple #[])) fun t6_1 =>
  watch PR [(none, (Instr.loadAt 152 t5), t14_1), (none, (Instr.loadAt 152 t5), t10_1)] <|
  cav PR X t10_1 [(.int .i64 0), (.int .i64 1)] fun t11_1 =>
  watch PR [(none, (Instr.loadAt 152 t5), t14_1)] <|
  pur PR (binOp .and 3 t11_1 (.int .i64 15)) fun t12_1 =>
  pur PR (binOp .mul 3 t12_1 (.int .i64 4)) fun t13_1 =>
  cav PR X t14_1 [(.int .i64 2), (.int .i64 2)] fun t15_1 =>
  sto PR X (Instr.storeAt 3 t6_1 t13_1) <|
  sto PR X (Instr.storeAt 3 t7_1 t15_1) <|
  C2 t6_1 t7_1) ((fun _ => True)))) ((fun _ => True))))
theorem sh_ip4_Parse_eq (X : Nat → Prop) (t0 : Value) (R : Value → WP) : vcFun PR X Tryz.f187 [t0] R = sh_ip4_Parse X t0 R := by kernel_rfl
theorem ent_ip4_Parse : Enters PR 187 := enters_of Tryz.func187 (by kernel_rfl) rfl
theorem mk_ip4_Parse {X : Nat → Prop} {t0 : Value} {R : Value → WP} {w : World} (h : sh_ip4_Parse X t0 R w) : Fn PR X 187 #[t0] w R := fn_of_vc (args := [t0]) mixed Tryz.func187 (by rw [sh_ip4_Parse_eq]; exact h)
def sh_ip4_Parse_c1 (X : Nat → Prop) (t0 t1 t2 : Value) (R : Value → WP) : WP :=
  rds PR (Instr.loadAt 9 t2) fun t9 =>
  cal PR X 192 [t9, t0, t1] fun t12 =>
  pur PR (Instr.extract t12 0) fun t13 =>
  pur PR (Instr.extract t12 1) fun t14 =>
  pur PR (convert 68 3 t13) fun t16 =>
  R t16
theorem sh_ip4_Parse_c1_eq (X : Nat → Prop) (t0 t1 t2 : Value) (R : Value → WP) : vcFun PR X Tryz.f205 [t0, t1, t2] R = sh_ip4_Parse_c1 X t0 t1 t2 R := by kernel_rfl
theorem ent_ip4_Parse_c1 : Enters PR 205 := enters_of Tryz.func205 (by kernel_rfl) rfl
theorem mk_ip4_Parse_c1 {X : Nat → Prop} {t0 t1 t2 : Value} {R : Value → WP} {w : World} (h : sh_ip4_Parse_c1 X t0 t1 t2 R w) : Fn PR X 205 #[t0, t1, t2] w R := fn_of_vc (args := [t0, t1, t2]) mixed Tryz.func205 (by rw [sh_ip4_Parse_c1_eq]; exact h)
def sh_ip4_first (X : Nat → Prop) (t0 : Value) (R : Value → WP) : WP :=
  jn (n := 2) (fun t3 t8 =>
  R t3) fun J1 =>
  pur PR (builtinS .len #[314] 0 [t0]) fun t7 =>
  lp (n := 2) (fun L2 t3_1 t8_1 =>
  pur PR (binOp .lss 3 t8_1 t7) fun t9 =>
  jn (n := 0) (
  jn (n := 1) (fun t3_2 =>
  pur PR (binOp .add 3 t8_1 (.int .i64 1)) fun t17 =>
  L2 t3_2 t17) fun J3 =>
  pur PR (Instr.indexAt 314 t0 t8_1) fun t10 =>
  rds PR (Instr.loadAt 300 t10) fun t11 =>
  lou PR X (Instr.alloc 300 true (.tuple #[])) fun t5 =>
  sto PR X (Instr.storeAt 300 t5 t11) <|
  pur PR (Instr.fieldAt 300 t5 0) fun t12 =>
  rds PR (Instr.loadAt 25 t12) fun t13 =>
  cav PR X t13 [] fun t14 =>
  cnd t14 (
  pur PR (Instr.fieldAt 300 t5 1) fun t15 =>
  rds PR (Instr.loadAt 28 t15) fun t16 =>
  J1 t16 t8_1) (
  J3 t3_1)) fun J4 =>
  cnd t9 (
  J4) (
  J1 t3_1 t8_1)) (.int .i64 0) (.int .i64 0)
theorem sh_ip4_first_eq (X : Nat → Prop) (t0 : Value) (R : Value → WP) : vcFun PR X Tryz.f206 [t0] R = sh_ip4_first X t0 R := by kernel_rfl
theorem ent_ip4_first : Enters PR 206 := enters_of Tryz.func206 (by kernel_rfl) rfl
theorem mk_ip4_first {X : Nat → Prop} {t0 : Value} {R : Value → WP} {w : World} (h : sh_ip4_first X t0 R w) : Fn PR X 206 #[t0] w R := fn_of_vc (args := [t0]) mixed Tryz.func206 (by rw [sh_ip4_first_eq]; exact h)
def sh_ip4_Parse_c2 (X : Nat → Prop) (t0 : Value) (R : Value → WP) : WP :=
  rds PR (Instr.loadAt 9 t0) fun t2 =>
  pur PR (builtinS .len #[9] 0 [t2]) fun t3 =>
  pur PR (binOp .lss 3 t3 (.int .i64 20)) fun t4 =>
  R t4
theorem sh_ip4_Parse_c2_eq (X : Nat → Prop) (t0 : Value) (R : Value → WP) : vcFun PR X Tryz.f207 [t0] R = sh_ip4_Parse_c2 X t0 R := by kernel_rfl
theorem ent_ip4_Parse_c2 : Enters PR 207 := enters_of Tryz.func207 (by kernel_rfl) rfl
theorem mk_ip4_Parse_c2 {X : Nat → Prop} {t0 : Value} {R : Value → WP} {w : World} (h : sh_ip4_Parse_c2 X t0 R w) : Fn PR X 207 #[t0] w R := fn_of_vc (args := [t0]) mixed Tryz.func207 (by rw [sh_ip4_Parse_c2_eq]; exact h)
def sh_ip4_Parse_c3 (X : Nat → Prop) (t0 : Value) (R : Value → WP) : WP :=
  rds PR (Instr.loadAt 152 t0) fun t2 =>
  cav PR X t2 [(.int .i64 0), (.int .i64 1)] fun t3 =>
  pur PR (binOp .shr 3 t3 (.int .u64 4)) fun t4 =>
  pur PR (binOp .neq 3 t4 (.int .i64 4)) fun t5 =>
  R t5
theorem sh_ip4_Parse_c3_eq (X : Nat → Prop) (t0 : Value) (R : Value → WP) : vcFun PR X Tryz.f208 [t0] R = sh_ip4_Parse_c3 X t0 R := by kernel_rfl
theorem ent_ip4_Parse_c3 : Enters PR 208 := enters_of Tryz.func208 (by kernel_rfl) rfl
theorem mk_ip4_Parse_c3 {X : Nat → Prop} {t0 : Value} {R : Value → WP} {w : World} (h : sh_ip4_Parse_c3 X t0 R w) : Fn PR X 208 #[t0] w R := fn_of_vc (args := [t0]) mixed Tryz.func208 (by rw [sh_ip4_Parse_c3_eq]; exact h)
def sh_ip4_Parse_c4 (X : Nat → Prop) (t0 t1 t2 : Value) (R : Value → WP) : WP :=
  rds PR (Instr.loadAt 3 t0) fun t4 =>
  pur PR (binOp .lss 3 t4 (.int .i64 20)) fun t5 =>
  gj t5 false (fun J => rds PR (Instr.loadAt 3 t0) J) fun t7 =>
  gj t5 false (fun J => rds PR (Instr.loadAt 9 t1) J) fun t8 =>
  gj t5 false (fun J => pur PR (builtinS .len #[9] 0 [t8]) J) fun t9 =>
  gj t5 false (fun J => pur PR (binOp .gtr 3 t7 t9) J) fun t10 =>
  pur PR (do pure (if ← asBool t5 then (.bool true) else t10)) fun t11 =>
  gj t11 false (fun J => rds PR (Instr.loadAt 3 t2) J) fun t13 =>
  gj t11 false (fun J => rds PR (Instr.loadAt 3 t0) J) fun t14 =>
  gj t11 false (fun J => pur PR (binOp .lss 3 t13 t14) J) fun t15 =>
  pur PR (do pure (if ← asBool t11 then (.bool true) else t15)) fun t16 =>
  gj t16 false (fun J => rds PR (Instr.loadAt 3 t2) J) fun t18 =>
  gj t16 false (fun J => rds PR (Instr.loadAt 9 t1) J) fun t19 =>
  gj t16 false (fun J => pur PR (builtinS .len #[9] 0 [t19]) J) fun t20 =>
  gj t16 false (fun J => pur PR (binOp .gtr 3 t18 t20) J) fun t21 =>
  pur PR (do pure (if ← asBool t16 then (.bool true) else t21)) fun t22 =>
  R t22
theorem sh_ip4_Parse_c4_eq (X : Nat → Prop) (t0 t1 t2 : Value) (R : Value → WP) : vcFun PR X Tryz.f209 [t0, t1, t2] R = sh_ip4_Parse_c4 X t0 t1 t2 R := by kernel_rfl
theorem ent_ip4_Parse_c4 : Enters PR 209 := enters_of Tryz.func209 (by kernel_rfl) rfl
theorem mk_ip4_Parse_c4 {X : Nat → Prop} {t0 t1 t2 : Value} {R : Value → WP} {w : World} (h : sh_ip4_Parse_c4 X t0 t1 t2 R w) : Fn PR X 209 #[t0, t1, t2] w R := fn_of_vc (args := [t0, t1, t2]) mixed Tryz.func209 (by rw [sh_ip4_Parse_c4_eq]; exact h)
def sh_ip4_Parse_c5 (X : Nat → Prop) (t0 t1 : Value) (R : Value → WP) : WP :=
  rds PR (Instr.loadAt 9 t0) fun t3 =>
  rds PR (Instr.loadAt 3 t1) fun t4 =>
  pur PR (Instr.sliceAt 9 t3 none (some t4) none) fun t5 =>
  cal PR X 211 [t5] fun t6 =>
  pur PR (Op.unary .not t6) fun t7 =>
  R t7
theorem sh_ip4_Parse_c5_eq (X : Nat → Prop) (t0 t1 : Value) (R : Value → WP) : vcFun PR X Tryz.f210 [t0, t1] R = sh_ip4_Parse_c5 X t0 t1 R := by kernel_rfl
theorem ent_ip4_Parse_c5 : Enters PR 210 := enters_of Tryz.func210 (by kernel_rfl) rfl
theorem mk_ip4_Parse_c5 {X : Nat → Prop} {t0 t1 : Value} {R : Value → WP} {w : World} (h : sh_ip4_Parse_c5 X t0 t1 R w) : Fn PR X 210 #[t0, t1] w R := fn_of_vc (args := [t0, t1]) mixed Tryz.func210 (by rw [sh_ip4_Parse_c5_eq]; exact h)
def sh_ip4_Parse_c6 (X : Nat → Prop) (t0 : Value) (R : Value → WP) : WP :=
  rds PR (Instr.loadAt 152 t0) fun t2 =>
  cav PR X t2 [(.int .i64 6), (.int .i64 2)] fun t3 =>
  pur PR (binOp .and 3 t3 (.int .i64 16383)) fun t4 =>
  pur PR (binOp .neq 3 t4 (.int .i64 0)) fun t5 =>
  R t5
theorem sh_ip4_Parse_c6_eq (X : Nat → Prop) (t0 : Value) (R : Value → WP) : vcFun PR X Tryz.f212 [t0] R = sh_ip4_Parse_c6 X t0 R := by kernel_rfl
theorem ent_ip4_Parse_c6 : Enters PR 212 := enters_of Tryz.func212 (by kernel_rfl) rfl
theorem mk_ip4_Parse_c6 {X : Nat → Prop} {t0 : Value} {R : Value → WP} {w : World} (h : sh_ip4_Parse_c6 X t0 R w) : Fn PR X 212 #[t0] w R := fn_of_vc (args := [t0]) mixed Tryz.func212 (by rw [sh_ip4_Parse_c6_eq]; exact h)
end Go.Proofs.YtggakcpabomliaaGreat
namespace Go.Proofs.YtggakcpabomliaaGreat
open Go
def sh_sum_Sum (X : Nat → Prop) (t0 : Value) (R : Value → WP) : WP :=
  cal PR X 185 [t0] fun t4 =>
  pur PR (binOp .sub 3 (.int .i64 65535) t4) fun t5 =>
  R t5
theorem sh_sum_Sum_eq (X : Nat → Prop) (t0 : Value) (R : Value → WP) : vcFun PR X Tryz.f152 [t0] R = sh_sum_Sum X t0 R := by kernel_rfl
theorem ent_sum_Sum : Enters PR 152 := enters_of Tryz.func152 (by kernel_rfl) rfl
theorem mk_sum_Sum {X : Nat → Prop} {t0 : Value} {R : Value → WP} {w : World} (h : sh_sum_Sum X t0 R w) : Fn PR X 152 #[t0] w R := fn_of_vc (args := [t0]) mixed Tryz.func152 (by rw [sh_sum_Sum_eq]; exact h)
def sh_sum_Fold (X : Nat → Prop) (t0 : Value) (R : Value → WP) : WP :=
  lou PR X (Instr.alloc 68 true (.tuple #[])) fun t3 =>
  jn (n := 0) (
  jn (n := 0) (
  rds PR (Instr.loadAt 68 t3) fun t18 =>
  pur PR (convert 68 3 t18) fun t19 =>
  unw (R t19)) fun J1 =>
  lp (n := 0) (fun L2 =>
  jn (n := 0) (
  rds PR (Instr.loadAt 68 t3) fun t13 =>
  pur PR (binOp .shr 68 t13 (.int .u64 16)) fun t14 =>
  rds PR (Instr.loadAt 68 t3) fun t15 =>
  pur PR (binOp .and 68 t15 (.int .u64 65535)) fun t16 =>
  pur PR (binOp .add 68 t14 t16) fun t17 =>
  sto PR X (Instr.storeAt 68 t3 t17) <|
  L2) fun J3 =>
  rds PR (Instr.loadAt 68 t3) fun t11 =>
  pur PR (binOp .leq 68 t11 (.int .u64 65535)) fun t12 =>
  cnd t12 (
  J1) (
  J3)) ) fun J4 =>
  cal PR X 204 [t0] fun t6 =>
  rng (N := 1) PR X (fun t7 K5 =>
  bgn <|
  rds PR (Instr.loadAt 68 t3) fun t8 =>
  pur PR (binOp .add 68 t8 t7) fun t10 =>
  sto PR (fun _ => False) (Instr.storeAt 68 t3 t10) <|
  K5 none) t6 (fun j => match j with | none => (J4) | some (.exit i) => (match Nat.beq i 0 with | true => (J4) | false => (nowp)) | some .ret => (unw (R (.int .i64 0))) | some _ => nowp)
theorem sh_sum_Fold_eq (X : Nat → Prop) (t0 : Value) (R : Value → WP) : vcFun PR X Tryz.f185 [t0] R = sh_sum_Fold X t0 R := by kernel_rfl
theorem ent_sum_Fold : Enters PR 185 := enters_of Tryz.func185 (by kernel_rfl) rfl
theorem mk_sum_Fold {X : Nat → Prop} {t0 : Value} {R : Value → WP} {w : World} (h : sh_sum_Fold X t0 R w) : Fn PR X 185 #[t0] w R := fn_of_vc (args := [t0]) mixed Tryz.func185 (by rw [sh_sum_Fold_eq]; exact h)
def sh_sum_words (X : Nat → Prop) (t0 : Value) (R : Value → WP) : WP :=
  lou PR X (Instr.box 9 t0) fun t1 =>
  pur PR (Instr.makeFunc (.func 228) #[] #[t1]) fun t3 =>
  R t3
theorem sh_sum_words_eq (X : Nat → Prop) (t0 : Value) (R : Value → WP) : vcFun PR X Tryz.f204 [t0] R = sh_sum_words X t0 R := by kernel_rfl
theorem ent_sum_words : Enters PR 204 := enters_of Tryz.func204 (by kernel_rfl) rfl
theorem mk_sum_words {X : Nat → Prop} {t0 : Value} {R : Value → WP} {w : World} (h : sh_sum_words X t0 R w) : Fn PR X 204 #[t0] w R := fn_of_vc (args := [t0]) mixed Tryz.func204 (by rw [sh_sum_words_eq]; exact h)
def sh_sum_Good (X : Nat → Prop) (t0 : Value) (R : Value → WP) : WP :=
  cal PR X 185 [t0] fun t4 =>
  pur PR (binOp .eql 3 t4 (.int .i64 65535)) fun t5 =>
  R t5
theorem sh_sum_Good_eq (X : Nat → Prop) (t0 : Value) (R : Value → WP) : vcFun PR X Tryz.f211 [t0] R = sh_sum_Good X t0 R := by kernel_rfl
theorem ent_sum_Good : Enters PR 211 := enters_of Tryz.func211 (by kernel_rfl) rfl
theorem mk_sum_Good {X : Nat → Prop} {t0 : Value} {R : Value → WP} {w : World} (h : sh_sum_Good X t0 R w) : Fn PR X 211 #[t0] w R := fn_of_vc (args := [t0]) mixed Tryz.func211 (by rw [sh_sum_Good_eq]; exact h)
def sh_sum_words_c1 (X : Nat → Prop) (t0 t1 : Value) (R : Value → WP) : WP :=
  jn (n := 0) (
  lp (n := 1) (fun L1 t3 =>
  jn (n := 0) (
  jn (n := 0) (
  pur PR (binOp .add 3 t3 (.int .i64 2)) fun t17 =>
  L1 t17) fun J2 =>
  rds PR (Instr.loadAt 9 t1) fun t19 =>
  cal PR X 192 [t19, t3, (.int .i64 2)] fun t21 =>
  pur PR (Instr.extract t21 0) fun t22 =>
  pur PR (Instr.extract t21 1) fun t23 =>
  cav PR X t0 [t22] fun t26 =>
  pur PR (Op.unary .not t26) fun t27 =>
  cnd t27 (
  R (.tuple #[])) (
  J2)) fun J3 =>
  rds PR (Instr.loadAt 9 t1) fun t13 =>
  pur PR (builtinS .len #[9] 0 [t13]) fun t14 =>
  pur PR (binOp .lss 3 t3 t14) fun t15 =>
  cnd t15 (
  J3) (
  R (.tuple #[]))) (.int .i64 0)) fun J4 =>
  rds PR (Instr.loadAt 9 t1) fun t6 =>
  pur PR (builtinS .len #[9] 0 [t6]) fun t7 =>
  pur PR (binOp .rem 3 t7 (.int .i64 2)) fun t8 =>
  pur PR (binOp .eql 3 t8 (.int .i64 1)) fun t9 =>
  cnd t9 (
  rds PR (Instr.loadAt 9 t1) fun t10 =>
  pur PR (binOp .add 9 t10 (.string (ByteArray.mk #[0]))) fun t11 =>
  sto PR X (Instr.storeAt 9 t1 t11) <|
  J4) (
  J4)
theorem sh_sum_words_c1_eq (X : Nat → Prop) (t0 t1 : Value) (R : Value → WP) : vcFun PR X Tryz.f228 [t0, t1] R = sh_sum_words_c1 X t0 t1 R := by kernel_rfl
theorem ent_sum_words_c1 : Enters PR 228 := enters_of Tryz.func228 (by kernel_rfl) rfl
theorem mk_sum_words_c1 {X : Nat → Prop} {t0 t1 : Value} {R : Value → WP} {w : World} (h : sh_sum_words_c1 X t0 t1 R w) : Fn PR X 228 #[t0, t1] w R := fn_of_vc (args := [t0, t1]) mixed Tryz.func228 (by rw [sh_sum_words_c1_eq]; exact h)
theorem ce_sum_words_c1 {X : Nat → Prop} {t0 t1 : Value} {K : Value → WP} {w : World} (h : Fn PR X 228 #[t0, t1] w K) : calE PR X 228 [t0, t1] K w := ⟨ent_sum_words_c1, h⟩
end Go.Proofs.YtggakcpabomliaaGreat
namespace Go.Proofs.YtggakcpabomliaaGreat
open Go
abbrev wordsF (b : Nat) : Value := .func (.func 228) #[] #[.pointer (some ⟨b, 0, none⟩)]
theorem words_ok (w : World) (s : ByteArray) : Fn PR NoX 204 #[.string s] w (Rn [] w (fun b v => v = wordsF b) fun b => [.pt b (.cells #[.string s] 9)]) := by
  refine mk_sum_words (TW.go (κ := false) (S := []) ?_)
  unfold sh_sum_words
  (have hQq := trivial; repeat ((first | clear hQq | (with_reducible first | refine T_drw ?_ | refine T_bx fun _ => ?_ | refine s_al fun _ => ?_)); (try simp (disch := first | omega | assumption | ((repeat (first | exact mem_h | exact Up.here | apply mem_t | apply Up.there)); first | done | fail) | (simp; first | done | omega | fail)) [])))
  rename_i b
  exact T_retn b rfl (by simp)
def wordV (s : ByteArray) (i : Nat) : List Value := [.int .u64 (beV s (2 * i) 2 : Nat)]
def nwords (s : ByteArray) : Nat := (s.size + 1) / 2
def pad (s : ByteArray) : ByteArray := if s.size % 2 = 1 then s ++ ByteArray.mk #[0] else s
theorem pad_size (s : ByteArray) : (pad s).size = 2 * nwords s := by
  unfold pad nwords; split
  · rw [ByteArray.size_append, show (ByteArray.mk #[0]).size = 1 from rfl]; omega
  · omega
theorem byteAt_append (s t : ByteArray) (i : Nat) : byteAt (s ++ t) i = if i < s.size then byteAt s i else byteAt t (i - s.size) := by
  unfold byteAt
  rw [ByteArray.data_append, Array.getD_eq_getD_getElem?, Array.getElem?_append, Array.getD_eq_getD_getElem?, Array.getD_eq_getD_getElem?]
  simp only [ByteArray.size]
  split <;> rfl
theorem byteAt_pad (s : ByteArray) (i : Nat) : byteAt (pad s) i = byteAt s i := by
  unfold pad; split
  · rw [byteAt_append]; split
    · rfl
    · rename_i h
      have h1 : byteAt s i = 0 := by unfold byteAt; rw [Array.getD_eq_getD_getElem?, Array.getElem?_eq_none (by simp only [ByteArray.size] at h; omega)]; rfl
      rw [h1]; unfold byteAt
      by_cases h2 : i - s.size = 0
      · rw [h2]; rfl
      · rw [Array.getD_eq_getD_getElem?, Array.getElem?_eq_none (by simp; omega)]; rfl
  · rfl
theorem beV_pad (s : ByteArray) (a n : Nat) : beV (pad s) a n = beV s a n := by
  induction n with
  | zero => rfl
  | succ n ih => simp only [beV, ih, byteAt_pad]
theorem words_it (b : Nat) (s : ByteArray) (hs : s.size < 2 ^ 60) : IterT (wordsF b) [.pt b (.cells #[.string s] 9)] (fun _ _ => True) ((List.range (nwords s)).map (wordV s)) := by
  refine ⟨_, _, _, rfl, fun l J E hJ hE stJ stE hy w0 h0 => ?_⟩
  refine ce_sum_words_c1 (mk_sum_words_c1 (TW.at (κ := true) ?_ (hJ _ _ _ h0).1))
  unfold sh_sum_words_c1
  have hp := pad_size s
  have hnw : nwords s ≤ s.size := by unfold nwords; omega
  have key : ∀ Lp : WP, TW true (foots [Res.pt b (.cells #[.string s] 9)]) w0 [.pt b (.cells #[.string (pad s)] 9)] Lp → (if s.size % 2 = 1 then TW true (foots [Res.pt b (.cells #[.string s] 9)]) w0 [.pt b (.cells #[.string (s ++ ByteArray.mk #[0])] 9)] Lp else TW true (foots [Res.pt b (.cells #[.string s] 9)]) w0 [.pt b (.cells #[.string s] 9)] Lp) := by
    intro Lp h; unfold pad at h; split <;> simp_all
  have hrem : ((s.size : Int).tmod 2 = 1) = (s.size % 2 = 1) := by
    rw [Int.tmod_eq_emod_of_nonneg (by omega)]; exact propext (by omega)
  have hadd : s.size + (ByteArray.mk #[0]).size ≤ 9223372036854775807 := by rw [show (ByteArray.mk #[0]).size = 1 from rfl]; omega
  (have hQq := trivial; repeat ((first | clear hQq | (with_reducible first | refine T_drw ?_ | refine T_bx fun _ => ?_ | refine s_al fun _ => ?_)); (try simp (disch := first | omega | assumption | ((repeat (first | exact mem_h | exact Up.here | apply mem_t | apply Up.there)); first | done | fail) | (simp; first | done | omega | fail)) [p_rem, p_addS, hrem])))
  refine key _ ?_
  clear key
  refine T_lpJ (fun i => i) (fun _ => [.pt b (.cells #[.string (pad s)] 9)]) (fun i => i ≤ nwords s) (fun i => nwords s - i) (fun i : Nat => .int .i64 (2 * (i : Int))) 0 hJ stJ h0 (Nat.zero_le _) fun i a hi hJi _ L hL => ?_
  by_cases hlt : i < nwords s
  · have h2 : 2 * (i : Int) < (pad s).size := by omega
    (have hQq := trivial; repeat ((first | clear hQq | (with_reducible first | refine T_drw ?_ | refine T_bx fun _ => ?_ | refine s_al fun _ => ?_)); (try simp (disch := first | omega | assumption | ((repeat (first | exact mem_h | exact Up.here | apply mem_t | apply Up.there)); first | done | fail) | (simp; first | done | omega | fail)) [h2])))
    refine T_cv ent_octet_Get (fun w' _ => Get_ok w' (pad s) (by omega) _ _) ?_
    have hg : getOk (pad s) (2 * (i : Int)) 2 = true := by simp only [getOk, decide_eq_true_eq]; omega
    have hv : getV (pad s) (2 * (i : Int)) 2 = (beV s (2 * i) 2 : Nat) := by
      unfold getV; rw [if_pos hg, beV_pad]; congr 2
    rw [hv, hg]
    (have hQq := trivial; repeat ((first | clear hQq | (with_reducible first | refine T_drw ?_ | refine T_bx fun _ => ?_ | refine s_al fun _ => ?_)); (try simp (disch := first | omega | assumption | ((repeat (first | exact mem_h | exact Up.here | apply mem_t | apply Up.there)); first | done | fail) | (simp; first | done | omega | fail)) [])))
    refine T_yie hJ hE stJ hy hJi (by simpa using hlt) (by simp [wordV]) (fun w3 h => ?_) (fun w3 h => ?_)
    · (have hQq := trivial; repeat ((first | clear hQq | (with_reducible first | refine T_drw ?_ | refine T_bx fun _ => ?_ | refine s_al fun _ => ?_)); (try simp (disch := first | omega | assumption | ((repeat (first | exact mem_h | exact Up.here | apply mem_t | apply Up.there)); first | done | fail) | (simp; first | done | omega | fail)) [])))
      intro w' hw'
      have := hL (i + 1) w' hlt (by omega) (stJ _ _ _ _ _ h hw')
      simpa [Int.mul_add] using this
    · (have hQq := trivial; repeat ((first | clear hQq | (with_reducible first | refine T_drw ?_ | refine T_bx fun _ => ?_ | refine s_al fun _ => ?_)); (try simp (disch := first | omega | assumption | ((repeat (first | exact mem_h | exact Up.here | apply mem_t | apply Up.there)); first | done | fail) | (simp; first | done | omega | fail)) [])))
      exact T_endE stE h
  · have h2 : ¬ 2 * (i : Int) < (pad s).size := by omega
    obtain rfl : i = nwords s := by omega
    (have hQq := trivial; repeat ((first | clear hQq | (with_reducible first | refine T_drw ?_ | refine T_bx fun _ => ?_ | refine s_al fun _ => ?_)); (try simp (disch := first | omega | assumption | ((repeat (first | exact mem_h | exact Up.here | apply mem_t | apply Up.there)); first | done | fail) | (simp; first | done | omega | fail)) [h2])))
    exact T_endJ stJ (by simpa using hJi)
def sumW (s : ByteArray) : Nat → Nat
  | 0 => 0
  | i + 1 => sumW s i + beV s (2 * i) 2
/-- what is left as the carries are put to the sum -/
def fld (n : Nat) : Nat := if n = 0 then 0 else (n - 1) % 65535 + 1
def foldV (s : ByteArray) : Nat := fld (sumW s (nwords s))
theorem fld_step (n : Nat) : fld (n / 65536 + n % 65536) = fld n := by
  unfold fld
  have h := Nat.div_add_mod n 65536
  by_cases h0 : n = 0
  · subst h0; rfl
  · rw [if_neg (by omega), if_neg h0]; omega
theorem fld_small {n : Nat} (h : n ≤ 65535) : fld n = n := by unfold fld; split <;> omega
theorem fld_lt (n : Nat) : fld n ≤ 65535 := by unfold fld; split <;> omega
theorem sumW_lt (s : ByteArray) (i : Nat) : sumW s i ≤ i * 65535 := by
  induction i with
  | zero => simp [sumW]
  | succ i ih => have := beV_lt s (2 * i) 2; simp only [sumW]; omega
theorem and_mask (n : Nat) (h : n < 2 ^ 64) : IntKind.u64.wrap ((n % 2 ^ IntKind.u64.bits &&& 65535 % 2 ^ IntKind.u64.bits : Nat) : Int) = ((n % 65536 : Nat) : Int) := by
  rw [show (2 : Nat) ^ IntKind.u64.bits = 2 ^ 64 from rfl, Nat.mod_eq_of_lt h, show 65535 % 2 ^ 64 = 2 ^ 16 - 1 from rfl, Nat.and_two_pow_sub_one_eq_mod]
  exact wrapu64 (by omega) (by omega)
theorem Fold_ok (w : World) (s : ByteArray) (hs : s.size < 2 ^ 40) : Fn PR NoX 185 #[.string s] w (fun v w' => v = .int .i64 (foldV s : Nat) ∧ But [] w w') := by
  refine Fn.pure (mk_sum_Fold (TW.go (κ := false) (S := []) ?_))
  unfold sh_sum_Fold
  (have hQq := trivial; repeat ((first | clear hQq | (with_reducible first | refine T_drw ?_ | refine T_bx fun _ => ?_ | refine s_al fun _ => ?_)); (try simp (disch := first | omega | assumption | ((repeat (first | exact mem_h | exact Up.here | apply mem_t | apply Up.there)); first | done | fail) | (simp; first | done | omega | fail)) [])))
  rename_i bn
  refine T_cn ent_sum_words (fun w' _ => words_ok w' s) ?_
  rintro b v rfl
  have hnw : nwords s ≤ 2 ^ 39 := by unfold nwords; omega
  refine T_rng (words_it b s (by omega)) (by simp [wordV]) (fun _ (_ : Unit) => True) (fun i _ => [.pt bn (.cells #[.int .u64 ((sumW s i : Nat) : Int)] 68)]) (fun _ (_ : Unit) => False) (fun _ => []) () trivial ?_ ?_ ?_ ?_
  · intros; trivial
  · rintro i hi _ F _ K' hK _
    have hi' : i < nwords s := by simpa using hi
    have h1 := sumW_lt s i
    have h2 := beV_lt s (2 * i) 2
    simp only [List.getElem_map, List.getElem_range, wordV, VF.app]
    (have hQq := trivial; repeat ((first | clear hQq | (with_reducible first | refine T_drw ?_ | refine T_bx fun _ => ?_ | refine s_al fun _ => ?_)); (try simp (disch := first | omega | assumption | ((repeat (first | exact mem_h | exact Up.here | apply mem_t | apply Up.there)); first | done | fail) | (simp; first | done | omega | fail)) [])))
    refine TW.eqH ?_ (hK () trivial)
    simp [sumW]
  · rintro _ _
    (have hQq := trivial; repeat ((first | clear hQq | (with_reducible first | refine T_drw ?_ | refine T_bx fun _ => ?_ | refine s_al fun _ => ?_)); (try simp (disch := first | omega | assumption | ((repeat (first | exact mem_h | exact Up.here | apply mem_t | apply Up.there)); first | done | fail) | (simp; first | done | omega | fail)) [])))
    refine T_lp0 (fun n : Nat => [.pt bn (.cells #[.int .u64 (n : Int)] 68)]) (fun n => fld n = foldV s ∧ n < 2 ^ 63) (fun n => n) _ ⟨by simp [foldV], by have := sumW_lt s (nwords s); simp; omega⟩ ?_
    rintro n ⟨h1, h2⟩ L hL
    by_cases h3 : n ≤ 65535
    · have h4 : (n : Int) ≤ 65535 := by omega
      (have hQq := trivial; repeat ((first | clear hQq | (with_reducible first | refine T_drw ?_ | refine T_bx fun _ => ?_ | refine s_al fun _ => ?_)); (try simp (disch := first | omega | assumption | ((repeat (first | exact mem_h | exact Up.here | apply mem_t | apply Up.there)); first | done | fail) | (simp; first | done | omega | fail)) [h4])))
      rw [fld_small h3] at h1
      exact T_ret (by rw [h1])
    · have h4 : ¬ (n : Int) ≤ 65535 := by omega
      have e1 : (n : Int).fdiv (2 ^ min 16 IntKind.u64.bits) = (n / 65536 : Nat) := by rw [show (2 : Int) ^ min 16 IntKind.u64.bits = 65536 from rfl, Int.fdiv_eq_ediv_of_nonneg _ (by omega)]; omega
      (have hQq := trivial; repeat ((first | clear hQq | (with_reducible first | refine T_drw ?_ | refine T_bx fun _ => ?_ | refine s_al fun _ => ?_)); (try simp (disch := first | omega | assumption | ((repeat (first | exact mem_h | exact Up.here | apply mem_t | apply Up.there)); first | done | fail) | (simp; first | done | omega | fail)) [h4])))
      refine TW.eqH ?_ (hL (n / 65536 + n % 65536) ⟨by rw [fld_step]; exact h1, by omega⟩ (by omega))
      rw [e1, and_mask n (by omega), wrapu64 (by omega) (by omega)]; simp
  · rintro _ _ h; exact h.elim
def sumV (s : ByteArray) : Int := 65535 - foldV s
theorem Sum_ok (w : World) (s : ByteArray) (hs : s.size < 2 ^ 40) : Fn PR NoX 152 #[.string s] w (fun v w' => v = .int .i64 (sumV s) ∧ But [] w w') := by
  refine Fn.pure (mk_sum_Sum (TW.go (κ := false) (S := []) ?_))
  unfold sh_sum_Sum
  refine T_cv ent_sum_Fold (fun w' _ => Fold_ok w' s hs) ?_
  have := fld_lt (sumW s (nwords s))
  have h2 : ((foldV s : Nat) : Int) ≤ 65535 := by unfold foldV; omega
  (have hQq := trivial; repeat ((first | clear hQq | (with_reducible first | refine T_drw ?_ | refine T_bx fun _ => ?_ | refine s_al fun _ => ?_)); (try simp (disch := first | omega | assumption | ((repeat (first | exact mem_h | exact Up.here | apply mem_t | apply Up.there)); first | done | fail) | (simp; first | done | omega | fail)) [])))
  exact T_ret rfl
theorem Good_ok (w : World) (s : ByteArray) (hs : s.size < 2 ^ 40) : Fn PR NoX 211 #[.string s] w (fun v w' => v = .bool (decide (foldV s = 65535)) ∧ But [] w w') := by
  refine Fn.pure (mk_sum_Good (TW.go (κ := false) (S := []) ?_))
  unfold sh_sum_Good
  refine T_cv ent_sum_Fold (fun w' _ => Fold_ok w' s hs) ?_
  (have hQq := trivial; repeat ((first | clear hQq | (with_reducible first | refine T_drw ?_ | refine T_bx fun _ => ?_ | refine s_al fun _ => ?_)); (try simp (disch := first | omega | assumption | ((repeat (first | exact mem_h | exact Up.here | apply mem_t | apply Up.there)); first | done | fail) | (simp; first | done | omega | fail)) [])))
  exact T_ret (by simp; omega)
end Go.Proofs.YtggakcpabomliaaGreat
namespace Go.Proofs.YtggakcpabomliaaGreat
open Go
/-- a field of a head: 0, if it is not there -/
def gv (s : ByteArray) (a n : Nat) : Nat := if a + n ≤ s.size then beV s a n else 0
theorem getV_gv (s : ByteArray) (a n : Nat) (h1 : 1 ≤ n) (h8 : n ≤ 8) : getV s a n = gv s a n := by
  unfold getV gv
  by_cases h : a + n ≤ s.size
  · rw [if_pos (by simp only [getOk, decide_eq_true_eq]; omega), if_pos h]; simp
  · rw [if_neg (by simp only [getOk, decide_eq_true_eq]; omega), if_neg h]; rfl
theorem gv_lt1 (s : ByteArray) (a : Nat) : gv s a 1 < 256 := by
  unfold gv; split
  · exact beV_lt s a 1
  · omega
theorem gv_lt2 (s : ByteArray) (a : Nat) : gv s a 2 < 65536 := by
  unfold gv; split
  · exact beV_lt s a 2
  · omega
theorem field_ok (w : World) (s : ByteArray) (hs : s.size < 2 ^ 40) (b a n : Nat) (h1 : 1 ≤ n) (h2 : n ≤ 2) (hc : w.cell? ⟨b, 0, none⟩ = some (.string s)) :
    Fn PR NoX 205 #[.int .i64 (a : Int), .int .i64 (n : Int), .pointer (some ⟨b, 0, none⟩)] w (fun v w' => v = .int .i64 (gv s a n : Nat) ∧ But [] w w') := by
  refine Fn.pure (mk_ip4_Parse_c1 (TW.go (κ := false) (S := []) ?_))
  unfold sh_ip4_Parse_c1
  (have hQq := trivial; repeat ((first | clear hQq | (with_reducible first | refine T_drw ?_ | refine T_bx fun _ => ?_ | refine s_al fun _ => ?_ | refine s_bs0 fun _ => ?_ | refine s_bs1 (hK := fun _ => ?_) | refine s_bs2 (hK := fun _ => ?_) | refine s_bs3 (hK := fun _ => ?_) | refine s_bs5 (hK := fun _ => ?_) | refine s_bs6 (hK := fun _ => ?_))); (try simp (disch := first | omega | assumption | ((repeat (first | exact mem_h | exact Up.here | apply mem_t | apply Up.there)); first | done | fail) | (simp; first | done | omega | fail)) [hc])))
  refine T_cv ent_octet_Get (fun w' _ => Get_ok w' s (by omega) _ _) ?_
  rw [getV_gv s a n h1 (by omega)]
  have hlt : gv s a n < 65536 := by
    obtain rfl | rfl : n = 1 ∨ n = 2 := by omega
    · have := gv_lt1 s a; omega
    · exact gv_lt2 s a
  (have hQq := trivial; repeat ((first | clear hQq | (with_reducible first | refine T_drw ?_ | refine T_bx fun _ => ?_ | refine s_al fun _ => ?_ | refine s_bs0 fun _ => ?_ | refine s_bs1 (hK := fun _ => ?_) | refine s_bs2 (hK := fun _ => ?_) | refine s_bs3 (hK := fun _ => ?_) | refine s_bs5 (hK := fun _ => ?_) | refine s_bs6 (hK := fun _ => ?_))); (try simp (disch := first | omega | assumption | ((repeat (first | exact mem_h | exact Up.here | apply mem_t | apply Up.there)); first | done | fail) | (simp; first | done | omega | fail)) [])))
  exact T_ret rfl
theorem field01 (w : World) (s : ByteArray) (hs : s.size < 2 ^ 40) (b : Nat) (hc : w.cell? ⟨b, 0, none⟩ = some (.string s)) :
    Fn PR NoX 205 #[.int .i64 0, .int .i64 1, .pointer (some ⟨b, 0, none⟩)] w (fun v w' => v = .int .i64 (gv s 0 1 : Nat) ∧ But [] w w') := field_ok w s hs b 0 1 (by omega) (by omega) hc
theorem field22 (w : World) (s : ByteArray) (hs : s.size < 2 ^ 40) (b : Nat) (hc : w.cell? ⟨b, 0, none⟩ = some (.string s)) :
    Fn PR NoX 205 #[.int .i64 2, .int .i64 2, .pointer (some ⟨b, 0, none⟩)] w (fun v w' => v = .int .i64 (gv s 2 2 : Nat) ∧ But [] w w') := field_ok w s hs b 2 2 (by omega) (by omega) hc
theorem field91 (w : World) (s : ByteArray) (hs : s.size < 2 ^ 40) (b : Nat) (hc : w.cell? ⟨b, 0, none⟩ = some (.string s)) :
    Fn PR NoX 205 #[.int .i64 9, .int .i64 1, .pointer (some ⟨b, 0, none⟩)] w (fun v w' => v = .int .i64 (gv s 9 1 : Nat) ∧ But [] w w') := field_ok w s hs b 9 1 (by omega) (by omega) hc
/-- a look: a question, its error, what it comes to -/
def lookC (x : Value × Int × Bool) : List Value := [x.1, .int .i64 x.2.1]
def firstE (l : List (Value × Int × Bool)) : Int := match l.find? (·.2.2) with | some x => x.2.1 | none => 0
theorem firstE_none {l : List (Value × Int × Bool)} (h : ∀ i (hi : i < l.length), l[i].2.2 = false) : firstE l = 0 := by
  have : l.find? (·.2.2) = none := by
    rw [List.find?_eq_none]; intro x hx; obtain ⟨i, hi, rfl⟩ := List.getElem_of_mem hx; simp [h i hi]
  simp [firstE, this]
theorem firstE_some {l : List (Value × Int × Bool)} {i : Nat} (hi : i < l.length) (hp : l[i].2.2 = true) (h : ∀ j (hj : j < i), (l[j]'(by omega)).2.2 = false) : firstE l = l[i].2.1 := by
  have : l.find? (·.2.2) = some l[i] := by
    rw [List.find?_eq_some_iff_getElem]
    exact ⟨hp, i, hi, rfl, fun j hj => by simp [h j hj]⟩
  simp [firstE, this]
theorem first_ok (w : World) (v : Value) (l : List (Value × Int × Bool)) (hl : l.length < 1000) (hv : Rd1 w v l.length (l.flatMap lookC))
    (hg : ∀ i (hi : i < l.length), (∀ j (hj : j < i), (l[j]'(by omega)).2.2 = false) → ∃ f cap, l[i].1 = .func (.func f) #[] cap ∧ Enters PR f ∧ ∀ w', KS false [] w w' → Fn PR NoX f cap w' (fun v w'' => v = .bool l[i].2.2 ∧ But [] w' w'')) :
    Fn PR NoX 206 #[v] w (fun u w' => u = .int .i64 (firstE l) ∧ But [] w w') := by
  refine Fn.pure (mk_ip4_first (TW.go (κ := false) (S := []) ?_))
  unfold sh_ip4_first
  obtain ⟨a, c, rfl, hrow⟩ := hv.form
  (have hQq := trivial; repeat ((first | clear hQq | (with_reducible first | refine T_drw ?_ | refine T_bx fun _ => ?_ | refine s_al fun _ => ?_ | refine s_bs0 fun _ => ?_ | refine s_bs1 (hK := fun _ => ?_) | refine s_bs2 (hK := fun _ => ?_) | refine s_bs3 (hK := fun _ => ?_) | refine s_bs5 (hK := fun _ => ?_) | refine s_bs6 (hK := fun _ => ?_))); (try simp (disch := first | omega | assumption | ((repeat (first | exact mem_h | exact Up.here | apply mem_t | apply Up.there)); first | done | fail) | (simp; first | done | omega | fail)) [])))
  refine T_for1 (α := Unit) l.length (fun _ _ => .int .i64 0) (fun _ _ => []) (fun i _ => ∀ j (hj : j < i), ∀ (h : j < l.length), l[j].2.2 = false) () (by intro j hj; omega) ?_
  rintro i _ hi hpre L hL
  by_cases hlt : i < l.length
  · obtain ⟨b, o, rfl, hr⟩ := hrow (by omega)
    have hx : l[i]? = some l[i] := List.getElem?_eq_getElem hlt
    have hrn := hr.at (f := lookC) (k := 2) (fun _ => rfl) hx
    have hpre' : ∀ j (hj : j < i), (l[j]'(by omega)).2.2 = false := fun j hj => hpre j hj (by omega)
    obtain ⟨f, cap, he, hent, hcall⟩ := hg i hlt hpre'
    rw [lookC, he] at hrn
    (have hQq := trivial; repeat ((first | clear hQq | (with_reducible first | refine T_drw ?_ | refine T_bx fun _ => ?_ | refine s_al fun _ => ?_ | refine s_bs0 fun _ => ?_ | refine s_bs1 (hK := fun _ => ?_) | refine s_bs2 (hK := fun _ => ?_) | refine s_bs3 (hK := fun _ => ?_) | refine s_bs5 (hK := fun _ => ?_) | refine s_bs6 (hK := fun _ => ?_))); (try simp (disch := first | omega | assumption | ((repeat (first | exact mem_h | exact Up.here | apply mem_t | apply Up.there)); first | done | fail) | (simp; first | done | omega | fail)) [hlt, hrn])))
    refine T_c0 hent (φ := fun v => v = .bool l[i].2.2) (fun w' hw' => by simpa using hcall w' hw'.ks) ?_
    rintro _ rfl
    cases hb : l[i].2.2 with
    | true =>
      (have hQq := trivial; repeat ((first | clear hQq | (with_reducible first | refine T_drw ?_ | refine T_bx fun _ => ?_ | refine s_al fun _ => ?_ | refine s_bs0 fun _ => ?_ | refine s_bs1 (hK := fun _ => ?_) | refine s_bs2 (hK := fun _ => ?_) | refine s_bs3 (hK := fun _ => ?_) | refine s_bs5 (hK := fun _ => ?_) | refine s_bs6 (hK := fun _ => ?_))); (try simp (disch := first | omega | assumption | ((repeat (first | exact mem_h | exact Up.here | apply mem_t | apply Up.there)); first | done | fail) | (simp; first | done | omega | fail)) [])))
      exact T_ret (by rw [firstE_some hlt hb hpre'])
    | false =>
      (have hQq := trivial; repeat ((first | clear hQq | (with_reducible first | refine T_drw ?_ | refine T_bx fun _ => ?_ | refine s_al fun _ => ?_ | refine s_bs0 fun _ => ?_ | refine s_bs1 (hK := fun _ => ?_) | refine s_bs2 (hK := fun _ => ?_) | refine s_bs3 (hK := fun _ => ?_) | refine s_bs5 (hK := fun _ => ?_) | refine s_bs6 (hK := fun _ => ?_))); (try simp (disch := first | omega | assumption | ((repeat (first | exact mem_h | exact Up.here | apply mem_t | apply Up.there)); first | done | fail) | (simp; first | done | omega | fail)) [])))
      refine Sels.tw .nil (hL hlt () ?_)
      intro j hj h
      by_cases hji : j = i
      · subst hji; exact hb
      · exact hpre j (by omega) h
  · obtain rfl : i = l.length := by omega
    (have hQq := trivial; repeat ((first | clear hQq | (with_reducible first | refine T_drw ?_ | refine T_bx fun _ => ?_ | refine s_al fun _ => ?_ | refine s_bs0 fun _ => ?_ | refine s_bs1 (hK := fun _ => ?_) | refine s_bs2 (hK := fun _ => ?_) | refine s_bs3 (hK := fun _ => ?_) | refine s_bs5 (hK := fun _ => ?_) | refine s_bs6 (hK := fun _ => ?_))); (try simp (disch := first | omega | assumption | ((repeat (first | exact mem_h | exact Up.here | apply mem_t | apply Up.there)); first | done | fail) | (simp; first | done | omega | fail)) [])))
    exact T_ret (by rw [firstE_none fun j hj => hpre j hj hj])
/-- a head of version 4, and what it holds; or an error -/
structure HeadV where
  src : ByteArray
  dst : ByteArray
  proto : Nat
  rest : ByteArray
  e : Nat
abbrev noB : ByteArray := ByteArray.mk #[]
def HeadV.err (e : Nat) : HeadV := ⟨noB, noB, 0, noB, e⟩
def HeadV.val (h : HeadV) : Value := .tuple #[.agg #[.string h.src, .string h.dst, .int .i64 h.proto], .string h.rest, .int .i64 h.e]
def ip4L (s : ByteArray) : Nat := gv s 0 1 % 16 * 4
def ip4E (s : ByteArray) : Nat := if s.size < 20 then 2 else if gv s 0 1 / 16 ≠ 4 then 3 else if ip4L s < 20 ∨ s.size < ip4L s ∨ gv s 2 2 < ip4L s ∨ s.size < gv s 2 2 then 4
  else if foldV (s.extract 0 (ip4L s)) ≠ 65535 then 5 else if gv s 6 2 % 16384 ≠ 0 then 6 else 0
def ip4V (s : ByteArray) : HeadV := if ip4E s = 0 then ⟨s.extract 12 16, s.extract 16 20, gv s 9 1, s.extract (ip4L s) (gv s 2 2), 0⟩ else .err (ip4E s)
theorem and15 (n : Nat) (h : n < 256) : IntKind.i64.wrap ((n % 2 ^ IntKind.i64.bits &&& 15 % 2 ^ IntKind.i64.bits : Nat) : Int) = ((n % 16 : Nat) : Int) := by
  rw [show (2 : Nat) ^ IntKind.i64.bits = 2 ^ 64 from rfl, Nat.mod_eq_of_lt (by omega), show 15 % 2 ^ 64 = 2 ^ 4 - 1 from rfl, Nat.and_two_pow_sub_one_eq_mod]
  exact wrap64 (by omega) (by omega)
theorem and14 (n : Nat) (h : n < 65536) : IntKind.i64.wrap ((n % 2 ^ IntKind.i64.bits &&& 16383 % 2 ^ IntKind.i64.bits : Nat) : Int) = ((n % 16384 : Nat) : Int) := by
  rw [show (2 : Nat) ^ IntKind.i64.bits = 2 ^ 64 from rfl, Nat.mod_eq_of_lt (by omega), show 16383 % 2 ^ 64 = 2 ^ 14 - 1 from rfl, Nat.and_two_pow_sub_one_eq_mod]
  exact wrap64 (by omega) (by omega)
section
variable (w : World) (s : ByteArray) (hs : s.size < 2 ^ 40) (b1 b5 b6 b7 : Nat) (h1 : w.cell? ⟨b1, 0, none⟩ = some (.string s)) (h5 : w.cell? ⟨b5, 0, none⟩ = some (.func (.func 205) #[] #[.pointer (some ⟨b1, 0, none⟩)]))
  (h6 : w.cell? ⟨b6, 0, none⟩ = some (.int .i64 (ip4L s : Nat))) (h7 : w.cell? ⟨b7, 0, none⟩ = some (.int .i64 (gv s 2 2 : Nat)))
include h1
theorem look1 : Fn PR NoX 207 #[.pointer (some ⟨b1, 0, none⟩)] w (fun v w' => v = .bool (decide (s.size < 20)) ∧ But [] w w') := by
  refine Fn.pure (mk_ip4_Parse_c2 (TW.go (κ := false) (S := []) ?_))
  unfold sh_ip4_Parse_c2
  (have hQq := trivial; repeat ((first | clear hQq | (with_reducible first | refine T_drw ?_ | refine T_bx fun _ => ?_ | refine s_al fun _ => ?_ | refine s_bs0 fun _ => ?_ | refine s_bs1 (hK := fun _ => ?_) | refine s_bs2 (hK := fun _ => ?_) | refine s_bs3 (hK := fun _ => ?_) | refine s_bs5 (hK := fun _ => ?_) | refine s_bs6 (hK := fun _ => ?_))); (try simp (disch := first | omega | assumption | ((repeat (first | exact mem_h | exact Up.here | apply mem_t | apply Up.there)); first | done | fail) | (simp; first | done | omega | fail)) [h1])))
  exact T_ret (by simp; omega)
include hs h5
theorem look2 : Fn PR NoX 208 #[.pointer (some ⟨b5, 0, none⟩)] w (fun v w' => v = .bool (decide (gv s 0 1 / 16 ≠ 4)) ∧ But [] w w') := by
  refine Fn.pure (mk_ip4_Parse_c3 (TW.go (κ := false) (S := []) ?_))
  unfold sh_ip4_Parse_c3
  (have hQq := trivial; repeat ((first | clear hQq | (with_reducible first | refine T_drw ?_ | refine T_bx fun _ => ?_ | refine s_al fun _ => ?_ | refine s_bs0 fun _ => ?_ | refine s_bs1 (hK := fun _ => ?_) | refine s_bs2 (hK := fun _ => ?_) | refine s_bs3 (hK := fun _ => ?_) | refine s_bs5 (hK := fun _ => ?_) | refine s_bs6 (hK := fun _ => ?_))); (try simp (disch := first | omega | assumption | ((repeat (first | exact mem_h | exact Up.here | apply mem_t | apply Up.there)); first | done | fail) | (simp; first | done | omega | fail)) [h1, h5])))
  refine T_cv ent_ip4_Parse_c1 (fun w' hw' => field_ok w' s hs b1 0 1 (by omega) (by omega) (hw'.ks.cell (by simp) h1)) ?_
  have e1 : ((gv s 0 1 : Nat) : Int).fdiv (2 ^ min 4 IntKind.i64.bits) = (gv s 0 1 / 16 : Nat) := by rw [show (2 : Int) ^ min 4 IntKind.i64.bits = 16 from rfl, Int.fdiv_eq_ediv_of_nonneg _ (by omega)]; omega
  (have hQq := trivial; repeat ((first | clear hQq | (with_reducible first | refine T_drw ?_ | refine T_bx fun _ => ?_ | refine s_al fun _ => ?_ | refine s_bs0 fun _ => ?_ | refine s_bs1 (hK := fun _ => ?_) | refine s_bs2 (hK := fun _ => ?_) | refine s_bs3 (hK := fun _ => ?_) | refine s_bs5 (hK := fun _ => ?_) | refine s_bs6 (hK := fun _ => ?_))); (try simp (disch := first | omega | assumption | ((repeat (first | exact mem_h | exact Up.here | apply mem_t | apply Up.there)); first | done | fail) | (simp; first | done | omega | fail)) [])))
  rw [e1]
  exact T_ret (by simp; omega)
theorem look5 : Fn PR NoX 212 #[.pointer (some ⟨b5, 0, none⟩)] w (fun v w' => v = .bool (decide (gv s 6 2 % 16384 ≠ 0)) ∧ But [] w w') := by
  refine Fn.pure (mk_ip4_Parse_c6 (TW.go (κ := false) (S := []) ?_))
  unfold sh_ip4_Parse_c6
  (have hQq := trivial; repeat ((first | clear hQq | (with_reducible first | refine T_drw ?_ | refine T_bx fun _ => ?_ | refine s_al fun _ => ?_ | refine s_bs0 fun _ => ?_ | refine s_bs1 (hK := fun _ => ?_) | refine s_bs2 (hK := fun _ => ?_) | refine s_bs3 (hK := fun _ => ?_) | refine s_bs5 (hK := fun _ => ?_) | refine s_bs6 (hK := fun _ => ?_))); (try simp (disch := first | omega | assumption | ((repeat (first | exact mem_h | exact Up.here | apply mem_t | apply Up.there)); first | done | fail) | (simp; first | done | omega | fail)) [h1, h5])))
  refine T_cv ent_ip4_Parse_c1 (fun w' hw' => field_ok w' s hs b1 6 2 (by omega) (by omega) (hw'.ks.cell (by simp) h1)) ?_
  have := gv_lt2 s 6
  (have hQq := trivial; repeat ((first | clear hQq | (with_reducible first | refine T_drw ?_ | refine T_bx fun _ => ?_ | refine s_al fun _ => ?_ | refine s_bs0 fun _ => ?_ | refine s_bs1 (hK := fun _ => ?_) | refine s_bs2 (hK := fun _ => ?_) | refine s_bs3 (hK := fun _ => ?_) | refine s_bs5 (hK := fun _ => ?_) | refine s_bs6 (hK := fun _ => ?_))); (try simp (disch := first | omega | assumption | ((repeat (first | exact mem_h | exact Up.here | apply mem_t | apply Up.there)); first | done | fail) | (simp; first | done | omega | fail)) [])))
  rw [and14 _ this]
  exact T_ret (by simp; omega)
omit h5
include h6
theorem look4 (hl : ip4L s ≤ s.size) : Fn PR NoX 210 #[.pointer (some ⟨b1, 0, none⟩), .pointer (some ⟨b6, 0, none⟩)] w (fun v w' => v = .bool (decide (foldV (s.extract 0 (ip4L s)) ≠ 65535)) ∧ But [] w w') := by
  refine Fn.pure (mk_ip4_Parse_c5 (TW.go (κ := false) (S := []) ?_))
  unfold sh_ip4_Parse_c5
  have hl' : ((ip4L s : Nat) : Int) ≤ s.size := by omega
  (have hQq := trivial; repeat ((first | clear hQq | (with_reducible first | refine T_drw ?_ | refine T_bx fun _ => ?_ | refine s_al fun _ => ?_ | refine s_bs0 fun _ => ?_ | refine s_bs1 (hK := fun _ => ?_) | refine s_bs2 (hK := fun _ => ?_) | refine s_bs3 (hK := fun _ => ?_) | refine s_bs5 (hK := fun _ => ?_) | refine s_bs6 (hK := fun _ => ?_))); (try simp (disch := first | omega | assumption | ((repeat (first | exact mem_h | exact Up.here | apply mem_t | apply Up.there)); first | done | fail) | (simp; first | done | omega | fail)) [h1, h6])))
  refine T_cv ent_sum_Good (fun w' hw' => Good_ok w' _ (by simp [ByteArray.size_extract]; omega)) ?_
  (have hQq := trivial; repeat ((first | clear hQq | (with_reducible first | refine T_drw ?_ | refine T_bx fun _ => ?_ | refine s_al fun _ => ?_ | refine s_bs0 fun _ => ?_ | refine s_bs1 (hK := fun _ => ?_) | refine s_bs2 (hK := fun _ => ?_) | refine s_bs3 (hK := fun _ => ?_) | refine s_bs5 (hK := fun _ => ?_) | refine s_bs6 (hK := fun _ => ?_))); (try simp (disch := first | omega | assumption | ((repeat (first | exact mem_h | exact Up.here | apply mem_t | apply Up.there)); first | done | fail) | (simp; first | done | omega | fail)) [])))
  exact T_ret (by simp)
include h7
theorem look3 : Fn PR NoX 209 #[.pointer (some ⟨b6, 0, none⟩), .pointer (some ⟨b1, 0, none⟩), .pointer (some ⟨b7, 0, none⟩)] w
    (fun v w' => v = .bool (decide (ip4L s < 20 ∨ s.size < ip4L s ∨ gv s 2 2 < ip4L s ∨ s.size < gv s 2 2)) ∧ But [] w w') := by
  have hs_ := hs
  refine Fn.pure (mk_ip4_Parse_c4 (TW.go (κ := false) (S := []) ?_))
  unfold sh_ip4_Parse_c4
  by_cases g1 : ip4L s < 20
  · have g1' : ((ip4L s : Nat) : Int) < 20 := by omega
    (have hQq := trivial; repeat ((first | clear hQq | (with_reducible first | refine T_drw ?_ | refine T_bx fun _ => ?_ | refine s_al fun _ => ?_ | refine s_bs0 fun _ => ?_ | refine s_bs1 (hK := fun _ => ?_) | refine s_bs2 (hK := fun _ => ?_) | refine s_bs3 (hK := fun _ => ?_) | refine s_bs5 (hK := fun _ => ?_) | refine s_bs6 (hK := fun _ => ?_))); (try simp (disch := first | omega | assumption | ((repeat (first | exact mem_h | exact Up.here | apply mem_t | apply Up.there)); first | done | fail) | (simp; first | done | omega | fail)) [h1, h6, h7, g1, g1'])))
    exact T_ret (by simp [g1])
  have g1' : ¬ ((ip4L s : Nat) : Int) < 20 := by omega
  by_cases g2 : s.size < ip4L s
  · have g2' : ((s.size : Nat) : Int) < ip4L s := by omega
    (have hQq := trivial; repeat ((first | clear hQq | (with_reducible first | refine T_drw ?_ | refine T_bx fun _ => ?_ | refine s_al fun _ => ?_ | refine s_bs0 fun _ => ?_ | refine s_bs1 (hK := fun _ => ?_) | refine s_bs2 (hK := fun _ => ?_) | refine s_bs3 (hK := fun _ => ?_) | refine s_bs5 (hK := fun _ => ?_) | refine s_bs6 (hK := fun _ => ?_))); (try simp (disch := first | omega | assumption | ((repeat (first | exact mem_h | exact Up.here | apply mem_t | apply Up.there)); first | done | fail) | (simp; first | done | omega | fail)) [h1, h6, h7, g1, g1', g2, g2'])))
    exact T_ret (by simp [g2])
  have g2' : ¬ ((s.size : Nat) : Int) < ip4L s := by omega
  by_cases g3 : gv s 2 2 < ip4L s
  · have g3' : ((gv s 2 2 : Nat) : Int) < ip4L s := by omega
    (have hQq := trivial; repeat ((first | clear hQq | (with_reducible first | refine T_drw ?_ | refine T_bx fun _ => ?_ | refine s_al fun _ => ?_ | refine s_bs0 fun _ => ?_ | refine s_bs1 (hK := fun _ => ?_) | refine s_bs2 (hK := fun _ => ?_) | refine s_bs3 (hK := fun _ => ?_) | refine s_bs5 (hK := fun _ => ?_) | refine s_bs6 (hK := fun _ => ?_))); (try simp (disch := first | omega | assumption | ((repeat (first | exact mem_h | exact Up.here | apply mem_t | apply Up.there)); first | done | fail) | (simp; first | done | omega | fail)) [h1, h6, h7, g1, g1', g2, g2', g3, g3'])))
    exact T_ret (by simp [g3])
  have g3' : ¬ ((gv s 2 2 : Nat) : Int) < ip4L s := by omega
  (have hQq := trivial; repeat ((first | clear hQq | (with_reducible first | refine T_drw ?_ | refine T_bx fun _ => ?_ | refine s_al fun _ => ?_ | refine s_bs0 fun _ => ?_ | refine s_bs1 (hK := fun _ => ?_) | refine s_bs2 (hK := fun _ => ?_) | refine s_bs3 (hK := fun _ => ?_) | refine s_bs5 (hK := fun _ => ?_) | refine s_bs6 (hK := fun _ => ?_))); (try simp (disch := first | omega | assumption | ((repeat (first | exact mem_h | exact Up.here | apply mem_t | apply Up.there)); first | done | fail) | (simp; first | done | omega | fail)) [h1, h6, h7, g1, g1', g2, g2', g3, g3'])))
  exact T_ret (by simp [g1, g2, g3])
end
theorem ip4Parse_ok (w : World) (s : ByteArray) (hs : s.size < 2 ^ 40) : Fn PR NoX 187 #[.string s] w (fun v w' => v = (ip4V s).val ∧ But [] w w') := by
  refine Fn.pure (mk_ip4_Parse (TW.go (κ := false) (S := []) ?_))
  unfold sh_ip4_Parse
  (have hQq := trivial; repeat ((first | clear hQq | (with_reducible first | refine T_drw ?_ | refine T_bx fun _ => ?_ | refine s_al fun _ => ?_ | refine s_bs0 fun _ => ?_ | refine s_bs1 (hK := fun _ => ?_) | refine s_bs2 (hK := fun _ => ?_) | refine s_bs3 (hK := fun _ => ?_) | refine s_bs5 (hK := fun _ => ?_) | refine s_bs6 (hK := fun _ => ?_))); (try simp (disch := first | omega | assumption | ((repeat (first | exact mem_h | exact Up.here | apply mem_t | apply Up.there)); first | done | fail) | (simp; first | done | omega | fail)) [])))
  rename_i b1 b2 b5
  refine T_kt2 (α := Nat × Nat) (fun _ => True) (fun x => [.pt x.1 (.cells #[.int .i64 (ip4L s : Nat)] 3), .pt x.2 (.cells #[.int .i64 (gv s 2 2 : Nat)] 3),
    .pt b5 (.cells #[.func (.func 205) #[] #[.pointer (some ⟨b1, 0, none⟩)]] 152), .pt b2 (.cells #[.string noB, .string noB, .int .i64 0] 166), .pt b1 (.cells #[.string s] 9)])
    (fun x => .pointer (some ⟨x.1, 0, none⟩)) (fun x => .pointer (some ⟨x.2, 0, none⟩)) ?_ ?_
  · rintro ⟨b6, b7⟩ _
    simp only
    (have hQq := trivial; repeat ((first | clear hQq | (with_reducible first | refine T_drw ?_ | refine T_bx fun _ => ?_ | refine s_al fun _ => ?_ | refine s_bs0 fun _ => ?_ | refine s_bs1 (hK := fun _ => ?_) | refine s_bs2 (hK := fun _ => ?_) | refine s_bs3 (hK := fun _ => ?_) | refine s_bs5 (hK := fun _ => ?_) | refine s_bs6 (hK := fun _ => ?_))); (try simp (disch := first | omega | assumption | ((repeat (first | exact mem_h | exact Up.here | apply mem_t | apply Up.there)); first | done | fail) | (simp; first | done | omega | fail)) [])))
    rename_i bl
    refine T_cv (u := .int .i64 (ip4E s : Nat)) ent_ip4_first (fun w' hw' => ?_) ?_
    · have h1 := hw'.cell1 (b := b1) (by ((repeat (first | exact mem_h | exact Up.here | exact Sel.here | apply mem_t | apply Up.there | apply Sel.there)); first | done | fail))
      have h5 := hw'.cell1 (b := b5) (by ((repeat (first | exact mem_h | exact Up.here | exact Sel.here | apply mem_t | apply Up.there | apply Sel.there)); first | done | fail))
      have h6 := hw'.cell1 (b := b6) (by ((repeat (first | exact mem_h | exact Up.here | exact Sel.here | apply mem_t | apply Up.there | apply Sel.there)); first | done | fail))
      have h7 := hw'.cell1 (b := b7) (by ((repeat (first | exact mem_h | exact Up.here | exact Sel.here | apply mem_t | apply Up.there | apply Sel.there)); first | done | fail))
      have hk : ∀ {w2 : World} {b : Nat} {v : Value}, KS false [] w' w2 → w'.cell? ⟨b, 0, none⟩ = some v → w2.cell? ⟨b, 0, none⟩ = some v := fun h e => h.cell (by simp) e
      have hE : firstE [(.func (.func 207) #[] #[.pointer (some ⟨b1, 0, none⟩)], 2, decide (s.size < 20)), (.func (.func 208) #[] #[.pointer (some ⟨b5, 0, none⟩)], 3, decide (gv s 0 1 / 16 ≠ 4)),
        (.func (.func 209) #[] #[.pointer (some ⟨b6, 0, none⟩), .pointer (some ⟨b1, 0, none⟩), .pointer (some ⟨b7, 0, none⟩)], 4, decide (ip4L s < 20 ∨ s.size < ip4L s ∨ gv s 2 2 < ip4L s ∨ s.size < gv s 2 2)),
        (.func (.func 210) #[] #[.pointer (some ⟨b1, 0, none⟩), .pointer (some ⟨b6, 0, none⟩)], 5, decide (foldV (s.extract 0 (ip4L s)) ≠ 65535)), (.func (.func 212) #[] #[.pointer (some ⟨b5, 0, none⟩)], 6, decide (gv s 6 2 % 16384 ≠ 0))] = (ip4E s : Nat) := by
        unfold firstE ip4E
        by_cases c1 : s.size < 20
        · simp [c1]
        by_cases c2 : gv s 0 1 / 16 ≠ 4
        · simp [c1, c2]
        by_cases c3 : ip4L s < 20 ∨ s.size < ip4L s ∨ gv s 2 2 < ip4L s ∨ s.size < gv s 2 2
        · simp [c1, c2, c3]
        by_cases c4 : foldV (s.extract 0 (ip4L s)) ≠ 65535
        · simp [c1, c2, c3, c4]
        by_cases c5 : gv s 6 2 % 16384 ≠ 0
        · simp [c1, c2, c3, c4, c5]
        · simp [c1, c2, c3, c4, c5]
      rw [← hE]
      refine first_ok w' _ _ (by simp) ?_ ?_
      · have := RdT.own (κ := false) (S := []) (w0 := w) (e := 300) (k := 2) (q := 5) (v := .slice (some ⟨bl, 0, none⟩) 5 5) (by ((repeat (first | exact mem_h | exact Up.here | exact Sel.here | apply mem_t | apply Up.there | apply Sel.there)); first | done | fail)) w' hw'
        simpa [lookC] using this
      · intro i hi hpre
        have hi' : i = 0 ∨ i = 1 ∨ i = 2 ∨ i = 3 ∨ i = 4 := by simp at hi; omega
        rcases hi' with rfl | rfl | rfl | rfl | rfl
        · exact ⟨_, _, rfl, ent_ip4_Parse_c2, fun w2 h => look1 w2 s b1 (hk h h1)⟩
        · exact ⟨_, _, rfl, ent_ip4_Parse_c3, fun w2 h => look2 w2 s hs b1 b5 (hk h h1) (hk h h5)⟩
        · exact ⟨_, _, rfl, ent_ip4_Parse_c4, fun w2 h => look3 w2 s hs b1 b6 b7 (hk h h1) (hk h h6) (hk h h7)⟩
        · have h2 := hpre 2 (by omega)
          simp only [List.getElem_cons_succ, List.getElem_cons_zero, decide_eq_false_iff_not] at h2
          exact ⟨_, _, rfl, ent_ip4_Parse_c5, fun w2 h => look4 w2 s hs b1 b6 (hk h h1) (hk h h6) (by omega)⟩
        · exact ⟨_, _, rfl, ent_ip4_Parse_c6, fun w2 h => look5 w2 s hs b1 b5 (hk h h1) (hk h h5)⟩
    · by_cases he : ip4E s = 0
      · have hE := he
        unfold ip4E at hE
        by_cases c1 : s.size < 20
        · simp [c1] at hE
        by_cases c2 : gv s 0 1 / 16 ≠ 4
        · simp [c1, c2] at hE
        by_cases c3 : ip4L s < 20 ∨ s.size < ip4L s ∨ gv s 2 2 < ip4L s ∨ s.size < gv s 2 2
        · simp [c1, c2, c3] at hE
        clear hE
        have hg91 := gv_lt1 s 9
        (have hQq := trivial; repeat ((first | clear hQq | (with_reducible first | refine T_drw ?_ | refine T_bx fun _ => ?_ | refine s_al fun _ => ?_ | refine s_bs0 fun _ => ?_ | refine s_bs1 (hK := fun _ => ?_) | refine s_bs2 (hK := fun _ => ?_) | refine s_bs3 (hK := fun _ => ?_) | refine s_bs5 (hK := fun _ => ?_) | refine s_bs6 (hK := fun _ => ?_))); (try simp (disch := first | omega | assumption | ((repeat (first | exact mem_h | exact Up.here | apply mem_t | apply Up.there)); first | done | fail) | (simp; first | done | omega | fail)) [he])))
        refine T_cv ent_ip4_Parse_c1 (fun w' hw' => field91 w' s hs b1 (hw'.cell1 (by ((repeat (first | exact mem_h | exact Up.here | exact Sel.here | apply mem_t | apply Up.there | apply Sel.there)); first | done | fail)))) ?_
        (have hQq := trivial; repeat ((first | clear hQq | (with_reducible first | refine T_drw ?_ | refine T_bx fun _ => ?_ | refine s_al fun _ => ?_ | refine s_bs0 fun _ => ?_ | refine s_bs1 (hK := fun _ => ?_) | refine s_bs2 (hK := fun _ => ?_) | refine s_bs3 (hK := fun _ => ?_) | refine s_bs5 (hK := fun _ => ?_) | refine s_bs6 (hK := fun _ => ?_))); (try simp (disch := first | omega | assumption | ((repeat (first | exact mem_h | exact Up.here | apply mem_t | apply Up.there)); first | done | fail) | (simp; first | done | omega | fail)) [])))
        exact T_ret (by simp [ip4V, he, HeadV.val])
      · (have hQq := trivial; repeat ((first | clear hQq | (with_reducible first | refine T_drw ?_ | refine T_bx fun _ => ?_ | refine s_al fun _ => ?_ | refine s_bs0 fun _ => ?_ | refine s_bs1 (hK := fun _ => ?_) | refine s_bs2 (hK := fun _ => ?_) | refine s_bs3 (hK := fun _ => ?_) | refine s_bs5 (hK := fun _ => ?_) | refine s_bs6 (hK := fun _ => ?_))); (try simp (disch := first | omega | assumption | ((repeat (first | exact mem_h | exact Up.here | apply mem_t | apply Up.there)); first | done | fail) | (simp; first | done | omega | fail)) [he])))
        exact T_ret (by simp [ip4V, he, HeadV.val, HeadV.err])
  · intro J hJ
    have hl := gv_lt1 s 0
    have e15 := and15 _ hl
    have em : ((gv s 0 1 : Nat) : Int) % 16 * 4 = (ip4L s : Nat) := by simp [ip4L]
    have hJ' := fun b6 b7 => hJ (b6, b7) trivial
    simp only at hJ'
    clear hJ
    iterate 16 all_goals (try (first
      | exact fun _ _ => trivial
      | with_reducible refine And.intro ?_ ?_
      | (with_reducible apply T_cv ent_ip4_Parse_c1); (first | with_reducible exact fun w' hw' => field01 w' s hs b1 (hw'.cell1 (by ((repeat (first | exact mem_h | exact Up.here | exact Sel.here | apply mem_t | apply Up.there | apply Sel.there)); first | done | fail))) | with_reducible exact fun w' hw' => field22 w' s hs b1 (hw'.cell1 (by ((repeat (first | exact mem_h | exact Up.here | exact Sel.here | apply mem_t | apply Up.there | apply Sel.there)); first | done | fail))))
      | with_reducible refine s_al fun _ => ?_
      | simp (disch := first | omega | assumption | ((repeat (first | exact mem_h | exact Up.here | apply mem_t | apply Up.there)); first | done | fail) | (simp; first | done | omega | fail)) [e15, em]
      | with_reducible exact Sels.tw (by ((repeat (first | exact Sels.nil | (apply Sels.cons; · ((repeat (first | exact mem_h | exact Up.here | exact Sel.here | apply mem_t | apply Up.there | apply Sel.there)); first | done | fail)))); first | done | fail)) (hJ' _ _)))
    all_goals trace_state
/-- a head of version 4, with a sum of its own -/
def ip4W (src dst : ByteArray) (proto : Int) (n : Nat) (own : Int) : ByteArray :=
  ByteArray.mk #[69, 0] ++ putV (20 + n) 2 ++ ByteArray.mk #[0, 0, 64, 0, 64] ++ putV proto 1 ++ putV own 2 ++ src ++ dst
theorem ip4with_ok (w : World) (src dst rest : ByteArray) (proto own : Int) (b1 b2 : Nat) (h1 : w.cell? ⟨b1, 0, none⟩ = some (.string rest)) (h2 : w.cell? ⟨b2, 0, none⟩ = some (.string src)) (h3 : w.cell? ⟨b2, 1, none⟩ = some (.string dst))
    (h4 : w.cell? ⟨b2, 2, none⟩ = some (.int .i64 proto)) (hr : rest.size ≤ 65515) (hs : src.size = 4) (hd : dst.size = 4) (hp0 : 0 ≤ proto) (hp : proto ≤ 255) (ho0 : 0 ≤ own) (ho : own ≤ 65535) :
    Fn PR NoX 150 #[.int .i64 own, .pointer (some ⟨b1, 0, none⟩), .pointer (some ⟨b2, 0, none⟩)] w (fun v w' => v = .string (ip4W src dst proto rest.size own) ∧ But [] w w') := by
  refine Fn.pure (mk_ip4_Put_c1 (TW.go (κ := false) (S := []) ?_))
  unfold sh_ip4_Put_c1
  (have hQq := trivial; repeat ((first | clear hQq | (with_reducible first | refine T_drw ?_ | refine T_bx fun _ => ?_ | refine s_al fun _ => ?_ | refine s_bs0 fun _ => ?_ | refine s_bs1 (hK := fun _ => ?_) | refine s_bs2 (hK := fun _ => ?_) | refine s_bs3 (hK := fun _ => ?_) | refine s_bs5 (hK := fun _ => ?_) | refine s_bs6 (hK := fun _ => ?_))); (try simp (disch := first | omega | assumption | ((repeat (first | exact mem_h | exact Up.here | apply mem_t | apply Up.there)); first | done | fail) | (simp; first | done | omega | fail)) [h1, h2, h3, h4])))
  refine T_cv ent_octet_Put (fun w' hw' => Put_ok w' _ _) ?_
  (have hQq := trivial; repeat ((first | clear hQq | (with_reducible first | refine T_drw ?_ | refine T_bx fun _ => ?_ | refine s_al fun _ => ?_ | refine s_bs0 fun _ => ?_ | refine s_bs1 (hK := fun _ => ?_) | refine s_bs2 (hK := fun _ => ?_) | refine s_bs3 (hK := fun _ => ?_) | refine s_bs5 (hK := fun _ => ?_) | refine s_bs6 (hK := fun _ => ?_))); (try simp (disch := first | omega | assumption | ((repeat (first | exact mem_h | exact Up.here | apply mem_t | apply Up.there)); first | done | fail) | (simp; first | done | omega | fail)) [h1, h2, h3, h4, p_addS])))
  refine T_cv ent_octet_Put (fun w' hw' => Put_ok w' _ _) ?_
  (have hQq := trivial; repeat ((first | clear hQq | (with_reducible first | refine T_drw ?_ | refine T_bx fun _ => ?_ | refine s_al fun _ => ?_ | refine s_bs0 fun _ => ?_ | refine s_bs1 (hK := fun _ => ?_) | refine s_bs2 (hK := fun _ => ?_) | refine s_bs3 (hK := fun _ => ?_) | refine s_bs5 (hK := fun _ => ?_) | refine s_bs6 (hK := fun _ => ?_))); (try simp (disch := first | omega | assumption | ((repeat (first | exact mem_h | exact Up.here | apply mem_t | apply Up.there)); first | done | fail) | (simp; first | done | omega | fail)) [h1, h2, h3, h4, p_addS])))
  refine T_cv ent_octet_Put (fun w' hw' => Put_ok w' _ _) ?_
  (have hQq := trivial; repeat ((first | clear hQq | (with_reducible first | refine T_drw ?_ | refine T_bx fun _ => ?_ | refine s_al fun _ => ?_ | refine s_bs0 fun _ => ?_ | refine s_bs1 (hK := fun _ => ?_) | refine s_bs2 (hK := fun _ => ?_) | refine s_bs3 (hK := fun _ => ?_) | refine s_bs5 (hK := fun _ => ?_) | refine s_bs6 (hK := fun _ => ?_))); (try simp (disch := first | omega | assumption | ((repeat (first | exact mem_h | exact Up.here | apply mem_t | apply Up.there)); first | done | fail) | (simp; first | done | omega | fail)) [h1, h2, h3, h4, p_addS, hs, hd])))
  exact T_ret rfl
/-- a head of version 4, and what it holds: bytes, error -/
def ip4P (src dst rest : ByteArray) (proto : Int) : ByteArray × Nat :=
  if src.size ≠ 4 ∨ dst.size ≠ 4 ∨ proto < 0 ∨ 255 < proto then (noB, 1) else if 65515 < rest.size then (noB, 4) else (ip4W src dst proto rest.size (sumV (ip4W src dst proto rest.size 0)) ++ rest, 0)
theorem ip4W_size {src dst : ByteArray} {proto own : Int} {n : Nat} (hs : src.size = 4) (hd : dst.size = 4) : (ip4W src dst proto n own).size = 20 := by simp [ip4W, hs, hd]
theorem sumV_lt (s : ByteArray) : 0 ≤ sumV s ∧ sumV s ≤ 65535 := by
  have := fld_lt (sumW s (nwords s)); unfold sumV foldV; omega
theorem ip4Put_ok (w : World) (src dst rest : ByteArray) (proto : Int) (hrs : rest.size < 2 ^ 40) :
    Fn PR NoX 103 #[.agg #[.string src, .string dst, .int .i64 proto], .string rest] w (fun v w' => v = .tuple #[.string (ip4P src dst rest proto).1, .int .i64 (ip4P src dst rest proto).2] ∧ But [] w w') := by
  refine Fn.pure (mk_ip4_Put (TW.go (κ := false) (S := []) ?_))
  unfold sh_ip4_Put
  by_cases c1 : src.size = 4
  case neg =>
    have c1' : ¬ (src.size : Int) = 4 := by omega
    (have hQq := trivial; repeat ((first | clear hQq | (with_reducible first | refine T_drw ?_ | refine T_bx fun _ => ?_ | refine s_al fun _ => ?_ | refine s_bs0 fun _ => ?_ | refine s_bs1 (hK := fun _ => ?_) | refine s_bs2 (hK := fun _ => ?_) | refine s_bs3 (hK := fun _ => ?_) | refine s_bs5 (hK := fun _ => ?_) | refine s_bs6 (hK := fun _ => ?_))); (try simp (disch := first | omega | assumption | ((repeat (first | exact mem_h | exact Up.here | apply mem_t | apply Up.there)); first | done | fail) | (simp; first | done | omega | fail)) [c1']))); exact T_ret (by simp [ip4P, c1])
  by_cases c2 : dst.size = 4
  case neg =>
    have c2' : ¬ (dst.size : Int) = 4 := by omega
    (have hQq := trivial; repeat ((first | clear hQq | (with_reducible first | refine T_drw ?_ | refine T_bx fun _ => ?_ | refine s_al fun _ => ?_ | refine s_bs0 fun _ => ?_ | refine s_bs1 (hK := fun _ => ?_) | refine s_bs2 (hK := fun _ => ?_) | refine s_bs3 (hK := fun _ => ?_) | refine s_bs5 (hK := fun _ => ?_) | refine s_bs6 (hK := fun _ => ?_))); (try simp (disch := first | omega | assumption | ((repeat (first | exact mem_h | exact Up.here | apply mem_t | apply Up.there)); first | done | fail) | (simp; first | done | omega | fail)) [c1, c2']))); exact T_ret (by simp [ip4P, c2])
  by_cases c3 : proto < 0
  · (have hQq := trivial; repeat ((first | clear hQq | (with_reducible first | refine T_drw ?_ | refine T_bx fun _ => ?_ | refine s_al fun _ => ?_ | refine s_bs0 fun _ => ?_ | refine s_bs1 (hK := fun _ => ?_) | refine s_bs2 (hK := fun _ => ?_) | refine s_bs3 (hK := fun _ => ?_) | refine s_bs5 (hK := fun _ => ?_) | refine s_bs6 (hK := fun _ => ?_))); (try simp (disch := first | omega | assumption | ((repeat (first | exact mem_h | exact Up.here | apply mem_t | apply Up.there)); first | done | fail) | (simp; first | done | omega | fail)) [c1, c2, c3]))); exact T_ret (by simp [ip4P, c3])
  by_cases c4 : 255 < proto
  · (have hQq := trivial; repeat ((first | clear hQq | (with_reducible first | refine T_drw ?_ | refine T_bx fun _ => ?_ | refine s_al fun _ => ?_ | refine s_bs0 fun _ => ?_ | refine s_bs1 (hK := fun _ => ?_) | refine s_bs2 (hK := fun _ => ?_) | refine s_bs3 (hK := fun _ => ?_) | refine s_bs5 (hK := fun _ => ?_) | refine s_bs6 (hK := fun _ => ?_))); (try simp (disch := first | omega | assumption | ((repeat (first | exact mem_h | exact Up.here | apply mem_t | apply Up.there)); first | done | fail) | (simp; first | done | omega | fail)) [c1, c2, c3, c4]))); exact T_ret (by simp [ip4P, c4])
  by_cases c5 : 65515 < rest.size
  · have c5' : 65515 < (rest.size : Int) := by omega
    (have hQq := trivial; repeat ((first | clear hQq | (with_reducible first | refine T_drw ?_ | refine T_bx fun _ => ?_ | refine s_al fun _ => ?_ | refine s_bs0 fun _ => ?_ | refine s_bs1 (hK := fun _ => ?_) | refine s_bs2 (hK := fun _ => ?_) | refine s_bs3 (hK := fun _ => ?_) | refine s_bs5 (hK := fun _ => ?_) | refine s_bs6 (hK := fun _ => ?_))); (try simp (disch := first | omega | assumption | ((repeat (first | exact mem_h | exact Up.here | apply mem_t | apply Up.there)); first | done | fail) | (simp; first | done | omega | fail)) [c1, c2, c3, c4, c5']))); exact T_ret (by simp [ip4P, c1, c2, c3, c4, c5])
  have c5' : ¬ 65515 < (rest.size : Int) := by omega
  (have hQq := trivial; repeat ((first | clear hQq | (with_reducible first | refine T_drw ?_ | refine T_bx fun _ => ?_ | refine s_al fun _ => ?_ | refine s_bs0 fun _ => ?_ | refine s_bs1 (hK := fun _ => ?_) | refine s_bs2 (hK := fun _ => ?_) | refine s_bs3 (hK := fun _ => ?_) | refine s_bs5 (hK := fun _ => ?_) | refine s_bs6 (hK := fun _ => ?_))); (try simp (disch := first | omega | assumption | ((repeat (first | exact mem_h | exact Up.here | apply mem_t | apply Up.there)); first | done | fail) | (simp; first | done | omega | fail)) [c1, c2, c3, c4, c5'])))
  rename_i bh br
  have key : ∀ w', LW false [] w [.pt br (.cells #[.string rest] 9), .pt bh (.cells #[.string src, .string dst, .int .i64 proto] 166)] w' → ∀ own : Int, 0 ≤ own → own ≤ 65535 → _ :=
    fun w' hw' own h0 h1 => ip4with_ok w' src dst rest proto own br bh (hw'.cell1 (by ((repeat (first | exact mem_h | exact Up.here | exact Sel.here | apply mem_t | apply Up.there | apply Sel.there)); first | done | fail))) (hw'.cell (by ((repeat (first | exact mem_h | exact Up.here | exact Sel.here | apply mem_t | apply Up.there | apply Sel.there)); first | done | fail)) (by rfl)) (hw'.cell (by ((repeat (first | exact mem_h | exact Up.here | exact Sel.here | apply mem_t | apply Up.there | apply Sel.there)); first | done | fail)) (by rfl)) (hw'.cell (by ((repeat (first | exact mem_h | exact Up.here | exact Sel.here | apply mem_t | apply Up.there | apply Sel.there)); first | done | fail)) (by rfl)) (by omega) c1 c2 (by omega) (by omega) h0 h1
  refine T_cv ent_ip4_Put_c1 (fun w' hw' => key w' hw' 0 (by omega) (by omega)) ?_
  (have hQq := trivial; repeat ((first | clear hQq | (with_reducible first | refine T_drw ?_ | refine T_bx fun _ => ?_ | refine s_al fun _ => ?_ | refine s_bs0 fun _ => ?_ | refine s_bs1 (hK := fun _ => ?_) | refine s_bs2 (hK := fun _ => ?_) | refine s_bs3 (hK := fun _ => ?_) | refine s_bs5 (hK := fun _ => ?_) | refine s_bs6 (hK := fun _ => ?_))); (try simp (disch := first | omega | assumption | ((repeat (first | exact mem_h | exact Up.here | apply mem_t | apply Up.there)); first | done | fail) | (simp; first | done | omega | fail)) [])))
  have hz : (ip4W src dst proto rest.size 0).size = 20 := ip4W_size c1 c2
  have hv := sumV_lt (ip4W src dst proto rest.size 0)
  refine T_cv ent_sum_Sum (fun w' hw' => Sum_ok w' _ (by omega)) ?_
  (have hQq := trivial; repeat ((first | clear hQq | (with_reducible first | refine T_drw ?_ | refine T_bx fun _ => ?_ | refine s_al fun _ => ?_ | refine s_bs0 fun _ => ?_ | refine s_bs1 (hK := fun _ => ?_) | refine s_bs2 (hK := fun _ => ?_) | refine s_bs3 (hK := fun _ => ?_) | refine s_bs5 (hK := fun _ => ?_) | refine s_bs6 (hK := fun _ => ?_))); (try simp (disch := first | omega | assumption | ((repeat (first | exact mem_h | exact Up.here | apply mem_t | apply Up.there)); first | done | fail) | (simp; first | done | omega | fail)) [])))
  refine T_cv ent_ip4_Put_c1 (fun w' hw' => key w' hw' _ hv.1 hv.2) ?_
  have hz2 : (ip4W src dst proto rest.size (sumV (ip4W src dst proto rest.size 0))).size = 20 := ip4W_size c1 c2
  (have hQq := trivial; repeat ((first | clear hQq | (with_reducible first | refine T_drw ?_ | refine T_bx fun _ => ?_ | refine s_al fun _ => ?_ | refine s_bs0 fun _ => ?_ | refine s_bs1 (hK := fun _ => ?_) | refine s_bs2 (hK := fun _ => ?_) | refine s_bs3 (hK := fun _ => ?_) | refine s_bs5 (hK := fun _ => ?_) | refine s_bs6 (hK := fun _ => ?_))); (try simp (disch := first | omega | assumption | ((repeat (first | exact mem_h | exact Up.here | apply mem_t | apply Up.there)); first | done | fail) | (simp; first | done | omega | fail)) [p_addS])))
  exact T_ret (by simp [ip4P, c1, c2, c3, c4, c5])
end Go.Proofs.YtggakcpabomliaaGreat
namespace Go.Proofs.YtggakcpabomliaaGreat
open Go
/-- the parts of a text, of some lengths -/
def cutV : List Nat → ByteArray → List ByteArray
  | [], s => [s]
  | n :: ns, s => s.extract 0 n :: cutV ns (s.extract n s.size)
theorem cut_ok (w : World) (v : Value) (ns : List Nat) (s : ByteArray) (hn : ns.length < 100) (hv : Rd1 w v ns.length (ns.map fun n : Nat => Value.int .i64 (n : Int))) (hs : ns.sum ≤ s.size) (hs2 : s.size < 2 ^ 40) :
    Fn PR NoX 213 #[.string s, v] w (Rn [] w (fun v u => u = v) fun v => [.own 9 1 v (ns.length + 1) ((cutV ns s).map .string)]) := by
  refine mk_ip6_cut (TW.go (κ := false) (S := []) ?_)
  unfold sh_ip6_cut
  obtain ⟨a, c, rfl, hrow⟩ := hv.form
  (have hQq := trivial; repeat ((first | clear hQq | (with_reducible first | refine T_drw ?_ | refine T_bx fun _ => ?_ | refine s_al fun _ => ?_ | refine s_bs0 fun _ => ?_ | refine s_bs1 (hK := fun _ => ?_) | refine s_bs2 (hK := fun _ => ?_) | refine s_bs3 (hK := fun _ => ?_) | refine s_bs5 (hK := fun _ => ?_) | refine s_bs6 (hK := fun _ => ?_))); (try simp (disch := first | omega | assumption | ((repeat (first | exact mem_h | exact Up.here | apply mem_t | apply Up.there)); first | done | fail) | (simp; first | done | omega | fail)) [])))
  refine T_nil 9 1 ?_
  refine T_for2 (α := Value × ByteArray × List ByteArray) ns.length (fun _ x => x.1) (fun _ x => .string x.2.1) (fun i x => [.own 9 1 x.1 i (x.2.2.map .string)])
    (fun i x => cutV ns s = x.2.2 ++ cutV (ns.drop i) x.2.1 ∧ (ns.drop i).sum ≤ x.2.1.size ∧ x.2.1.size ≤ s.size) (.slice none 0 0, s, []) ⟨by simp, by simpa using hs, Nat.le_refl _⟩ ?_
  rintro i ⟨v, r, d⟩ hi ⟨h1, h2, h3⟩ L hL
  simp only at h1 h2 h3 hL ⊢
  by_cases hlt : i < ns.length
  · obtain ⟨b, o, rfl, hr⟩ := hrow (by omega)
    have hx : ns[i]? = some ns[i] := List.getElem?_eq_getElem hlt
    have hc := hr.one hx
    rw [List.drop_eq_getElem_cons hlt] at h1 h2
    simp only [List.sum_cons, cutV] at h1 h2
    have hle : ((ns[i] : Nat) : Int) ≤ r.size := by omega
    (have hQq := trivial; repeat ((first | clear hQq | (with_reducible first | refine T_drw ?_ | refine T_bx fun _ => ?_ | refine s_al fun _ => ?_ | refine s_bs0 fun _ => ?_ | refine s_bs1 (hK := fun _ => ?_) | refine s_bs2 (hK := fun _ => ?_) | refine s_bs3 (hK := fun _ => ?_) | refine s_bs5 (hK := fun _ => ?_) | refine s_bs6 (hK := fun _ => ?_))); (try simp (disch := first | omega | assumption | ((repeat (first | exact mem_h | exact Up.here | apply mem_t | apply Up.there)); first | done | fail) | (simp; first | done | omega | fail)) [hlt, hc])))
    refine s_app (by ((repeat (first | exact mem_h | exact Up.here | exact Sel.here | apply mem_t | apply Up.there | apply Sel.there)); first | done | fail)) (RdT.own (by ((repeat (first | exact mem_h | exact Up.here | exact Sel.here | apply mem_t | apply Up.there | apply Sel.there)); first | done | fail))) (by decide) (by simp) (by simp) (by simp only [maxLen]; omega) (by omega) fun a' c' => ?_
    (have hQq := trivial; repeat ((first | clear hQq | (with_reducible first | refine T_drw ?_ | refine T_bx fun _ => ?_ | refine s_al fun _ => ?_ | refine s_bs0 fun _ => ?_ | refine s_bs1 (hK := fun _ => ?_) | refine s_bs2 (hK := fun _ => ?_) | refine s_bs3 (hK := fun _ => ?_) | refine s_bs5 (hK := fun _ => ?_) | refine s_bs6 (hK := fun _ => ?_))); (try simp (disch := first | omega | assumption | ((repeat (first | exact mem_h | exact Up.here | apply mem_t | apply Up.there)); first | done | fail) | (simp; first | done | omega | fail)) [hlt, hle])))
    have := hL hlt (.slice a' (i + 1) c', r.extract ns[i] r.size, d ++ [r.extract 0 ns[i]]) ⟨by rw [h1]; simp, by rw [ByteArray.size_extract]; omega, by rw [ByteArray.size_extract]; omega⟩
    simp only [List.map_append, List.map_cons, List.map_nil] at this
    exact Sels.tw (by ((repeat (first | exact Sels.nil | (apply Sels.cons; · ((repeat (first | exact mem_h | exact Up.here | exact Sel.here | apply mem_t | apply Up.there | apply Sel.there)); first | done | fail)))); first | done | fail)) this
  · obtain rfl : i = ns.length := by omega
    (have hQq := trivial; repeat ((first | clear hQq | (with_reducible first | refine T_drw ?_ | refine T_bx fun _ => ?_ | refine s_al fun _ => ?_ | refine s_bs0 fun _ => ?_ | refine s_bs1 (hK := fun _ => ?_) | refine s_bs2 (hK := fun _ => ?_) | refine s_bs3 (hK := fun _ => ?_) | refine s_bs5 (hK := fun _ => ?_) | refine s_bs6 (hK := fun _ => ?_))); (try simp (disch := first | omega | assumption | ((repeat (first | exact mem_h | exact Up.here | apply mem_t | apply Up.there)); first | done | fail) | (simp; first | done | omega | fail)) [])))
    refine s_app (by ((repeat (first | exact mem_h | exact Up.here | exact Sel.here | apply mem_t | apply Up.there | apply Sel.there)); first | done | fail)) (RdT.own (by ((repeat (first | exact mem_h | exact Up.here | exact Sel.here | apply mem_t | apply Up.there | apply Sel.there)); first | done | fail))) (by decide) (by simp) (by simp) (by simp only [maxLen]; omega) (by omega) fun a' c' => ?_
    simp only [List.drop_length, cutV] at h1
    rw [h1]
    exact T_retn _ rfl (by simp)
def ip6E (s : ByteArray) : Nat := if s.size < 40 then 2 else if gv s 0 1 / 16 ≠ 6 then 3 else if s.size - 40 < gv s 4 2 then 4 else 0
def ip6V (s : ByteArray) : HeadV := if ip6E s = 0 then ⟨s.extract 8 24, s.extract 24 40, gv s 6 1, s.extract 40 (40 + gv s 4 2), 0⟩ else .err (ip6E s)
theorem byteAt_extract (s : ByteArray) (a b i : Nat) (hb : b ≤ s.size) (hi : i < b - a) : byteAt (s.extract a b) i = byteAt s (a + i) := by
  unfold byteAt
  rw [Array.getD_eq_getD_getElem?, Array.getD_eq_getD_getElem?, ByteArray.data_extract, Array.getElem?_extract]
  rw [if_pos (by simp only [ByteArray.size] at hb; omega)]
theorem beV_extract (s : ByteArray) (a b i n : Nat) (hb : b ≤ s.size) (hn : i + n ≤ b - a) : beV (s.extract a b) i n = beV s (a + i) n := by
  induction n with
  | zero => rfl
  | succ n ih => simp only [beV]; rw [ih (by omega), byteAt_extract s a b _ hb (by omega), Nat.add_assoc]
theorem gv_in {s : ByteArray} {a n : Nat} (h : a + n ≤ s.size) : gv s a n = beV s a n := if_pos h
theorem gv_extract (s : ByteArray) (a b i n : Nat) (hb : b ≤ s.size) (hn : i + n ≤ b - a) (hab : a ≤ b) : gv (s.extract a b) i n = gv s (a + i) n := by
  rw [gv_in (by rw [ByteArray.size_extract]; omega), gv_in (by omega), beV_extract s a b i n hb hn]
theorem gv_one {s : ByteArray} {a : Nat} (h : a < s.size) : gv s a 1 = byteAt s a := by rw [gv_in (by omega)]; simp [beV]
theorem extract2 (s : ByteArray) (a b c d : Nat) (hb : b ≤ s.size) (hd : a + d ≤ b) : (s.extract a b).extract c d = s.extract (a + c) (a + d) := by
  apply ByteArray.ext
  rw [ByteArray.data_extract, ByteArray.data_extract, ByteArray.data_extract, Array.extract_extract]
  congr 1; omega
def cutA (s : ByteArray) : Nat → List Nat → List ByteArray
  | a, [] => [s.extract a s.size]
  | a, n :: ns => s.extract a (a + n) :: cutA s (a + n) ns
theorem cutV_at (s : ByteArray) (ns : List Nat) : ∀ a, a + ns.sum ≤ s.size → cutV ns (s.extract a s.size) = cutA s a ns := by
  induction ns with
  | nil => intro a _; rfl
  | cons n ns ih =>
    intro a h
    simp only [List.sum_cons] at h
    simp only [cutV, cutA]
    rw [extract2 _ _ _ _ _ (by omega) (by omega), extract2 _ _ _ _ _ (by omega) (by rw [ByteArray.size_extract]; omega), ByteArray.size_extract, Nat.add_zero]
    rw [show a + (min s.size s.size - a) = s.size from by omega, ih _ (by omega)]
theorem extract_all (s : ByteArray) : s.extract 0 s.size = s := by
  apply ByteArray.ext; rw [ByteArray.data_extract]; exact Array.extract_size ..
theorem cutV_parts {s : ByteArray} (h : 40 ≤ s.size) : cutV [4, 2, 1, 1, 16, 16] s = [s.extract 0 4, s.extract 4 6, s.extract 6 7, s.extract 7 8, s.extract 8 24, s.extract 24 40, s.extract 40 s.size] := by
  have := cutV_at s [4, 2, 1, 1, 16, 16] 0 (by simp; omega)
  rw [extract_all] at this; rw [this]; rfl
theorem ip6Parse_ok (w : World) (s : ByteArray) (hs : s.size < 2 ^ 40) : Fn PR NoX 190 #[.string s] w (fun v w' => v = (ip6V s).val ∧ But [] w w') := by
  refine Fn.pure (mk_ip6_Parse (TW.go (κ := false) (S := []) ?_))
  unfold sh_ip6_Parse
  by_cases c1 : s.size < 40
  · have c1' : (s.size : Int) < 40 := by omega
    (have hQq := trivial; repeat ((first | clear hQq | (with_reducible first | refine T_drw ?_ | refine T_bx fun _ => ?_ | refine s_al fun _ => ?_ | refine s_bs0 fun _ => ?_ | refine s_bs1 (hK := fun _ => ?_) | refine s_bs2 (hK := fun _ => ?_) | refine s_bs3 (hK := fun _ => ?_) | refine s_bs5 (hK := fun _ => ?_) | refine s_bs6 (hK := fun _ => ?_))); (try simp (disch := first | omega | assumption | ((repeat (first | exact mem_h | exact Up.here | apply mem_t | apply Up.there)); first | done | fail) | (simp; first | done | omega | fail)) [c1']))); exact T_ret (by simp [ip6V, ip6E, c1, HeadV.val, HeadV.err])
  have c1' : ¬ (s.size : Int) < 40 := by omega
  obtain ⟨by0, hb0, hb1⟩ := byte_get (s := s) (i := 0) (by omega)
  have hg0 : gv s 0 1 = byteAt s 0 := gv_one (by omega)
  have e1 : ((by0.toNat : Nat) : Int).fdiv (2 ^ min 4 IntKind.u8.bits) = (gv s 0 1 / 16 : Nat) := by rw [show (2 : Int) ^ min 4 IntKind.u8.bits = 16 from rfl, Int.fdiv_eq_ediv_of_nonneg _ (by omega), hb1, hg0]; omega
  have hb0' : s[(0 : Int).toNat]? = some by0 := hb0
  by_cases c2 : gv s 0 1 / 16 = 6
  case neg =>
    have c2' : ¬ ((gv s 0 1 / 16 : Nat) : Int) = 6 := by omega
    (have hQq := trivial; repeat ((first | clear hQq | (with_reducible first | refine T_drw ?_ | refine T_bx fun _ => ?_ | refine s_al fun _ => ?_ | refine s_bs0 fun _ => ?_ | refine s_bs1 (hK := fun _ => ?_) | refine s_bs2 (hK := fun _ => ?_) | refine s_bs3 (hK := fun _ => ?_) | refine s_bs5 (hK := fun _ => ?_) | refine s_bs6 (hK := fun _ => ?_))); (try simp (disch := first | omega | assumption | ((repeat (first | exact mem_h | exact Up.here | apply mem_t | apply Up.there)); first | done | fail) | (simp; first | done | omega | fail)) [c1', i_is_9])))
    rw [e1, if_neg c2']
    (have hQq := trivial; repeat ((first | clear hQq | (with_reducible first | refine T_drw ?_ | refine T_bx fun _ => ?_ | refine s_al fun _ => ?_ | refine s_bs0 fun _ => ?_ | refine s_bs1 (hK := fun _ => ?_) | refine s_bs2 (hK := fun _ => ?_) | refine s_bs3 (hK := fun _ => ?_) | refine s_bs5 (hK := fun _ => ?_) | refine s_bs6 (hK := fun _ => ?_))); (try simp (disch := first | omega | assumption | ((repeat (first | exact mem_h | exact Up.here | apply mem_t | apply Up.there)); first | done | fail) | (simp; first | done | omega | fail)) []))); exact T_ret (by simp [ip6V, ip6E, c1, c2, HeadV.val, HeadV.err])
  have c2' : ((gv s 0 1 / 16 : Nat) : Int) = 6 := by omega
  (have hQq := trivial; repeat ((first | clear hQq | (with_reducible first | refine T_drw ?_ | refine T_bx fun _ => ?_ | refine s_al fun _ => ?_ | refine s_bs0 fun _ => ?_ | refine s_bs1 (hK := fun _ => ?_) | refine s_bs2 (hK := fun _ => ?_) | refine s_bs3 (hK := fun _ => ?_) | refine s_bs5 (hK := fun _ => ?_) | refine s_bs6 (hK := fun _ => ?_))); (try simp (disch := first | omega | assumption | ((repeat (first | exact mem_h | exact Up.here | apply mem_t | apply Up.there)); first | done | fail) | (simp; first | done | omega | fail)) [c1', i_is_9])))
  rw [e1, if_pos c2']
  (have hQq := trivial; repeat ((first | clear hQq | (with_reducible first | refine T_drw ?_ | refine T_bx fun _ => ?_ | refine s_al fun _ => ?_ | refine s_bs0 fun _ => ?_ | refine s_bs1 (hK := fun _ => ?_) | refine s_bs2 (hK := fun _ => ?_) | refine s_bs3 (hK := fun _ => ?_) | refine s_bs5 (hK := fun _ => ?_) | refine s_bs6 (hK := fun _ => ?_))); (try simp (disch := first | omega | assumption | ((repeat (first | exact mem_h | exact Up.here | apply mem_t | apply Up.there)); first | done | fail) | (simp; first | done | omega | fail)) [])))
  rename_i bh bl
  refine T_cn ent_ip6_cut (fun w' hw' => cut_ok w' _ [4, 2, 1, 1, 16, 16] s (by simp) ?_ (by simp; omega) (by omega)) ?_
  · have := RdT.own (κ := false) (S := []) (w0 := w) (e := 3) (k := 1) (q := 6) (v := .slice (some ⟨bl, 0, none⟩) 6 6) (by ((repeat (first | exact mem_h | exact Up.here | exact Sel.here | apply mem_t | apply Up.there | apply Sel.there)); first | done | fail)) w' hw'
    simpa using this
  rintro v _ rfl
  rw [cutV_parts (by omega)]
  simp only [List.length_cons, List.length_nil, List.map_cons, List.map_nil, List.cons_append, List.nil_append]
  refine T_ptr (by ((repeat (first | exact mem_h | exact Up.here | exact Sel.here | apply mem_t | apply Up.there | apply Sel.there)); first | done | fail)) (by omega) fun g c hv => ?_
  subst hv
  (have hQq := trivial; repeat ((first | clear hQq | (with_reducible first | refine T_drw ?_ | refine T_bx fun _ => ?_ | refine s_al fun _ => ?_ | refine s_bs0 fun _ => ?_ | refine s_bs1 (hK := fun _ => ?_) | refine s_bs2 (hK := fun _ => ?_) | refine s_bs3 (hK := fun _ => ?_) | refine s_bs5 (hK := fun _ => ?_) | refine s_bs6 (hK := fun _ => ?_))); (try simp (disch := first | omega | assumption | ((repeat (first | exact mem_h | exact Up.here | apply mem_t | apply Up.there)); first | done | fail) | (simp; first | done | omega | fail)) [])))
  refine T_cv ent_octet_Get (fun w' _ => Get_ok w' _ (by simp; omega) _ _) ?_
  have hgv := getV_gv (s.extract 4 6) 0 2 (by omega) (by omega)
  rw [gv_extract s 4 6 0 2 (by omega) (by omega) (by omega)] at hgv
  simp only [Int.natCast_zero, Int.cast_ofNat_Int] at hgv
  have hlt := gv_lt2 s 4
  rw [hgv]
  (have hQq := trivial; repeat ((first | clear hQq | (with_reducible first | refine T_drw ?_ | refine T_bx fun _ => ?_ | refine s_al fun _ => ?_ | refine s_bs0 fun _ => ?_ | refine s_bs1 (hK := fun _ => ?_) | refine s_bs2 (hK := fun _ => ?_) | refine s_bs3 (hK := fun _ => ?_) | refine s_bs5 (hK := fun _ => ?_) | refine s_bs6 (hK := fun _ => ?_))); (try simp (disch := first | omega | assumption | ((repeat (first | exact mem_h | exact Up.here | apply mem_t | apply Up.there)); first | done | fail) | (simp; first | done | omega | fail)) [])))
  refine T_if (fun c3 => ?_) (fun c3 => ?_)
  · (have hQq := trivial; repeat ((first | clear hQq | (with_reducible first | refine T_drw ?_ | refine T_bx fun _ => ?_ | refine s_al fun _ => ?_ | refine s_bs0 fun _ => ?_ | refine s_bs1 (hK := fun _ => ?_) | refine s_bs2 (hK := fun _ => ?_) | refine s_bs3 (hK := fun _ => ?_) | refine s_bs5 (hK := fun _ => ?_) | refine s_bs6 (hK := fun _ => ?_))); (try simp (disch := first | omega | assumption | ((repeat (first | exact mem_h | exact Up.here | apply mem_t | apply Up.there)); first | done | fail) | (simp; first | done | omega | fail)) [])))
    exact T_ret (by simp [ip6V, ip6E, c1, c2, c3, HeadV.val, HeadV.err])
  · obtain ⟨by6, hb6, hb6'⟩ := byte_get (s := s.extract 6 7) (i := 0) (by simp; omega)
    have hp : byteAt (s.extract 6 7) 0 = gv s 6 1 := by rw [byteAt_extract s 6 7 0 (by omega) (by omega), gv_one (by omega)]
    have hb6'' : (s.extract 6 7)[(0 : Int).toNat]? = some by6 := hb6
    have hle : ((gv s 4 2 : Nat) : Int) ≤ (s.extract 40 s.size).size := by rw [ByteArray.size_extract]; omega
    (have hQq := trivial; repeat ((first | clear hQq | (with_reducible first | refine T_drw ?_ | refine T_bx fun _ => ?_ | refine s_al fun _ => ?_ | refine s_bs0 fun _ => ?_ | refine s_bs1 (hK := fun _ => ?_) | refine s_bs2 (hK := fun _ => ?_) | refine s_bs3 (hK := fun _ => ?_) | refine s_bs5 (hK := fun _ => ?_) | refine s_bs6 (hK := fun _ => ?_))); (try simp (disch := first | omega | assumption | ((repeat (first | exact mem_h | exact Up.here | apply mem_t | apply Up.there)); first | done | fail) | (simp; first | done | omega | fail)) [i_is_9])))
    have h6 := gv_lt1 s 6
    have w6 : IntKind.i64.wrap (gv s 6 1 : Nat) = (gv s 6 1 : Nat) := wrap64 (by omega) (by omega)
    rw [hb6', hp]
    exact T_ret (by rw [extract2 s 40 s.size 0 _ (by omega) (by omega)]; simp [ip6V, ip6E, c1, c2, c3, HeadV.val, w6])
theorem lies_writer : liesAt PR PR.depth 222 (2 / PR.cellsOf 222) 0 220 1 = true := by kernel_rfl
theorem number_ok (w : World) (b : Nat) (a : Option Addr) (v : Value) (q : Nat) (xs : List Value) (x n : Int) (ha : a = none ∨ a = some ⟨b, 0, none⟩) (hx0 : 0 ≤ x) (hx : x < 2 ^ 62) (hs : q < 2 ^ 39)
    (hw : LW false (foots (Bd b 222 a v q xs)) w (Bd b 222 a v q xs) w) : Fn PR NoX 147 #[.pointer (some ⟨b, 0, none⟩), .int .i64 x, .int .i64 n] w
      (Rn (foots (Bd b 222 a v q xs)) w (fun (_ : Value) u => u = .tuple #[]) fun v' => Bd b 222 (some ⟨b, 0, none⟩) v' (q + (putV x n).size) (xs ++ byteC (putV x n))) := by
  refine mk_ip6_writer_number (TW.goH (κ := false) (S := foots (Bd b 222 a v q xs)) ?_ hw)
  unfold sh_ip6_writer_number
  (have hQq := trivial; repeat ((first | clear hQq | (with_reducible first | refine T_drw ?_ | refine T_bx fun _ => ?_ | refine s_al fun _ => ?_ | refine s_bs0 fun _ => ?_ | refine s_bs1 (hK := fun _ => ?_) | refine s_bs2 (hK := fun _ => ?_) | refine s_bs3 (hK := fun _ => ?_) | refine s_bs5 (hK := fun _ => ?_) | refine s_bs6 (hK := fun _ => ?_))); (try simp (disch := first | omega | assumption | ((repeat (first | exact mem_h | exact Up.here | apply mem_t | apply Up.there)); first | done | fail) | (simp; first | done | omega | fail)) [])))
  refine T_cv ent_octet_Put (fun w' _ => Put_ok w' _ _) ?_
  have hp : (putV x n).size ≤ 8 := by
    by_cases h : 1 ≤ n ∧ n ≤ 8
    · rw [putV_size h.1 h.2]; omega
    · simp [putV, h]
  refine T_call (Hc := Bd b 222 a v q xs) (Hk := []) ent_strings_Builder_WriteString (by rfl) (fun w' hw' => WriteString_ok w' b _ a v q xs _ ha lies_writer (by omega) hw'.self) ?_
  rintro v' _ rfl
  (have hQq := trivial; repeat ((first | clear hQq | (with_reducible first | refine T_drw ?_ | refine T_bx fun _ => ?_ | refine s_al fun _ => ?_ | refine s_bs0 fun _ => ?_ | refine s_bs1 (hK := fun _ => ?_) | refine s_bs2 (hK := fun _ => ?_) | refine s_bs3 (hK := fun _ => ?_) | refine s_bs5 (hK := fun _ => ?_) | refine s_bs6 (hK := fun _ => ?_))); (try simp (disch := first | omega | assumption | ((repeat (first | exact mem_h | exact Up.here | apply mem_t | apply Up.there)); first | done | fail) | (simp; first | done | omega | fail)) [])))
  exact T_rets v' rfl (by simp only [Bd]; ((repeat (first | exact Sels.nil | (apply Sels.cons; · ((repeat (first | exact mem_h | exact Up.here | exact Sel.here | apply mem_t | apply Up.there | apply Sel.there)); first | done | fail)))); first | done | fail))
def ip6W (src dst rest : ByteArray) (proto : Int) : ByteArray := putV 1610612736 4 ++ putV rest.size 2 ++ putV proto 1 ++ putV 64 1 ++ src ++ dst ++ rest
def ip6N (rest : ByteArray) : Nat → Nat | 0 => 8 | 1 => 24 | 2 => 40 | _ => 40 + rest.size
def ip6X (src dst rest : ByteArray) (proto : Int) : Nat → ByteArray
  | 0 => putV 1610612736 4 ++ putV rest.size 2 ++ putV proto 1 ++ putV 64 1
  | 1 => putV 1610612736 4 ++ putV rest.size 2 ++ putV proto 1 ++ putV 64 1 ++ src
  | 2 => putV 1610612736 4 ++ putV rest.size 2 ++ putV proto 1 ++ putV 64 1 ++ src ++ dst
  | _ => ip6W src dst rest proto
/-- a head of version 6, and what it holds: bytes, error -/
def ip6P (src dst rest : ByteArray) (proto : Int) : ByteArray × Nat :=
  if src.size ≠ 16 ∨ dst.size ≠ 16 ∨ proto < 0 ∨ 255 < proto then (noB, 1) else if 65535 < rest.size then (noB, 4) else (ip6W src dst rest proto, 0)
theorem ip6Put_ok (w : World) (src dst rest : ByteArray) (proto : Int) (hrs : rest.size < 2 ^ 40) :
    Fn PR NoX 102 #[.agg #[.string src, .string dst, .int .i64 proto], .string rest] w (fun v w' => v = .tuple #[.string (ip6P src dst rest proto).1, .int .i64 (ip6P src dst rest proto).2] ∧ But [] w w') := by
  refine Fn.pure (mk_ip6_Put (TW.go (κ := false) (S := []) ?_))
  unfold sh_ip6_Put
  by_cases c1 : src.size = 16
  case neg =>
    have c1' : ¬ (src.size : Int) = 16 := by omega
    (have hQq := trivial; repeat ((first | clear hQq | (with_reducible first | refine T_drw ?_ | refine T_bx fun _ => ?_ | refine s_al fun _ => ?_ | refine s_bs0 fun _ => ?_ | refine s_bs1 (hK := fun _ => ?_) | refine s_bs2 (hK := fun _ => ?_) | refine s_bs3 (hK := fun _ => ?_) | refine s_bs5 (hK := fun _ => ?_) | refine s_bs6 (hK := fun _ => ?_))); (try simp (disch := first | omega | assumption | ((repeat (first | exact mem_h | exact Up.here | apply mem_t | apply Up.there)); first | done | fail) | (simp; first | done | omega | fail)) [c1']))); exact T_ret (by simp [ip6P, c1])
  by_cases c2 : dst.size = 16
  case neg =>
    have c2' : ¬ (dst.size : Int) = 16 := by omega
    (have hQq := trivial; repeat ((first | clear hQq | (with_reducible first | refine T_drw ?_ | refine T_bx fun _ => ?_ | refine s_al fun _ => ?_ | refine s_bs0 fun _ => ?_ | refine s_bs1 (hK := fun _ => ?_) | refine s_bs2 (hK := fun _ => ?_) | refine s_bs3 (hK := fun _ => ?_) | refine s_bs5 (hK := fun _ => ?_) | refine s_bs6 (hK := fun _ => ?_))); (try simp (disch := first | omega | assumption | ((repeat (first | exact mem_h | exact Up.here | apply mem_t | apply Up.there)); first | done | fail) | (simp; first | done | omega | fail)) [c1, c2']))); exact T_ret (by simp [ip6P, c2])
  by_cases c3 : proto < 0
  · (have hQq := trivial; repeat ((first | clear hQq | (with_reducible first | refine T_drw ?_ | refine T_bx fun _ => ?_ | refine s_al fun _ => ?_ | refine s_bs0 fun _ => ?_ | refine s_bs1 (hK := fun _ => ?_) | refine s_bs2 (hK := fun _ => ?_) | refine s_bs3 (hK := fun _ => ?_) | refine s_bs5 (hK := fun _ => ?_) | refine s_bs6 (hK := fun _ => ?_))); (try simp (disch := first | omega | assumption | ((repeat (first | exact mem_h | exact Up.here | apply mem_t | apply Up.there)); first | done | fail) | (simp; first | done | omega | fail)) [c1, c2, c3]))); exact T_ret (by simp [ip6P, c3])
  by_cases c4 : 255 < proto
  · (have hQq := trivial; repeat ((first | clear hQq | (with_reducible first | refine T_drw ?_ | refine T_bx fun _ => ?_ | refine s_al fun _ => ?_ | refine s_bs0 fun _ => ?_ | refine s_bs1 (hK := fun _ => ?_) | refine s_bs2 (hK := fun _ => ?_) | refine s_bs3 (hK := fun _ => ?_) | refine s_bs5 (hK := fun _ => ?_) | refine s_bs6 (hK := fun _ => ?_))); (try simp (disch := first | omega | assumption | ((repeat (first | exact mem_h | exact Up.here | apply mem_t | apply Up.there)); first | done | fail) | (simp; first | done | omega | fail)) [c1, c2, c3, c4]))); exact T_ret (by simp [ip6P, c4])
  by_cases c5 : 65535 < rest.size
  · have c5' : 65535 < (rest.size : Int) := by omega
    (have hQq := trivial; repeat ((first | clear hQq | (with_reducible first | refine T_drw ?_ | refine T_bx fun _ => ?_ | refine s_al fun _ => ?_ | refine s_bs0 fun _ => ?_ | refine s_bs1 (hK := fun _ => ?_) | refine s_bs2 (hK := fun _ => ?_) | refine s_bs3 (hK := fun _ => ?_) | refine s_bs5 (hK := fun _ => ?_) | refine s_bs6 (hK := fun _ => ?_))); (try simp (disch := first | omega | assumption | ((repeat (first | exact mem_h | exact Up.here | apply mem_t | apply Up.there)); first | done | fail) | (simp; first | done | omega | fail)) [c1, c2, c3, c4, c5']))); exact T_ret (by simp [ip6P, c1, c2, c3, c4, c5])
  have c5' : ¬ 65535 < (rest.size : Int) := by omega
  (have hQq := trivial; repeat ((first | clear hQq | (with_reducible first | refine T_drw ?_ | refine T_bx fun _ => ?_ | refine s_al fun _ => ?_ | refine s_bs0 fun _ => ?_ | refine s_bs1 (hK := fun _ => ?_) | refine s_bs2 (hK := fun _ => ?_) | refine s_bs3 (hK := fun _ => ?_) | refine s_bs5 (hK := fun _ => ?_) | refine s_bs6 (hK := fun _ => ?_))); (try simp (disch := first | omega | assumption | ((repeat (first | exact mem_h | exact Up.here | apply mem_t | apply Up.there)); first | done | fail) | (simp; first | done | omega | fail)) [c1, c2, c3, c4, c5'])))
  rename_i bh bw
  refine T_nil 5 1 ?_
  refine T_callP ent_ip6_writer_number (fun w' _ hs => number_ok w' bw none (.slice none 0 0) 0 [] 1610612736 4 (Or.inl rfl) (by omega) (by omega) (by omega) hs) (by ((repeat (first | exact Part.nil | (apply Part.cons; · ((repeat (first | exact mem_h | exact Up.here | exact Sel.here | apply mem_t | apply Up.there | apply Sel.there)); first | done | fail)))); first | done | fail)) ?_
  rintro v1 _ rfl
  (have hQq := trivial; repeat ((first | clear hQq | (with_reducible first | refine T_drw ?_ | refine T_bx fun _ => ?_ | refine s_al fun _ => ?_ | refine s_bs0 fun _ => ?_ | refine s_bs1 (hK := fun _ => ?_) | refine s_bs2 (hK := fun _ => ?_) | refine s_bs3 (hK := fun _ => ?_) | refine s_bs5 (hK := fun _ => ?_) | refine s_bs6 (hK := fun _ => ?_))); (try simp (disch := first | omega | assumption | ((repeat (first | exact mem_h | exact Up.here | apply mem_t | apply Up.there)); first | done | fail) | (simp; first | done | omega | fail)) [])))
  refine T_callP ent_ip6_writer_number (fun w' _ hs => number_ok w' bw _ v1 4 _ rest.size 2 (Or.inr rfl) (by omega) (by omega) (by omega) hs) (by ((repeat (first | exact Part.nil | (apply Part.cons; · ((repeat (first | exact mem_h | exact Up.here | exact Sel.here | apply mem_t | apply Up.there | apply Sel.there)); first | done | fail)))); first | done | fail)) ?_
  rintro v2 _ rfl
  (have hQq := trivial; repeat ((first | clear hQq | (with_reducible first | refine T_drw ?_ | refine T_bx fun _ => ?_ | refine s_al fun _ => ?_ | refine s_bs0 fun _ => ?_ | refine s_bs1 (hK := fun _ => ?_) | refine s_bs2 (hK := fun _ => ?_) | refine s_bs3 (hK := fun _ => ?_) | refine s_bs5 (hK := fun _ => ?_) | refine s_bs6 (hK := fun _ => ?_))); (try simp (disch := first | omega | assumption | ((repeat (first | exact mem_h | exact Up.here | apply mem_t | apply Up.there)); first | done | fail) | (simp; first | done | omega | fail)) [])))
  refine T_callP ent_ip6_writer_number (fun w' _ hs => number_ok w' bw _ v2 6 _ proto 1 (Or.inr rfl) (by omega) (by omega) (by omega) hs) (by ((repeat (first | exact Part.nil | (apply Part.cons; · ((repeat (first | exact mem_h | exact Up.here | exact Sel.here | apply mem_t | apply Up.there | apply Sel.there)); first | done | fail)))); first | done | fail)) ?_
  rintro v3 _ rfl
  (have hQq := trivial; repeat ((first | clear hQq | (with_reducible first | refine T_drw ?_ | refine T_bx fun _ => ?_ | refine s_al fun _ => ?_ | refine s_bs0 fun _ => ?_ | refine s_bs1 (hK := fun _ => ?_) | refine s_bs2 (hK := fun _ => ?_) | refine s_bs3 (hK := fun _ => ?_) | refine s_bs5 (hK := fun _ => ?_) | refine s_bs6 (hK := fun _ => ?_))); (try simp (disch := first | omega | assumption | ((repeat (first | exact mem_h | exact Up.here | apply mem_t | apply Up.there)); first | done | fail) | (simp; first | done | omega | fail)) [])))
  refine T_callP ent_ip6_writer_number (fun w' _ hs => number_ok w' bw _ v3 7 _ 64 1 (Or.inr rfl) (by omega) (by omega) (by omega) hs) (by ((repeat (first | exact Part.nil | (apply Part.cons; · ((repeat (first | exact mem_h | exact Up.here | exact Sel.here | apply mem_t | apply Up.there | apply Sel.there)); first | done | fail)))); first | done | fail)) ?_
  rintro v4 _ rfl
  (have hQq := trivial; repeat ((first | clear hQq | (with_reducible first | refine T_drw ?_ | refine T_bx fun _ => ?_ | refine s_al fun _ => ?_ | refine s_bs0 fun _ => ?_ | refine s_bs1 (hK := fun _ => ?_) | refine s_bs2 (hK := fun _ => ?_) | refine s_bs3 (hK := fun _ => ?_) | refine s_bs5 (hK := fun _ => ?_) | refine s_bs6 (hK := fun _ => ?_))); (try simp (disch := first | omega | assumption | ((repeat (first | exact mem_h | exact Up.here | apply mem_t | apply Up.there)); first | done | fail) | (simp; first | done | omega | fail)) [])))
  rename_i bl
  refine T_for0x (α := Value) 3 (fun i v => [.own 9 1 (.slice (some ⟨bl, 0, none⟩) 3 3) 3 [.string src, .string dst, .string rest], .pt bw (.cells #[.pointer (some ⟨bw, 0, none⟩), v] 222),
    .own 5 1 v (ip6N rest i) (byteC (ip6X src dst rest proto i)), .pt bh (.cells #[.string src, .string dst, .int .i64 proto] 164)]) (fun _ _ => True) v4 trivial ?_ (by simp [ip6N, ip6X, byteC_append])
  rintro i v hi _ L hL
  obtain rfl | rfl | rfl | rfl : i = 0 ∨ i = 1 ∨ i = 2 ∨ i = 3 := by omega
  · have hL' := fun v' => hL (by omega) v' trivial
    simp only [ip6N, ip6X, byteC_append, List.append_assoc] at hL' ⊢
    (have hQq := trivial; repeat ((first | clear hQq | (with_reducible first | refine T_drw ?_ | refine T_bx fun _ => ?_ | refine s_al fun _ => ?_ | refine s_bs0 fun _ => ?_ | refine s_bs1 (hK := fun _ => ?_) | refine s_bs2 (hK := fun _ => ?_) | refine s_bs3 (hK := fun _ => ?_) | refine s_bs5 (hK := fun _ => ?_) | refine s_bs6 (hK := fun _ => ?_))); (try simp (disch := first | omega | assumption | ((repeat (first | exact mem_h | exact Up.here | apply mem_t | apply Up.there)); first | done | fail) | (simp; first | done | omega | fail)) [])))
    refine T_callP ent_strings_Builder_WriteString (fun w' _ hs => WriteString_ok w' bw _ _ v 8 _ src (Or.inr rfl) lies_writer (by omega) hs) (by ((repeat (first | exact Part.nil | (apply Part.cons; · ((repeat (first | exact mem_h | exact Up.here | exact Sel.here | apply mem_t | apply Up.there | apply Sel.there)); first | done | fail)))); first | done | fail)) ?_
    rintro v' _ rfl
    (have hQq := trivial; repeat ((first | clear hQq | (with_reducible first | refine T_drw ?_ | refine T_bx fun _ => ?_ | refine s_al fun _ => ?_ | refine s_bs0 fun _ => ?_ | refine s_bs1 (hK := fun _ => ?_) | refine s_bs2 (hK := fun _ => ?_) | refine s_bs3 (hK := fun _ => ?_) | refine s_bs5 (hK := fun _ => ?_) | refine s_bs6 (hK := fun _ => ?_))); (try simp (disch := first | omega | assumption | ((repeat (first | exact mem_h | exact Up.here | apply mem_t | apply Up.there)); first | done | fail) | (simp; first | done | omega | fail)) [c1])))
    exact Sels.tw (by ((repeat (first | exact Sels.nil | (apply Sels.cons; · ((repeat (first | exact mem_h | exact Up.here | exact Sel.here | apply mem_t | apply Up.there | apply Sel.there)); first | done | fail)))); first | done | fail)) (hL' v')
  · have hL' := fun v' => hL (by omega) v' trivial
    simp only [ip6N, ip6X, byteC_append, List.append_assoc] at hL' ⊢
    (have hQq := trivial; repeat ((first | clear hQq | (with_reducible first | refine T_drw ?_ | refine T_bx fun _ => ?_ | refine s_al fun _ => ?_ | refine s_bs0 fun _ => ?_ | refine s_bs1 (hK := fun _ => ?_) | refine s_bs2 (hK := fun _ => ?_) | refine s_bs3 (hK := fun _ => ?_) | refine s_bs5 (hK := fun _ => ?_) | refine s_bs6 (hK := fun _ => ?_))); (try simp (disch := first | omega | assumption | ((repeat (first | exact mem_h | exact Up.here | apply mem_t | apply Up.there)); first | done | fail) | (simp; first | done | omega | fail)) [])))
    refine T_callP ent_strings_Builder_WriteString (fun w' _ hs => WriteString_ok w' bw _ _ v 24 _ dst (Or.inr rfl) lies_writer (by omega) hs) (by ((repeat (first | exact Part.nil | (apply Part.cons; · ((repeat (first | exact mem_h | exact Up.here | exact Sel.here | apply mem_t | apply Up.there | apply Sel.there)); first | done | fail)))); first | done | fail)) ?_
    rintro v' _ rfl
    (have hQq := trivial; repeat ((first | clear hQq | (with_reducible first | refine T_drw ?_ | refine T_bx fun _ => ?_ | refine s_al fun _ => ?_ | refine s_bs0 fun _ => ?_ | refine s_bs1 (hK := fun _ => ?_) | refine s_bs2 (hK := fun _ => ?_) | refine s_bs3 (hK := fun _ => ?_) | refine s_bs5 (hK := fun _ => ?_) | refine s_bs6 (hK := fun _ => ?_))); (try simp (disch := first | omega | assumption | ((repeat (first | exact mem_h | exact Up.here | apply mem_t | apply Up.there)); first | done | fail) | (simp; first | done | omega | fail)) [c2])))
    exact Sels.tw (by ((repeat (first | exact Sels.nil | (apply Sels.cons; · ((repeat (first | exact mem_h | exact Up.here | exact Sel.here | apply mem_t | apply Up.there | apply Sel.there)); first | done | fail)))); first | done | fail)) (hL' v')
  · have hL' := fun v' => hL (by omega) v' trivial
    simp only [ip6N, ip6X, ip6W, byteC_append, List.append_assoc] at hL' ⊢
    (have hQq := trivial; repeat ((first | clear hQq | (with_reducible first | refine T_drw ?_ | refine T_bx fun _ => ?_ | refine s_al fun _ => ?_ | refine s_bs0 fun _ => ?_ | refine s_bs1 (hK := fun _ => ?_) | refine s_bs2 (hK := fun _ => ?_) | refine s_bs3 (hK := fun _ => ?_) | refine s_bs5 (hK := fun _ => ?_) | refine s_bs6 (hK := fun _ => ?_))); (try simp (disch := first | omega | assumption | ((repeat (first | exact mem_h | exact Up.here | apply mem_t | apply Up.there)); first | done | fail) | (simp; first | done | omega | fail)) [])))
    refine T_callP ent_strings_Builder_WriteString (fun w' _ hs => WriteString_ok w' bw _ _ v 40 _ rest (Or.inr rfl) lies_writer (by omega) hs) (by ((repeat (first | exact Part.nil | (apply Part.cons; · ((repeat (first | exact mem_h | exact Up.here | exact Sel.here | apply mem_t | apply Up.there | apply Sel.there)); first | done | fail)))); first | done | fail)) ?_
    rintro v' _ rfl
    (have hQq := trivial; repeat ((first | clear hQq | (with_reducible first | refine T_drw ?_ | refine T_bx fun _ => ?_ | refine s_al fun _ => ?_ | refine s_bs0 fun _ => ?_ | refine s_bs1 (hK := fun _ => ?_) | refine s_bs2 (hK := fun _ => ?_) | refine s_bs3 (hK := fun _ => ?_) | refine s_bs5 (hK := fun _ => ?_) | refine s_bs6 (hK := fun _ => ?_))); (try simp (disch := first | omega | assumption | ((repeat (first | exact mem_h | exact Up.here | apply mem_t | apply Up.there)); first | done | fail) | (simp; first | done | omega | fail)) [])))
    exact Sels.tw (by ((repeat (first | exact Sels.nil | (apply Sels.cons; · ((repeat (first | exact mem_h | exact Up.here | exact Sel.here | apply mem_t | apply Up.there | apply Sel.there)); first | done | fail)))); first | done | fail)) (hL' v')
  · simp only [ip6N, ip6X]
    (have hQq := trivial; repeat ((first | clear hQq | (with_reducible first | refine T_drw ?_ | refine T_bx fun _ => ?_ | refine s_al fun _ => ?_ | refine s_bs0 fun _ => ?_ | refine s_bs1 (hK := fun _ => ?_) | refine s_bs2 (hK := fun _ => ?_) | refine s_bs3 (hK := fun _ => ?_) | refine s_bs5 (hK := fun _ => ?_) | refine s_bs6 (hK := fun _ => ?_))); (try simp (disch := first | omega | assumption | ((repeat (first | exact mem_h | exact Up.here | apply mem_t | apply Up.there)); first | done | fail) | (simp; first | done | omega | fail)) [])))
    have hz : (ip6W src dst rest proto).size = 40 + rest.size := by simp [ip6W, c1, c2]
    refine T_callP ent_strings_Builder_String (fun w' _ hs => String_ok w' bw _ _ v (40 + rest.size) (byteC (ip6W src dst rest proto)) (ip6W src dst rest proto) hz.symm rfl (by omega) (by omega) hs) (by ((repeat (first | exact Part.nil | (apply Part.cons; · ((repeat (first | exact mem_h | exact Up.here | exact Sel.here | apply mem_t | apply Up.there | apply Sel.there)); first | done | fail)))); first | done | fail)) ?_
    rintro _ _ rfl
    (have hQq := trivial; repeat ((first | clear hQq | (with_reducible first | refine T_drw ?_ | refine T_bx fun _ => ?_ | refine s_al fun _ => ?_ | refine s_bs0 fun _ => ?_ | refine s_bs1 (hK := fun _ => ?_) | refine s_bs2 (hK := fun _ => ?_) | refine s_bs3 (hK := fun _ => ?_) | refine s_bs5 (hK := fun _ => ?_) | refine s_bs6 (hK := fun _ => ?_))); (try simp (disch := first | omega | assumption | ((repeat (first | exact mem_h | exact Up.here | apply mem_t | apply Up.there)); first | done | fail) | (simp; first | done | omega | fail)) [])))
    exact T_ret (by simp [ip6P, c1, c2, c3, c4, c5])
end Go.Proofs.YtggakcpabomliaaGreat
namespace Go.Proofs.YtggakcpabomliaaGreat
open Go
theorem T_inv {κ : Bool} {X : Nat → Prop} {S : List Nat} {w0 : World} {H : List Res} {K : Value → WP} {g u : Value} {name : String} {args : List Value} {f : FuncId} {args' : Array Value} (hr : ∀ w, (callMethod g name args.toArray).run PR w = .ok (.enter f args') w)
    (hf : ∀ w, LW κ S w0 H w → Fn PR NoX f args' w (fun v w' => v = u ∧ But [] w w')) (hK : TW κ S w0 H (K u)) : TW κ S w0 H (inv PR X g name args K) := fun w hw =>
  ⟨f, args', hr w, (hf w hw).use fun v w' ⟨h1, h2⟩ hsk => by subst h1; exact hK w' (hw.ext (h2.ks fun _ => hsk))⟩
theorem eqV_iface1 {P : Program} {t : TypeId} {n m : Nat} {z : Value} {ms : Array (String × TypeId)} {e : Nat} (h : TI P t (.interface ms) n m z) : EqV P (e + 1) t .nilIface .nilIface true := by
  intro w
  simp only [Op.equalIn, Sem.run_bind, h.run_und, Result.andThen_ok]; rfl
theorem eqV_iface2 {P : Program} {t : TypeId} {n m : Nat} {z : Value} {ms : Array (String × TypeId)} {e : Nat} (h : TI P t (.interface ms) n m z) (u : TypeId) (v : Value) : EqV P (e + 1) t (.iface u v) .nilIface false := by
  intro w
  simp only [Op.equalIn, Sem.run_bind, h.run_und, Result.andThen_ok]; rfl
theorem eqIface {t : TypeId} {op : BinOp} {x y : Operand} {g : Value} {r : Bool} {K : Value → WP} (hg : (eqGuard .eql t x y g .nilIface) = pure ()) (he : EqV PR 10000 t g .nilIface r) : rds PR (eqS .eql t x y g .nilIface) K = K (.bool r) := by
  funext w
  refine rds_of ?_ K
  have := he w
  simp [eqS, hg, binOp, Op.equal, Op.maxDepth, this]
theorem eqIface1 {x : Operand} {c : Value} {K : Value → WP} : rds PR (eqS .eql 212 x (.const c) .nilIface .nilIface) K = K (.bool true) := eqIface (op := .eql) (by cases x <;> rfl) (eqV_iface1 (e := 9999) ty212)
theorem eqIface2 {x y : Operand} {K : Value → WP} {u : TypeId} {v : Value} : rds PR (eqS .eql 212 x y (.iface u v) .nilIface) K = K (.bool false) := eqIface (op := .eql) (by rfl) (eqV_iface2 (e := 9999) ty212 u v)
abbrev tcpI : Value := .iface 263 (.agg #[])
abbrev udpI : Value := .iface 264 (.agg #[])
def protoM : List (Int × Value) := [(6, tcpI), (17, udpI)]
theorem protos_ok (w : World) : Fn PR NoX 145 #[] w (Rn [] w (fun r v => v = .map (some r)) fun r => [.pt r (mapO (Value.int .i64) protoM)]) := by
  refine mk_port_protos (TW.go (κ := false) (S := []) ?_)
  unfold sh_port_protos
  refine T_mkmap (Value.int .i64) fun r => ?_
  (have hQq := trivial; repeat ((first | clear hQq | (with_reducible first | refine T_drw ?_ | refine T_bx fun _ => ?_ | refine s_al fun _ => ?_)); (try simp (disch := first | omega | assumption | ((repeat (first | exact mem_h | exact Up.here | apply mem_t | apply Up.there)); first | done | fail) | (simp; first | done | omega | fail)) [])))
  refine T_mapset ty213 (KeyT.int ty3) (k := 6) (by ((repeat (first | exact mem_h | exact Up.here | exact Sel.here | apply mem_t | apply Up.there | apply Sel.there)); first | done | fail)) ?_
  (have hQq := trivial; repeat ((first | clear hQq | (with_reducible first | refine T_drw ?_ | refine T_bx fun _ => ?_ | refine s_al fun _ => ?_)); (try simp (disch := first | omega | assumption | ((repeat (first | exact mem_h | exact Up.here | apply mem_t | apply Up.there)); first | done | fail) | (simp; first | done | omega | fail)) [])))
  refine T_mapset ty213 (KeyT.int ty3) (k := 17) (by ((repeat (first | exact mem_h | exact Up.here | exact Sel.here | apply mem_t | apply Up.there | apply Sel.there)); first | done | fail)) ?_
  exact T_retn r rfl (by simp [mset, protoM])
/-- flags, or an error -/
def tcpV (s : ByteArray) : Nat × Nat := if s.size < 20 then (0, 2) else if byteAt s 12 / 16 * 4 < 20 ∨ s.size < byteAt s 12 / 16 * 4 then (0, 8) else (byteAt s 13, 0)
def udpV (s : ByteArray) : Nat × Nat := if s.size < 8 then (0, 2) else if gv s 4 2 < 8 ∨ s.size < gv s 4 2 then (0, 4) else (0, 0)
theorem tcpParse_ok (w : World) (s : ByteArray) (hs : s.size < 2 ^ 40) : Fn PR NoX 253 #[.agg #[], .string s] w (fun v w' => v = .tuple #[.int .i64 (tcpV s).1, .int .i64 (tcpV s).2] ∧ But [] w w') := by
  refine Fn.pure (mk_port_tcp_parse (TW.go (κ := false) (S := []) ?_))
  unfold sh_port_tcp_parse
  by_cases c1 : s.size < 20
  · have c1' : (s.size : Int) < 20 := by omega
    (have hQq := trivial; repeat ((first | clear hQq | (with_reducible first | refine T_drw ?_ | refine T_bx fun _ => ?_ | refine s_al fun _ => ?_)); (try simp (disch := first | omega | assumption | ((repeat (first | exact mem_h | exact Up.here | apply mem_t | apply Up.there)); first | done | fail) | (simp; first | done | omega | fail)) [c1']))); exact T_ret (by simp [tcpV, c1])
  have c1' : ¬ (s.size : Int) < 20 := by omega
  obtain ⟨by0, hb0, hb1⟩ := byte_get (s := s) (i := 12) (by omega)
  obtain ⟨by1, hb2, hb3⟩ := byte_get (s := s) (i := 13) (by omega)
  have hb0' : s[(12 : Int).toNat]? = some by0 := hb0
  have hb2' : s[(13 : Int).toNat]? = some by1 := hb2
  have hl0 := byteAt_lt s 12
  have hl1 := byteAt_lt s 13
  have e1 : ((by0.toNat : Nat) : Int).fdiv (2 ^ min 4 IntKind.u8.bits) = (byteAt s 12 / 16 : Nat) := by rw [show (2 : Int) ^ min 4 IntKind.u8.bits = 16 from rfl, Int.fdiv_eq_ediv_of_nonneg _ (by omega), hb1]; omega
  have e2 : IntKind.i64.wrap (by1.toNat : Nat) = (byteAt s 13 : Nat) := by rw [wrap64 (by omega) (by omega), hb3]
  have l1 : ∀ n : Nat, ((n * 4 : Nat) : Int) = (n : Int) * 4 := by omega
  by_cases c2 : byteAt s 12 / 16 * 4 < 20
  · have c2' : ((byteAt s 12 : Nat) : Int) / 16 * 4 < 20 := by omega
    (have hQq := trivial; repeat ((first | clear hQq | (with_reducible first | refine T_drw ?_ | refine T_bx fun _ => ?_ | refine s_al fun _ => ?_)); (try simp (disch := first | omega | assumption | ((repeat (first | exact mem_h | exact Up.here | apply mem_t | apply Up.there)); first | done | fail) | (simp; first | done | omega | fail)) [c1', i_is_9])))
    rw [e1]
    (have hQq := trivial; repeat ((first | clear hQq | (with_reducible first | refine T_drw ?_ | refine T_bx fun _ => ?_ | refine s_al fun _ => ?_)); (try simp (disch := first | omega | assumption | ((repeat (first | exact mem_h | exact Up.here | apply mem_t | apply Up.there)); first | done | fail) | (simp; first | done | omega | fail)) [c2'])))
    exact T_ret (by simp [tcpV, c1, c2])
  have c2' : ¬ ((byteAt s 12 : Nat) : Int) / 16 * 4 < 20 := by omega
  by_cases c3 : s.size < byteAt s 12 / 16 * 4
  · have c3' : (s.size : Int) < ((byteAt s 12 : Nat) : Int) / 16 * 4 := by omega
    (have hQq := trivial; repeat ((first | clear hQq | (with_reducible first | refine T_drw ?_ | refine T_bx fun _ => ?_ | refine s_al fun _ => ?_)); (try simp (disch := first | omega | assumption | ((repeat (first | exact mem_h | exact Up.here | apply mem_t | apply Up.there)); first | done | fail) | (simp; first | done | omega | fail)) [c1', i_is_9])))
    rw [e1]
    (have hQq := trivial; repeat ((first | clear hQq | (with_reducible first | refine T_drw ?_ | refine T_bx fun _ => ?_ | refine s_al fun _ => ?_)); (try simp (disch := first | omega | assumption | ((repeat (first | exact mem_h | exact Up.here | apply mem_t | apply Up.there)); first | done | fail) | (simp; first | done | omega | fail)) [c2', c3'])))
    exact T_ret (by simp [tcpV, c1, c2, c3])
  have c3' : ¬ (s.size : Int) < ((byteAt s 12 : Nat) : Int) / 16 * 4 := by omega
  (have hQq := trivial; repeat ((first | clear hQq | (with_reducible first | refine T_drw ?_ | refine T_bx fun _ => ?_ | refine s_al fun _ => ?_)); (try simp (disch := first | omega | assumption | ((repeat (first | exact mem_h | exact Up.here | apply mem_t | apply Up.there)); first | done | fail) | (simp; first | done | omega | fail)) [c1', i_is_9])))
  rw [e1]
  (have hQq := trivial; repeat ((first | clear hQq | (with_reducible first | refine T_drw ?_ | refine T_bx fun _ => ?_ | refine s_al fun _ => ?_)); (try simp (disch := first | omega | assumption | ((repeat (first | exact mem_h | exact Up.here | apply mem_t | apply Up.there)); first | done | fail) | (simp; first | done | omega | fail)) [c2', c3', i_is_9, e2])))
  exact T_ret (by simp [tcpV, c1, c2, c3, hb3])
def z1 : ByteArray := ByteArray.mk #[0]
def tcpP (f : Int) : ByteArray × Nat := if f < 0 ∨ 255 < f then (noB, 1) else (repV z1 8 ++ ByteArray.mk #[80] ++ putV f 1 ++ repV z1 6, 0)
def udpP (f : Int) : ByteArray × Nat := if f ≠ 0 then (noB, 1) else (ByteArray.mk #[0, 8, 0, 0], 0)
theorem repz8 (w : World) : Fn PR NoX 255 #[.string (ByteArray.mk #[0]), .int .i64 8] w (fun v w' => v = .string (repV z1 8) ∧ But [] w w') := Repeat_ok w z1 8 (by omega) (by decide)
theorem repz6 (w : World) : Fn PR NoX 255 #[.string (ByteArray.mk #[0]), .int .i64 6] w (fun v w' => v = .string (repV z1 6) ∧ But [] w w') := Repeat_ok w z1 6 (by omega) (by decide)
theorem repz_size (c : Nat) : (repV z1 c).size = c := by
  have : ∀ (l : List UInt8) (n : Nat), (Lib.repeatL l n).length = n * l.length := by
    intro l n
    induction n with
    | zero => simp [Lib.repeatL]
    | succ n ih => simp [Lib.repeatL, ih, Nat.add_mul, Nat.add_comm]
  show (Lib.repeatL z1.data.toList c).toArray.size = c
  rw [List.size_toArray, this]; simp [z1]
theorem tcpPut_ok (w : World) (f : Int) : Fn PR NoX 254 #[.agg #[], .int .i64 f] w (fun v w' => v = .tuple #[.string (tcpP f).1, .int .i64 (tcpP f).2] ∧ But [] w w') := by
  refine Fn.pure (mk_port_tcp_put (TW.go (κ := false) (S := []) ?_))
  unfold sh_port_tcp_put
  by_cases c1 : f < 0
  · (have hQq := trivial; repeat ((first | clear hQq | (with_reducible first | refine T_drw ?_ | refine T_bx fun _ => ?_ | refine s_al fun _ => ?_)); (try simp (disch := first | omega | assumption | ((repeat (first | exact mem_h | exact Up.here | apply mem_t | apply Up.there)); first | done | fail) | (simp; first | done | omega | fail)) [c1]))); exact T_ret (by simp [tcpP, c1])
  by_cases c2 : 255 < f
  · (have hQq := trivial; repeat ((first | clear hQq | (with_reducible first | refine T_drw ?_ | refine T_bx fun _ => ?_ | refine s_al fun _ => ?_)); (try simp (disch := first | omega | assumption | ((repeat (first | exact mem_h | exact Up.here | apply mem_t | apply Up.there)); first | done | fail) | (simp; first | done | omega | fail)) [c1, c2]))); exact T_ret (by simp [tcpP, c2])
  (have hQq := trivial; repeat ((first | clear hQq | (with_reducible first | refine T_drw ?_ | refine T_bx fun _ => ?_ | refine s_al fun _ => ?_)); (try simp (disch := first | omega | assumption | ((repeat (first | exact mem_h | exact Up.here | apply mem_t | apply Up.there)); first | done | fail) | (simp; first | done | omega | fail)) [c1, c2])))
  have h8 := repz_size 8
  have h6 := repz_size 6
  refine T_cv ent_strings_Repeat (fun w' hw' => repz8 w') ?_
  (have hQq := trivial; repeat ((first | clear hQq | (with_reducible first | refine T_drw ?_ | refine T_bx fun _ => ?_ | refine s_al fun _ => ?_)); (try simp (disch := first | omega | assumption | ((repeat (first | exact mem_h | exact Up.here | apply mem_t | apply Up.there)); first | done | fail) | (simp; first | done | omega | fail)) [c1, c2, p_addS])))
  refine T_cv ent_octet_Put (fun w' hw' => Put_ok w' _ _) ?_
  (have hQq := trivial; repeat ((first | clear hQq | (with_reducible first | refine T_drw ?_ | refine T_bx fun _ => ?_ | refine s_al fun _ => ?_)); (try simp (disch := first | omega | assumption | ((repeat (first | exact mem_h | exact Up.here | apply mem_t | apply Up.there)); first | done | fail) | (simp; first | done | omega | fail)) [c1, c2, p_addS])))
  refine T_cv ent_strings_Repeat (fun w' hw' => repz6 w') ?_
  (have hQq := trivial; repeat ((first | clear hQq | (with_reducible first | refine T_drw ?_ | refine T_bx fun _ => ?_ | refine s_al fun _ => ?_)); (try simp (disch := first | omega | assumption | ((repeat (first | exact mem_h | exact Up.here | apply mem_t | apply Up.there)); first | done | fail) | (simp; first | done | omega | fail)) [c1, c2, p_addS])))
  exact T_ret (by simp [tcpP, c1, c2])
theorem udpParse_ok (w : World) (s : ByteArray) (hs : s.size < 2 ^ 40) : Fn PR NoX 265 #[.agg #[], .string s] w (fun v w' => v = .tuple #[.int .i64 (udpV s).1, .int .i64 (udpV s).2] ∧ But [] w w') := by
  refine Fn.pure (mk_port_udp_parse (TW.go (κ := false) (S := []) ?_))
  unfold sh_port_udp_parse
  by_cases c1 : s.size < 8
  · have c1' : (s.size : Int) < 8 := by omega
    (have hQq := trivial; repeat ((first | clear hQq | (with_reducible first | refine T_drw ?_ | refine T_bx fun _ => ?_ | refine s_al fun _ => ?_)); (try simp (disch := first | omega | assumption | ((repeat (first | exact mem_h | exact Up.here | apply mem_t | apply Up.there)); first | done | fail) | (simp; first | done | omega | fail)) [c1']))); exact T_ret (by simp [udpV, c1])
  have c1' : ¬ (s.size : Int) < 8 := by omega
  (have hQq := trivial; repeat ((first | clear hQq | (with_reducible first | refine T_drw ?_ | refine T_bx fun _ => ?_ | refine s_al fun _ => ?_)); (try simp (disch := first | omega | assumption | ((repeat (first | exact mem_h | exact Up.here | apply mem_t | apply Up.there)); first | done | fail) | (simp; first | done | omega | fail)) [c1'])))
  refine T_cv ent_octet_Get (fun w' _ => Get_ok w' s (by omega) _ _) ?_
  have e1 := getV_gv s 4 2 (by omega) (by omega)
  have e1' : getV s 4 2 = gv s 4 2 := e1
  have hg := gv_lt2 s 4
  by_cases c2 : gv s 4 2 < 8
  · have c2' : ((gv s 4 2 : Nat) : Int) < 8 := by omega
    (have hQq := trivial; repeat ((first | clear hQq | (with_reducible first | refine T_drw ?_ | refine T_bx fun _ => ?_ | refine s_al fun _ => ?_)); (try simp (disch := first | omega | assumption | ((repeat (first | exact mem_h | exact Up.here | apply mem_t | apply Up.there)); first | done | fail) | (simp; first | done | omega | fail)) [e1', c2, c2'])))
    exact T_ret (by simp [udpV, c1, c2])
  have c2' : ¬ ((gv s 4 2 : Nat) : Int) < 8 := by omega
  by_cases c3 : s.size < gv s 4 2
  · have c3' : ((s.size : Nat) : Int) < gv s 4 2 := by omega
    (have hQq := trivial; repeat ((first | clear hQq | (with_reducible first | refine T_drw ?_ | refine T_bx fun _ => ?_ | refine s_al fun _ => ?_)); (try simp (disch := first | omega | assumption | ((repeat (first | exact mem_h | exact Up.here | apply mem_t | apply Up.there)); first | done | fail) | (simp; first | done | omega | fail)) [e1', c2, c2', c3, c3'])))
    exact T_ret (by simp [udpV, c1, c2, c3])
  have c3' : ¬ ((s.size : Nat) : Int) < gv s 4 2 := by omega
  (have hQq := trivial; repeat ((first | clear hQq | (with_reducible first | refine T_drw ?_ | refine T_bx fun _ => ?_ | refine s_al fun _ => ?_)); (try simp (disch := first | omega | assumption | ((repeat (first | exact mem_h | exact Up.here | apply mem_t | apply Up.there)); first | done | fail) | (simp; first | done | omega | fail)) [e1', c2, c2', c3, c3'])))
  exact T_ret (by simp [udpV, c1, c2, c3])
theorem udpPut_ok (w : World) (f : Int) : Fn PR NoX 266 #[.agg #[], .int .i64 f] w (fun v w' => v = .tuple #[.string (udpP f).1, .int .i64 (udpP f).2] ∧ But [] w w') := by
  refine Fn.pure (mk_port_udp_put (TW.go (κ := false) (S := []) ?_))
  unfold sh_port_udp_put
  by_cases c1 : f = 0
  · (have hQq := trivial; repeat ((first | clear hQq | (with_reducible first | refine T_drw ?_ | refine T_bx fun _ => ?_ | refine s_al fun _ => ?_)); (try simp (disch := first | omega | assumption | ((repeat (first | exact mem_h | exact Up.here | apply mem_t | apply Up.there)); first | done | fail) | (simp; first | done | omega | fail)) [c1]))); exact T_ret (by simp [udpP, c1])
  · (have hQq := trivial; repeat ((first | clear hQq | (with_reducible first | refine T_drw ?_ | refine T_bx fun _ => ?_ | refine s_al fun _ => ?_)); (try simp (disch := first | omega | assumption | ((repeat (first | exact mem_h | exact Up.here | apply mem_t | apply Up.there)); first | done | fail) | (simp; first | done | omega | fail)) [c1]))); exact T_ret (by simp [udpP, c1])
def protoV (number : Int) (s : ByteArray) : Nat × Nat := if number = 6 then tcpV s else if number = 17 then udpV s else (0, 7)
/-- ports and flags, or an error -/
def portV (number : Int) (s : ByteArray) : Nat × Nat × Nat × Nat := if (protoV number s).2 ≠ 0 then (0, 0, 0, (protoV number s).2) else (gv s 0 2, gv s 2 2, (protoV number s).1, 0)
def portV.val (x : Nat × Nat × Nat × Nat) : Value := .tuple #[.agg #[.int .i64 x.1, .int .i64 x.2.1, .int .i64 x.2.2.1], .int .i64 x.2.2.2]
theorem callM_tcp_parse (w : World) (s : ByteArray) : (callMethod tcpI "gangplank/port.parse" [Value.string s].toArray).run PR w = .ok (.enter 253 #[.agg #[], .string s]) w := by kernel_rfl
theorem callM_udp_parse (w : World) (s : ByteArray) : (callMethod udpI "gangplank/port.parse" [Value.string s].toArray).run PR w = .ok (.enter 265 #[.agg #[], .string s]) w := by kernel_rfl
theorem callM_tcp_put (w : World) (f : Int) : (callMethod tcpI "gangplank/port.put" [Value.int .i64 f].toArray).run PR w = .ok (.enter 254 #[.agg #[], .int .i64 f]) w := by kernel_rfl
theorem callM_udp_put (w : World) (f : Int) : (callMethod udpI "gangplank/port.put" [Value.int .i64 f].toArray).run PR w = .ok (.enter 266 #[.agg #[], .int .i64 f]) w := by kernel_rfl
theorem portParse_ok (w : World) (s : ByteArray) (hs : s.size < 2 ^ 40) (number : Int) : Fn PR NoX 154 #[.int .i64 number, .string s] w (fun v w' => v = portV.val (portV number s) ∧ But [] w w') := by
  refine Fn.pure (mk_port_Parse (TW.go (κ := false) (S := []) ?_))
  unfold sh_port_Parse
  (have hQq := trivial; repeat ((first | clear hQq | (with_reducible first | refine T_drw ?_ | refine T_bx fun _ => ?_ | refine s_al fun _ => ?_)); (try simp (disch := first | omega | assumption | ((repeat (first | exact mem_h | exact Up.here | apply mem_t | apply Up.there)); first | done | fail) | (simp; first | done | omega | fail)) [])))
  refine T_cn ent_port_protos (fun w' _ => protos_ok w') ?_
  rintro r v rfl
  (have hQq := trivial; repeat ((first | clear hQq | (with_reducible first | refine T_drw ?_ | refine T_bx fun _ => ?_ | refine s_al fun _ => ?_)); (try simp (disch := first | omega | assumption | ((repeat (first | exact mem_h | exact Up.here | apply mem_t | apply Up.there)); first | done | fail) | (simp; first | done | omega | fail)) [])))
  rw [T_lookup ty213 ty212 (KeyT.int ty3) (l := protoM) (by ((repeat (first | exact mem_h | exact Up.here | exact Sel.here | apply mem_t | apply Up.there | apply Sel.there)); first | done | fail))]
  have fin : ∀ {f1 : Nat} {b : Nat}, True := fun {_ _} => trivial
  have hg0 := gv_lt2 s 0
  have hg2 := gv_lt2 s 2
  have e1 : getV s 0 2 = gv s 0 2 := getV_gv s 0 2 (by omega) (by omega)
  have e2 : getV s 2 2 = gv s 2 2 := getV_gv s 2 2 (by omega) (by omega)
  by_cases c1 : number = 6
  · rw [show (mget number protoM).getD .nilIface = tcpI by subst c1; rfl]
    (have hQq := trivial; repeat ((first | clear hQq | (with_reducible first | refine T_drw ?_ | refine T_bx fun _ => ?_ | refine s_al fun _ => ?_)); (try simp (disch := first | omega | assumption | ((repeat (first | exact mem_h | exact Up.here | apply mem_t | apply Up.there)); first | done | fail) | (simp; first | done | omega | fail)) [eqIface1, eqIface2])))
    refine T_inv (fun w => callM_tcp_parse w s) (fun w' hw' => tcpParse_ok w' s hs) ?_
    by_cases c2 : (tcpV s).2 = 0
    · (have hQq := trivial; repeat ((first | clear hQq | (with_reducible first | refine T_drw ?_ | refine T_bx fun _ => ?_ | refine s_al fun _ => ?_)); (try simp (disch := first | omega | assumption | ((repeat (first | exact mem_h | exact Up.here | apply mem_t | apply Up.there)); first | done | fail) | (simp; first | done | omega | fail)) [c2])))
      refine T_cv ent_octet_Get (fun w' _ => Get_ok w' s (by omega) _ _) ?_
      (have hQq := trivial; repeat ((first | clear hQq | (with_reducible first | refine T_drw ?_ | refine T_bx fun _ => ?_ | refine s_al fun _ => ?_)); (try simp (disch := first | omega | assumption | ((repeat (first | exact mem_h | exact Up.here | apply mem_t | apply Up.there)); first | done | fail) | (simp; first | done | omega | fail)) [e1])))
      refine T_cv ent_octet_Get (fun w' _ => Get_ok w' s (by omega) _ _) ?_
      (have hQq := trivial; repeat ((first | clear hQq | (with_reducible first | refine T_drw ?_ | refine T_bx fun _ => ?_ | refine s_al fun _ => ?_)); (try simp (disch := first | omega | assumption | ((repeat (first | exact mem_h | exact Up.here | apply mem_t | apply Up.there)); first | done | fail) | (simp; first | done | omega | fail)) [e1, e2])))
      exact T_ret (by simp [portV, protoV, portV.val, c1, c2])
    · (have hQq := trivial; repeat ((first | clear hQq | (with_reducible first | refine T_drw ?_ | refine T_bx fun _ => ?_ | refine s_al fun _ => ?_)); (try simp (disch := first | omega | assumption | ((repeat (first | exact mem_h | exact Up.here | apply mem_t | apply Up.there)); first | done | fail) | (simp; first | done | omega | fail)) [c2])))
      exact T_ret (by simp [portV, protoV, portV.val, c1, c2])
  by_cases c1' : number = 17
  · rw [show (mget number protoM).getD .nilIface = udpI by subst c1'; rfl]
    (have hQq := trivial; repeat ((first | clear hQq | (with_reducible first | refine T_drw ?_ | refine T_bx fun _ => ?_ | refine s_al fun _ => ?_)); (try simp (disch := first | omega | assumption | ((repeat (first | exact mem_h | exact Up.here | apply mem_t | apply Up.there)); first | done | fail) | (simp; first | done | omega | fail)) [eqIface1, eqIface2])))
    refine T_inv (fun w => callM_udp_parse w s) (fun w' hw' => udpParse_ok w' s hs) ?_
    by_cases c2 : (udpV s).2 = 0
    · (have hQq := trivial; repeat ((first | clear hQq | (with_reducible first | refine T_drw ?_ | refine T_bx fun _ => ?_ | refine s_al fun _ => ?_)); (try simp (disch := first | omega | assumption | ((repeat (first | exact mem_h | exact Up.here | apply mem_t | apply Up.there)); first | done | fail) | (simp; first | done | omega | fail)) [c2])))
      refine T_cv ent_octet_Get (fun w' _ => Get_ok w' s (by omega) _ _) ?_
      (have hQq := trivial; repeat ((first | clear hQq | (with_reducible first | refine T_drw ?_ | refine T_bx fun _ => ?_ | refine s_al fun _ => ?_)); (try simp (disch := first | omega | assumption | ((repeat (first | exact mem_h | exact Up.here | apply mem_t | apply Up.there)); first | done | fail) | (simp; first | done | omega | fail)) [e1])))
      refine T_cv ent_octet_Get (fun w' _ => Get_ok w' s (by omega) _ _) ?_
      (have hQq := trivial; repeat ((first | clear hQq | (with_reducible first | refine T_drw ?_ | refine T_bx fun _ => ?_ | refine s_al fun _ => ?_)); (try simp (disch := first | omega | assumption | ((repeat (first | exact mem_h | exact Up.here | apply mem_t | apply Up.there)); first | done | fail) | (simp; first | done | omega | fail)) [e1, e2])))
      exact T_ret (by simp [portV, protoV, portV.val, c1', c2])
    · (have hQq := trivial; repeat ((first | clear hQq | (with_reducible first | refine T_drw ?_ | refine T_bx fun _ => ?_ | refine s_al fun _ => ?_)); (try simp (disch := first | omega | assumption | ((repeat (first | exact mem_h | exact Up.here | apply mem_t | apply Up.there)); first | done | fail) | (simp; first | done | omega | fail)) [c2])))
      exact T_ret (by simp [portV, protoV, portV.val, c1', c2])
  · rw [show (mget number protoM).getD .nilIface = .nilIface by simp [mget, protoM, c1, c1']]
    (have hQq := trivial; repeat ((first | clear hQq | (with_reducible first | refine T_drw ?_ | refine T_bx fun _ => ?_ | refine s_al fun _ => ?_)); (try simp (disch := first | omega | assumption | ((repeat (first | exact mem_h | exact Up.here | apply mem_t | apply Up.there)); first | done | fail) | (simp; first | done | omega | fail)) [eqIface1, eqIface2])))
    exact T_ret (by simp [portV, protoV, portV.val, c1, c1'])
theorem app_noB (s : ByteArray) : s ++ noB = s := by apply ByteArray.ext; rw [ByteArray.data_append]; simp
theorem noB_app (s : ByteArray) : noB ++ s = s := by apply ByteArray.ext; rw [ByteArray.data_append]; simp
def port1 (x : Int) : ByteArray := if 0 ≤ x ∧ x ≤ 65535 then putV x 2 else noB
def portsOk (x y : Int) : Bool := decide (0 ≤ x ∧ x ≤ 65535 ∧ 0 ≤ y ∧ y ≤ 65535)
theorem ports_ok (w : World) (x y z : Int) : Fn PR NoX 146 #[.agg #[.int .i64 x, .int .i64 y, .int .i64 z]] w (fun v w' => v = .tuple #[.string (port1 x ++ port1 y), .bool (portsOk x y)] ∧ But [] w w') := by
  refine Fn.pure (mk_port_ports (TW.go (κ := false) (S := []) ?_))
  unfold sh_port_ports
  by_cases c1 : 0 ≤ x ∧ x ≤ 65535
  · have c1' := c1.1; have c1'' := c1.2
    (have hQq := trivial; repeat ((first | clear hQq | (with_reducible first | refine T_drw ?_ | refine T_bx fun _ => ?_ | refine s_al fun _ => ?_)); (try simp (disch := first | omega | assumption | ((repeat (first | exact mem_h | exact Up.here | apply mem_t | apply Up.there)); first | done | fail) | (simp; first | done | omega | fail)) [c1', c1''])))
    refine T_cv ent_octet_Put (fun w' hw' => Put_ok w' _ _) ?_
    by_cases c2 : 0 ≤ y ∧ y ≤ 65535
    · have c2' := c2.1; have c2'' := c2.2
      (have hQq := trivial; repeat ((first | clear hQq | (with_reducible first | refine T_drw ?_ | refine T_bx fun _ => ?_ | refine s_al fun _ => ?_)); (try simp (disch := first | omega | assumption | ((repeat (first | exact mem_h | exact Up.here | apply mem_t | apply Up.there)); first | done | fail) | (simp; first | done | omega | fail)) [c1', c1'', c2', c2''])))
      refine T_cv ent_octet_Put (fun w' hw' => Put_ok w' _ _) ?_
      (have hQq := trivial; repeat ((first | clear hQq | (with_reducible first | refine T_drw ?_ | refine T_bx fun _ => ?_ | refine s_al fun _ => ?_)); (try simp (disch := first | omega | assumption | ((repeat (first | exact mem_h | exact Up.here | apply mem_t | apply Up.there)); first | done | fail) | (simp; first | done | omega | fail)) [c1', c1'', c2', c2'', p_addS])))
      exact T_ret (by simp [app_noB, noB_app, port1, portsOk, c1, c2])
    · by_cases c3 : 0 ≤ y
      · have c4 : ¬ y ≤ 65535 := fun h => c2 ⟨c3, h⟩
        (have hQq := trivial; repeat ((first | clear hQq | (with_reducible first | refine T_drw ?_ | refine T_bx fun _ => ?_ | refine s_al fun _ => ?_)); (try simp (disch := first | omega | assumption | ((repeat (first | exact mem_h | exact Up.here | apply mem_t | apply Up.there)); first | done | fail) | (simp; first | done | omega | fail)) [c1', c1'', c3, c4])))
        exact T_ret (by simp [app_noB, noB_app, port1, portsOk, c1, c3, c4])
      · (have hQq := trivial; repeat ((first | clear hQq | (with_reducible first | refine T_drw ?_ | refine T_bx fun _ => ?_ | refine s_al fun _ => ?_)); (try simp (disch := first | omega | assumption | ((repeat (first | exact mem_h | exact Up.here | apply mem_t | apply Up.there)); first | done | fail) | (simp; first | done | omega | fail)) [c1', c1'', c3])))
        exact T_ret (by simp [app_noB, noB_app, port1, portsOk, c1, c3])
  · have hn : port1 x = noB := by simp [port1, c1]
    have ho : portsOk x y = false := by simp only [portsOk, decide_eq_false_iff_not]; exact fun h => c1 ⟨h.1, h.2.1⟩
    rw [hn, ho]
    have key : ∀ bx, TW false [] w [.pt bx (.cells #[.int .i64 x, .int .i64 y, .int .i64 z] 161)] = TW false [] w [.pt bx (.cells #[.int .i64 x, .int .i64 y, .int .i64 z] 161)] := fun _ => rfl
    by_cases c0 : 0 ≤ x
    · have c0' : ¬ x ≤ 65535 := fun h => c1 ⟨c0, h⟩
      by_cases c2 : 0 ≤ y ∧ y ≤ 65535
      · have c2' := c2.1; have c2'' := c2.2
        (have hQq := trivial; repeat ((first | clear hQq | (with_reducible first | refine T_drw ?_ | refine T_bx fun _ => ?_ | refine s_al fun _ => ?_)); (try simp (disch := first | omega | assumption | ((repeat (first | exact mem_h | exact Up.here | apply mem_t | apply Up.there)); first | done | fail) | (simp; first | done | omega | fail)) [c0, c0', c2', c2''])))
        refine T_cv ent_octet_Put (fun w' hw' => Put_ok w' _ _) ?_
        (have hQq := trivial; repeat ((first | clear hQq | (with_reducible first | refine T_drw ?_ | refine T_bx fun _ => ?_ | refine s_al fun _ => ?_)); (try simp (disch := first | omega | assumption | ((repeat (first | exact mem_h | exact Up.here | apply mem_t | apply Up.there)); first | done | fail) | (simp; first | done | omega | fail)) [c0, c0', c2', c2'', p_addS])))
        exact T_ret (by simp [app_noB, noB_app, port1, c2])
      · by_cases c3 : 0 ≤ y
        · have c4 : ¬ y ≤ 65535 := fun h => c2 ⟨c3, h⟩
          (have hQq := trivial; repeat ((first | clear hQq | (with_reducible first | refine T_drw ?_ | refine T_bx fun _ => ?_ | refine s_al fun _ => ?_)); (try simp (disch := first | omega | assumption | ((repeat (first | exact mem_h | exact Up.here | apply mem_t | apply Up.there)); first | done | fail) | (simp; first | done | omega | fail)) [c0, c0', c3, c4])))
          exact T_ret (by simp [app_noB, noB_app, port1, c3, c4])
        · (have hQq := trivial; repeat ((first | clear hQq | (with_reducible first | refine T_drw ?_ | refine T_bx fun _ => ?_ | refine s_al fun _ => ?_)); (try simp (disch := first | omega | assumption | ((repeat (first | exact mem_h | exact Up.here | apply mem_t | apply Up.there)); first | done | fail) | (simp; first | done | omega | fail)) [c0, c0', c3])))
          exact T_ret (by simp [app_noB, noB_app, port1, c3])
    · by_cases c2 : 0 ≤ y ∧ y ≤ 65535
      · have c2' := c2.1; have c2'' := c2.2
        (have hQq := trivial; repeat ((first | clear hQq | (with_reducible first | refine T_drw ?_ | refine T_bx fun _ => ?_ | refine s_al fun _ => ?_)); (try simp (disch := first | omega | assumption | ((repeat (first | exact mem_h | exact Up.here | apply mem_t | apply Up.there)); first | done | fail) | (simp; first | done | omega | fail)) [c0, c2', c2''])))
        refine T_cv ent_octet_Put (fun w' hw' => Put_ok w' _ _) ?_
        (have hQq := trivial; repeat ((first | clear hQq | (with_reducible first | refine T_drw ?_ | refine T_bx fun _ => ?_ | refine s_al fun _ => ?_)); (try simp (disch := first | omega | assumption | ((repeat (first | exact mem_h | exact Up.here | apply mem_t | apply Up.there)); first | done | fail) | (simp; first | done | omega | fail)) [c0, c2', c2'', p_addS])))
        exact T_ret (by simp [app_noB, noB_app, port1, c2])
      · by_cases c3 : 0 ≤ y
        · have c4 : ¬ y ≤ 65535 := fun h => c2 ⟨c3, h⟩
          (have hQq := trivial; repeat ((first | clear hQq | (with_reducible first | refine T_drw ?_ | refine T_bx fun _ => ?_ | refine s_al fun _ => ?_)); (try simp (disch := first | omega | assumption | ((repeat (first | exact mem_h | exact Up.here | apply mem_t | apply Up.there)); first | done | fail) | (simp; first | done | omega | fail)) [c0, c3, c4])))
          exact T_ret (by simp [app_noB, noB_app, port1, c3, c4])
        · (have hQq := trivial; repeat ((first | clear hQq | (with_reducible first | refine T_drw ?_ | refine T_bx fun _ => ?_ | refine s_al fun _ => ?_)); (try simp (disch := first | omega | assumption | ((repeat (first | exact mem_h | exact Up.here | apply mem_t | apply Up.there)); first | done | fail) | (simp; first | done | omega | fail)) [c0, c3])))
          exact T_ret (by simp [app_noB, noB_app, port1, c3])
def protoP (number f : Int) : ByteArray × Nat := if number = 6 then tcpP f else if number = 17 then udpP f else (noB, 7)
/-- ports and flags, as bytes; or an error -/
def portP (number x y f : Int) : ByteArray × Nat := if number ≠ 6 ∧ number ≠ 17 then (noB, 7) else if portsOk x y = false ∨ (protoP number f).2 ≠ 0 then (noB, 1) else (putV x 2 ++ putV y 2 ++ (protoP number f).1, 0)
theorem port1_ok {x y : Int} (h : portsOk x y = true) : port1 x ++ port1 y = putV x 2 ++ putV y 2 := by
  simp only [portsOk, decide_eq_true_eq] at h
  unfold port1; rw [if_pos (by omega), if_pos (by omega)]
theorem portPut_ok (w : World) (number x y f : Int) : Fn PR NoX 101 #[.int .i64 number, .agg #[.int .i64 x, .int .i64 y, .int .i64 f]] w (fun v w' => v = .tuple #[.string (portP number x y f).1, .int .i64 (portP number x y f).2] ∧ But [] w w') := by
  refine Fn.pure (mk_port_Put (TW.go (κ := false) (S := []) ?_))
  unfold sh_port_Put
  (have hQq := trivial; repeat ((first | clear hQq | (with_reducible first | refine T_drw ?_ | refine T_bx fun _ => ?_ | refine s_al fun _ => ?_)); (try simp (disch := first | omega | assumption | ((repeat (first | exact mem_h | exact Up.here | apply mem_t | apply Up.there)); first | done | fail) | (simp; first | done | omega | fail)) [])))
  refine T_cn ent_port_protos (fun w' _ => protos_ok w') ?_
  rintro r v rfl
  (have hQq := trivial; repeat ((first | clear hQq | (with_reducible first | refine T_drw ?_ | refine T_bx fun _ => ?_ | refine s_al fun _ => ?_)); (try simp (disch := first | omega | assumption | ((repeat (first | exact mem_h | exact Up.here | apply mem_t | apply Up.there)); first | done | fail) | (simp; first | done | omega | fail)) [])))
  rw [T_lookup ty213 ty212 (KeyT.int ty3) (l := protoM) (by ((repeat (first | exact mem_h | exact Up.here | exact Sel.here | apply mem_t | apply Up.there | apply Sel.there)); first | done | fail))]
  by_cases c1 : number = 6
  · rw [show (mget number protoM).getD .nilIface = tcpI by subst c1; rfl]
    (have hQq := trivial; repeat ((first | clear hQq | (with_reducible first | refine T_drw ?_ | refine T_bx fun _ => ?_ | refine s_al fun _ => ?_)); (try simp (disch := first | omega | assumption | ((repeat (first | exact mem_h | exact Up.here | apply mem_t | apply Up.there)); first | done | fail) | (simp; first | done | omega | fail)) [eqIface1, eqIface2])))
    refine T_cv ent_port_ports (fun w' hw' => ports_ok w' _ _ _) ?_
    (have hQq := trivial; repeat ((first | clear hQq | (with_reducible first | refine T_drw ?_ | refine T_bx fun _ => ?_ | refine s_al fun _ => ?_)); (try simp (disch := first | omega | assumption | ((repeat (first | exact mem_h | exact Up.here | apply mem_t | apply Up.there)); first | done | fail) | (simp; first | done | omega | fail)) [])))
    refine T_inv (fun w => callM_tcp_put w f) (fun w' hw' => tcpPut_ok w' f) ?_
    cases c3 : portsOk x y with
    | false => (have hQq := trivial; repeat ((first | clear hQq | (with_reducible first | refine T_drw ?_ | refine T_bx fun _ => ?_ | refine s_al fun _ => ?_)); (try simp (disch := first | omega | assumption | ((repeat (first | exact mem_h | exact Up.here | apply mem_t | apply Up.there)); first | done | fail) | (simp; first | done | omega | fail)) [c3]))); exact T_ret (by simp [portP, c1, c3])
    | true =>
      have hp := port1_ok c3
      by_cases c2 : (tcpP f).2 = 0
      · have hz : (port1 x).size + (port1 y).size + (tcpP f).1.size < 2 ^ 30 := by
          have := congrArg ByteArray.size hp
          simp at this
          have h6 := repz_size 6
          have h8 := repz_size 8
          have : (tcpP f).1.size ≤ 100 := by unfold tcpP; split <;> simp [h6, h8]
          omega
        (have hQq := trivial; repeat ((first | clear hQq | (with_reducible first | refine T_drw ?_ | refine T_bx fun _ => ?_ | refine s_al fun _ => ?_)); (try simp (disch := first | omega | assumption | ((repeat (first | exact mem_h | exact Up.here | apply mem_t | apply Up.there)); first | done | fail) | (simp; first | done | omega | fail)) [c2, c3, p_addS])))
        exact T_ret (by simp [portP, protoP, c1, c2, c3, hp])
      · (have hQq := trivial; repeat ((first | clear hQq | (with_reducible first | refine T_drw ?_ | refine T_bx fun _ => ?_ | refine s_al fun _ => ?_)); (try simp (disch := first | omega | assumption | ((repeat (first | exact mem_h | exact Up.here | apply mem_t | apply Up.there)); first | done | fail) | (simp; first | done | omega | fail)) [c2, c3])))
        exact T_ret (by simp [portP, protoP, c1, c2, c3])
  by_cases c1' : number = 17
  · rw [show (mget number protoM).getD .nilIface = udpI by subst c1'; rfl]
    (have hQq := trivial; repeat ((first | clear hQq | (with_reducible first | refine T_drw ?_ | refine T_bx fun _ => ?_ | refine s_al fun _ => ?_)); (try simp (disch := first | omega | assumption | ((repeat (first | exact mem_h | exact Up.here | apply mem_t | apply Up.there)); first | done | fail) | (simp; first | done | omega | fail)) [eqIface1, eqIface2])))
    refine T_cv ent_port_ports (fun w' hw' => ports_ok w' _ _ _) ?_
    (have hQq := trivial; repeat ((first | clear hQq | (with_reducible first | refine T_drw ?_ | refine T_bx fun _ => ?_ | refine s_al fun _ => ?_)); (try simp (disch := first | omega | assumption | ((repeat (first | exact mem_h | exact Up.here | apply mem_t | apply Up.there)); first | done | fail) | (simp; first | done | omega | fail)) [])))
    refine T_inv (fun w => callM_udp_put w f) (fun w' hw' => udpPut_ok w' f) ?_
    cases c3 : portsOk x y with
    | false => (have hQq := trivial; repeat ((first | clear hQq | (with_reducible first | refine T_drw ?_ | refine T_bx fun _ => ?_ | refine s_al fun _ => ?_)); (try simp (disch := first | omega | assumption | ((repeat (first | exact mem_h | exact Up.here | apply mem_t | apply Up.there)); first | done | fail) | (simp; first | done | omega | fail)) [c3]))); exact T_ret (by simp [portP, c1', c3])
    | true =>
      have hp := port1_ok c3
      by_cases c2 : (udpP f).2 = 0
      · have hz : (port1 x).size + (port1 y).size + (udpP f).1.size < 2 ^ 30 := by
          have := congrArg ByteArray.size hp
          simp at this
          have : (udpP f).1.size ≤ 100 := by unfold udpP; split <;> simp
          omega
        (have hQq := trivial; repeat ((first | clear hQq | (with_reducible first | refine T_drw ?_ | refine T_bx fun _ => ?_ | refine s_al fun _ => ?_)); (try simp (disch := first | omega | assumption | ((repeat (first | exact mem_h | exact Up.here | apply mem_t | apply Up.there)); first | done | fail) | (simp; first | done | omega | fail)) [c2, c3, p_addS])))
        exact T_ret (by simp [portP, protoP, c1', c2, c3, hp])
      · (have hQq := trivial; repeat ((first | clear hQq | (with_reducible first | refine T_drw ?_ | refine T_bx fun _ => ?_ | refine s_al fun _ => ?_)); (try simp (disch := first | omega | assumption | ((repeat (first | exact mem_h | exact Up.here | apply mem_t | apply Up.there)); first | done | fail) | (simp; first | done | omega | fail)) [c2, c3])))
        exact T_ret (by simp [portP, protoP, c1', c2, c3])
  · rw [show (mget number protoM).getD .nilIface = .nilIface by simp [mget, protoM, c1, c1']]
    (have hQq := trivial; repeat ((first | clear hQq | (with_reducible first | refine T_drw ?_ | refine T_bx fun _ => ?_ | refine s_al fun _ => ?_)); (try simp (disch := first | omega | assumption | ((repeat (first | exact mem_h | exact Up.here | apply mem_t | apply Up.there)); first | done | fail) | (simp; first | done | omega | fail)) [eqIface1, eqIface2])))
    exact T_ret (by simp [portP, c1, c1'])
end Go.Proofs.YtggakcpabomliaaGreat
