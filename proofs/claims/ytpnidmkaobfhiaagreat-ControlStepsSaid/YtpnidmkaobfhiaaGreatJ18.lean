/- The proof of a given statement, a part of it (Rf20i CqN Rf20b Rf20j Same19 Sam20 Plx StpI StpW). No condition but what each lemma says. -/
import Derived.Test.YtpnidmkaobfhiaaGreatJ17
set_option linter.unusedVariables false
set_option linter.unusedSimpArgs false
namespace Go.Proofs.YtpnidmkaobfhiaaGreat
open Go
def G1 (b : Nat) (r : RJ) (pins : List Int) (P : K8) (x : XH) : List Res := D9 b r :: .own 3 1 r.pins pins.length (C1 pins) :: C8 P :: D0 x
theorem Fn.permL {f : FuncId} {args : Array Value} {w : World} {α : Type} {φ : α → Value → Prop} {H Hc Hk : List Res} {Hn Hn' : α → List Res} (hp : H.Perm (Hc ++ Hk)) (h : LW false (B1 Hc) w Hc w → Fn PR B6 f args w (Rn (B1 Hc) w φ Hn)) (hn : ∀ a, (Hn a ++ Hk).Perm (Hn' a)) (hw : LW false (B1 H) w H w) : Fn PR B6 f args w (Rn (B1 H) w φ Hn') :=
 (h ((hw.perm hp).sub (List.sublist_append_left _ _)).self).mono fun v w' ⟨a, h1, h2⟩ => ⟨a, h1, ((hw.perm hp).part h2).perm (hn a)⟩
theorem K1 (b : Nat) (r : RJ) (pins : List Int) (P : K8) (x : XH) : (G1 b r pins P x).Perm (G0 b r pins x ++ [C8 P]) := List.Perm.cons _ (List.Perm.cons _ (List.perm_append_comm (l₁ := [C8 P]) (l₂ := D0 x)))
theorem A3f (b : Nat) (r : RJ) (pins : List Int) (P : K8) (x : XH) : (G1 b r pins P x).Perm ((D9 b r :: C8 P :: D0 x) ++ [.own 3 1 r.pins pins.length (C1 pins)]) := List.Perm.cons _ (show ([Res.own 3 1 r.pins pins.length (C1 pins)] ++ (C8 P :: D0 x)).Perm ((C8 P :: D0 x) ++ [Res.own 3 1 r.pins pins.length (C1 pins)]) from List.perm_append_comm)
theorem l3 (b : Nat) (r : RJ) (pins : List Int) (P : K8) (x : XH) : (G1 b r pins P x).Perm ((D9 b r :: D0 x) ++ [.own 3 1 r.pins pins.length (C1 pins), C8 P]) := List.Perm.cons _ (show ([Res.own 3 1 r.pins pins.length (C1 pins), C8 P] ++ D0 x).Perm (D0 x ++ [Res.own 3 1 r.pins pins.length (C1 pins), C8 P]) from List.perm_append_comm)
def D15 (op : OpV) (j : JV) (r : RJ) (pins : List Int) (P : K8) : Prop := match j with
 | .upd u => op.kind = 1 ∧ op.pool = u.pool ∧ pins = u.pins ∧ (u.b.st ≠ -1 → r.slot = u.slot ∧ r.old = u.old)
 | .exp e => op.kind = 2 ∧ op.shard = e.shard ∧ r.place = (e.place : Nat) ∧ (r.tab, e.table) ∈ P
 | .sta _ => op.kind = 3
 | .non _ => ¬ op.kind = 1 ∧ ¬ op.kind = 2 ∧ ¬ op.kind = 3
structure RelJ (op : OpV) (pv : Value) (j : JV) (r : RJ) (pins : List Int) (P : K8) : Prop where
 ho : r.op = op
 pv : r.pv = pv
 who : r.who = j.b.who
 st : r.st = j.b.st
 ans : r.ans = j.b.ans
 k : D15 op j r pins P
abbrev RQ := RJ × List Int × K8 × XH
structure RqF (op : OpV) (pa : Option Addr) (pc : Nat) (P : K8) (x : XH) (j' : JV) (X' : WS) (y : RQ) : Prop where
 b : y.2.2.2.b = x.b
 r : XRel X' y.2.2.2.xs
 j : RelJ op (.slice pa op.pool.length pc) j' y.1 y.2.1 y.2.2.1
 sub : c6 y.2.2.2.ts y.2.2.1
 mono : c6 P y.2.2.1
 grow : ∀ t ∈ y.2.2.1, t ∈ P ∨ ∃ e, j' = .exp e ∧ t.2 = e.table
 pools : ∀ q ∈ y.2.2.2.sl, q ∈ x.sl ∨ (∀ p, q.1 ≠ .rdy p) ∨ q = (.rdy op.pool, pa, op.pool.length, pc)
theorem B0A {l : List Q7} {i : Int} {r q : Q7} (h : q ∈ s7 l i r) : q ∈ l ∨ q = r := by
 unfold s7 at h
 split at h
 ·exact List.mem_or_eq_of_mem_set h
 ·exact Or.inl h
theorem C2K {X : WS} {y : XS} (hr : XRel X y) {k : Nat} (hk : (k : Int) < X.c.wk) : D5 X.cells (F9 X.c ((k : Int) + 1)) = y.pins.getD (k + 1) 0 := by
 have h := hr.pins (k + 1) (by omega) (by omega)
 have hp : F9 X.c ((k : Int) + 1) = 1 + ((k + 1 : Nat) : Int) := by unfold F9; rw [if_neg (by omega)]; omega
 rw [hp, h]
set_option maxHeartbeats 1000000 in
theorem C6M {N E : Nat} (w : World) (b : Nat) (op : OpV) (pa : Option Addr) (pc : Nat) (j : JU) (X : WS) (r : RJ) (pins : List Int) (P : K8) (x : XH) (hE : E ≤ 1000) (hg : CI N E (.upd j) X) (hst : j.b.st ≠ -1) (hr : XRel X x.xs) (hR : RelJ op (.slice pa op.pool.length pc) (.upd j) r pins P) (hpl : op.pool.length ≤ 1000) (hsub : c6 x.ts P)
  (hrd : ∀ w', KS false (B1 (G1 b r pins P x)) w w' → D2 w' (.slice pa op.pool.length pc) op.pool.length (op.pool.flatMap E6)) (hw : LW false (B1 (G1 b r pins P x)) w (G1 b r pins P x) w) :
  Fn PR B6 56 #[.pointer (some ⟨b, 0, none⟩), .pointer (some ⟨x.b, 0, none⟩)] w (Rn (B1 (G1 b r pins P x)) w (fun (y : RQ) u => u = D8 (H0 j X).2.2 ∧ RqF op pa pc P x (.upd (H0 j X).1) (H0 j X).2.1 y) fun y => G1 b y.1 y.2.1 y.2.2.1 y.2.2.2) := by
 obtain ⟨hop, hpv, hwho, hs, hans, hk1, hk2, rfl, hk4⟩ := hR
 subst hop
 obtain ⟨hsl, hold⟩ := hk4 hst
 replace hs : r.st = j.b.st := hs
 replace hwho : r.who = j.b.who := hwho
 replace hans : r.ans = j.b.ans := hans
 obtain ⟨hW, ⟨s1, s2, s3, s4, s5⟩, hf, hk, hcp⟩ := hg
 have s3' := s3 (by omega)
 have hwk := hW.ok.wk
 have hcl := hW.ok.cells
 have hep := hW.ep
 have hxc : x.c = X.c := hr.c
 have hxe : x.ep = D5 X.cells 0 := hr.ep
 have hxk : x.keep = X.keep := hr.keep
 have hxs : p8 x.sl = X.sl := hr.sl
 have hxpn : (x.pins.length : Int) = X.c.wk + 1 := hr.pl
 have hsl8 : x.sl.length ≤ 8 := by have h1 := congrArg List.length hxs; have h2 := hW.ok.sl; simp at h1; omega
 have hk8 : x.keep.length = x.sl.length := by rw [hxk, hk.len, ← hxs]; simp
 have hz : ∀ y ∈ x.keep, y.1 = 0 → y.2 = 0 := by rw [hxk]; exact hk.z
 have htk := B18 X.keep
 have hw1 := ((hw.perm (K1 b r j.pins P x)).sub (List.sublist_append_left _ _)).self (κ' := false)
 have hrd1 : ∀ w', KS false (B1 (G0 b r j.pins x)) w w' → D2 w' (.slice pa r.op.pool.length pc) r.op.pool.length (r.op.pool.flatMap E6) := fun w' hk => hrd w' (hk.mono fun z hz => by
  obtain ⟨q, hq, hzq⟩ := K5.1 hz
  exact K5.2 ⟨q, (K1 b r j.pins P x).mem_iff.2 (List.mem_append_left _ hq), hzq⟩)
 have hold0 : ∀ q ∈ x.sl, q ∈ x.sl ∨ (∀ p, q.1 ≠ .rdy p) ∨ q = (.rdy r.op.pool, pa, r.op.pool.length, pc) := fun q hq => Or.inl hq
 have hgr0 : ∀ (j' : JV), ∀ t ∈ P, t ∈ P ∨ ∃ e, j' = .exp e ∧ t.2 = e.table := fun _ t ht => Or.inl ht
 unfold H0
 by_cases c1 : j.b.st = 0 ∧ T9 j ≠ 0
 ·rw [if_pos c1]
  obtain ⟨c0, cb⟩ := c1
  unfold T9 at cb ⊢
  by_cases cw : j.b.who = 0
  ·rw [if_pos cw] at cb ⊢
   rw [show G2 j.pool = G2 r.op.pool by rw [hk2]] at cb ⊢
   refine Fn.mono (Fn.permL (K1 b r j.pins P x) (fun h => C0b w b r j.pins x pa pc (by omega) (by rw [hxc]; exact hwk) (by omega) hpv hpl cb hrd1 h) (fun _ => (K1 b (r.refuse (G2 r.op.pool)) j.pins P x).symm) hw) fun u w' ⟨_, h1, h2⟩ => ?_
   exact ⟨(r.refuse (G2 r.op.pool), j.pins, P, x), ⟨h1, rfl, hr, ⟨rfl, hpv, hwho, rfl, rfl, hk1, hk2, rfl, fun g => absurd rfl g⟩, hsub, fun _ h => h, hgr0 _, hold0⟩, h2⟩
  ·rw [if_neg cw] at cb ⊢
   refine Fn.mono (Fn.permL (K1 b r j.pins P x) (fun h => B9y w b r j.pins x (by omega) (by rw [hxc]; exact hwk) (by omega) h) (fun _ => (K1 b (r.refuse 1) j.pins P x).symm) hw) fun u w' ⟨_, h1, h2⟩ => ?_
   exact ⟨(r.refuse 1, j.pins, P, x), ⟨h1, rfl, hr, ⟨rfl, hpv, hwho, rfl, rfl, hk1, hk2, rfl, fun g => absurd rfl g⟩, hsub, fun _ h => h, hgr0 _, hold0⟩, h2⟩
 rw [if_neg c1]
 have hU : UpG w b r j.pins x pa pc := ⟨by rw [hxc]; exact hwk, fun g => by
  have hb : T9 j = 0 := Decidable.byContradiction fun h => c1 ⟨by omega, h⟩
  unfold T9 at hb
  by_cases cw : j.b.who = 0
  ·rw [if_pos cw] at hb; rw [hk2]; exact ⟨by omega, hb⟩
  ·rw [if_neg cw] at hb; omega, by rw [hxc]; omega, hpv, hpl, hrd1⟩
 by_cases c2 : j.b.st = 0 ∨ j.b.st - X.c.wk < 0
 ·rw [if_pos c2]
  obtain ⟨k, hk0⟩ : ∃ k : Nat, j.b.st = k := ⟨j.b.st.toNat, by omega⟩
  have hkw : (k : Int) < X.c.wk := by omega
  rw [hk0, C2K hr hkw]
  refine Fn.mono (Fn.permL (K1 b r j.pins P x) (fun h => B9j w b r j.pins x pa pc k _ hU (by omega) (by rw [hxc]; exact hkw) (by rw [hxc]; exact hxpn) rfl (by omega) h) (fun v => (K1 b { r with st := k + 1, pins := v } (j.pins ++ [x.pins.getD (k + 1) 0]) P x).symm) hw) fun u w' ⟨v, h1, h2⟩ => ?_
  exact ⟨({ r with st := k + 1, pins := v }, _, P, x), ⟨h1, rfl, hr, ⟨rfl, hpv, hwho, by simp only [JV.b, E4]; omega, hans, hk1, hk2, rfl, fun _ => ⟨hsl, hold⟩⟩, hsub, fun _ h => h, hgr0 _, hold0⟩, h2⟩
 rw [if_neg c2]
 by_cases d0 : j.b.st - X.c.wk = 0
 ·rw [if_pos d0]
  have hst' : r.st = x.c.wk := by rw [hxc]; omega
  unfold U0
  rw [← hxk]
  by_cases e1 : 0 ≤ G3 x.keep j.pins
  ·rw [if_pos e1]
   refine Fn.mono (Fn.permL (K1 b r j.pins P x) (fun h => B0m w b r j.pins x pa pc hU hst' (fun _ _ h => ⟨_, h⟩) (fun w' h' => B8W w' b r x j.pins (by omega) hsl8 hk8 e1 h') h) (fun v => (K1 b r j.pins P { x with slv := v.1, kev := v.2, sl := S9 x.sl (G3 x.keep j.pins), keep := m4 x.keep (G3 x.keep j.pins) }).symm) hw) fun u w' ⟨v, h1, h2⟩ => ?_
   refine ⟨(r, j.pins, P, { x with slv := v.1, kev := v.2, sl := S9 x.sl (G3 x.keep j.pins), keep := m4 x.keep (G3 x.keep j.pins) }), ⟨h1, rfl, { hr with sl := ?_, keep := rfl }, ⟨rfl, hpv, hwho, hs, hans, hk1, hk2, rfl, fun _ => ⟨hsl, hold⟩⟩, hsub, fun _ h => h, hgr0 _, fun q hq => ?_⟩, h2⟩
   ·show p8 (S9 x.sl _) = g5 X.sl _ .no
    unfold S9; rw [A7e, hxs]; rfl
   ·rcases B0A hq with hq | rfl
    ·exact Or.inl hq
    ·exact Or.inr (Or.inl fun p h => by cases h)
  rw [if_neg e1]
  by_cases e2 : E5 x.keep < 0
  ·rw [if_pos e2]
   refine Fn.mono (Fn.permL (K1 b r j.pins P x) (fun h => B0m w b r j.pins x pa pc hU hst' (fun _ _ h => ⟨_, h⟩) (fun w' h' => B8v w' b r x j.pins (by omega) hsl8 hk8 hz e1 e2 h') h) (fun _ => (K1 b (r.refuse 13) j.pins P x).symm) hw) fun u w' ⟨v, h1, h2⟩ => ?_
   exact ⟨(r.refuse 13, j.pins, P, x), ⟨h1, rfl, hr, ⟨rfl, hpv, hwho, rfl, rfl, hk1, hk2, rfl, fun g => absurd rfl g⟩, hsub, fun _ h => h, hgr0 _, hold0⟩, h2⟩
  rw [if_neg e2]
  refine Fn.mono (Fn.permL (K1 b r j.pins P x) (fun h => B0m w b r j.pins x pa pc hU hst' (fun _ _ h => ⟨_, h⟩) (fun w' h' => B9Z w' b r x j.pins (by omega) (by omega) hsl8 hk8 hz e1 e2 h') h) (fun v => (K1 b { r with st := r.st + 1, slot := E5 x.keep } j.pins P { x with slv := v.1, kev := v.2, sl := L7 x.sl (E5 x.keep), keep := M6 x.keep }).symm) hw) fun u w' ⟨v, h1, h2⟩ => ?_
  refine ⟨({ r with st := r.st + 1, slot := E5 x.keep }, j.pins, P, { x with slv := v.1, kev := v.2, sl := L7 x.sl (E5 x.keep), keep := M6 x.keep }), ⟨h1, rfl, { hr with sl := ?_, keep := rfl }, ⟨rfl, hpv, hwho, by simp only [JV.b]; rw [hs], hans, hk1, hk2, rfl, fun _ => ⟨rfl, hold⟩⟩, hsub, fun _ h => h, hgr0 _, fun q hq => ?_⟩, h2⟩
  ·show p8 (L7 x.sl _) = g5 X.sl _ .bld
   unfold L7; rw [A7e, hxs]
  ·rcases B0A hq with hq | rfl
   ·exact Or.inl hq
   ·exact Or.inr (Or.inl fun p h => by cases h)
 rw [if_neg d0]
 by_cases d1 : j.b.st - X.c.wk = 1
 ·rw [if_pos d1]
  have hst' : r.st = x.c.wk + 1 := by rw [hxc]; omega
  refine Fn.mono (Fn.permL (K1 b r j.pins P x) (fun h => C0W w b r j.pins x pa pc hU hst' hsl8 h) (fun v => (K1 b { r with st := r.st + 1 } j.pins P { x with slv := v, sl := S6 x.sl r.slot r.op.pool (pa, r.op.pool.length, pc) }).symm) hw) fun u w' ⟨v, h1, h2⟩ => ?_
  refine ⟨({ r with st := r.st + 1 }, j.pins, P, { x with slv := v, sl := S6 x.sl r.slot r.op.pool (pa, r.op.pool.length, pc) }), ⟨h1, rfl, { hr with sl := ?_ }, ⟨rfl, hpv, hwho, by simp only [JV.b, E4]; rw [hs], hans, hk1, hk2, rfl, fun _ => ⟨hsl, hold⟩⟩, hsub, fun _ h => h, hgr0 _, fun q hq => ?_⟩, h2⟩
  ·show p8 (S6 x.sl _ _ _) = r4 X.sl _ _
   rw [B6c, hxs, hsl, hk2]
  ·replace hq : q ∈ S6 x.sl r.slot r.op.pool (pa, r.op.pool.length, pc) := hq
   unfold S6 at hq
   split at hq
   ·rcases B0A hq with hq | rfl
    ·exact Or.inl hq
    ·exact Or.inr (Or.inr rfl)
   ·exact Or.inl hq
 rw [if_neg d1]
 by_cases d2 : j.b.st - X.c.wk = 2
 ·rw [if_pos d2]
  have hst' : r.st = x.c.wk + 2 := by rw [hxc]; omega
  refine Fn.mono (Fn.permL (K1 b r j.pins P x) (fun h => B9r w b r j.pins x pa pc hU hst' h) (fun _ => (K1 b { r with st := r.st + 1, old := x.cur } j.pins P x).symm) hw) fun u w' ⟨v, h1, h2⟩ => ?_
  exact ⟨({ r with st := r.st + 1, old := x.cur }, j.pins, P, x), ⟨h1, rfl, hr, ⟨rfl, hpv, hwho, by simp only [JV.b, E4]; rw [hs], hans, hk1, hk2, rfl, fun _ => ⟨hsl, hr.cur⟩⟩, hsub, fun _ h => h, hgr0 _, hold0⟩, h2⟩
 rw [if_neg d2]
 by_cases d3 : j.b.st - X.c.wk = 3
 ·rw [if_pos d3]
  have hst' : r.st = x.c.wk + 3 := by rw [hxc]; omega
  refine Fn.mono (Fn.permL (K1 b r j.pins P x) (fun h => B97 w b r j.pins x pa pc hU hst' (by omega) h) (fun _ => (K1 b { r with st := r.st + 1 } j.pins P { x with cur := r.slot + 1 }).symm) hw) fun u w' ⟨v, h1, h2⟩ => ?_
  refine ⟨({ r with st := r.st + 1 }, j.pins, P, { x with cur := r.slot + 1 }), ⟨h1, rfl, { hr with ep := ?_, cur := ?_, pins := fun i g1 g2 => ?_ }, ⟨rfl, hpv, hwho, by simp only [JV.b, E4]; rw [hs], hans, hk1, hk2, rfl, fun _ => ⟨hsl, hold⟩⟩, hsub, fun _ h => h, hgr0 _, hold0⟩, h2⟩
  ·show x.ep = D5 (K9 X.cells 1 (j.slot + 1)) 0
   rw [Q4 _ _ (by omega)]; exact hxe
  ·show r.slot + 1 = D5 (K9 X.cells 1 (j.slot + 1)) 1
   rw [b9, if_pos (by omega), hsl]
  ·show x.pins.getD i 0 = D5 (K9 X.cells 1 (j.slot + 1)) (1 + i)
   rw [Q4 _ _ (by omega)]; exact hr.pins i g1 g2
 rw [if_neg d3]
 have hst' : r.st = x.c.wk + 4 := by rw [hxc]; omega
 have he : IntKind.i64.wrap (D5 X.cells 0 + 1) = x.ep + 1 := by rw [hxe]; exact N1 (by omega) (by omega)
 unfold A5F
 rw [he]
 refine Fn.mono (Fn.permL (K1 b r j.pins P x) (fun h => B9x w b r j.pins x pa pc hU hst' (by omega) (by omega) (by omega) h) (fun v => (K1 b { r with st := -1 } j.pins P { x with kev := v, ep := x.ep + 1, keep := if 0 < r.old then l6 x.keep (r.old - 1) (x.ep + 1) else x.keep }).symm) hw) fun u w' ⟨v, h1, h2⟩ => ?_
 refine ⟨({ r with st := -1 }, j.pins, P, { x with kev := v, ep := x.ep + 1, keep := if 0 < r.old then l6 x.keep (r.old - 1) (x.ep + 1) else x.keep }), ⟨h1, rfl, { hr with ep := ?_, cur := ?_, pins := fun i g1 g2 => ?_, keep := ?_ }, ⟨rfl, hpv, hwho, rfl, hans, hk1, hk2, rfl, fun g => absurd rfl g⟩, hsub, fun _ h => h, hgr0 _, hold0⟩, h2⟩
 ·show x.ep + 1 = D5 (K9 X.cells 0 (x.ep + 1)) 0
  rw [b9, if_pos (by omega)]
 ·show x.cur = D5 (K9 X.cells 0 (x.ep + 1)) 1
  rw [Q4 _ _ (by omega)]; exact hr.cur
 ·show x.pins.getD i 0 = D5 (K9 X.cells 0 (x.ep + 1)) (1 + i)
  rw [Q4 _ _ (by omega)]; exact hr.pins i g1 g2
 ·show (if 0 < r.old then l6 x.keep (r.old - 1) (x.ep + 1) else x.keep) = if 0 < (E4 j).old then l6 X.keep ((E4 j).old - 1) (x.ep + 1) else X.keep
  rw [hxk, hold]; rfl
end Go.Proofs.YtpnidmkaobfhiaaGreat
namespace Go.Proofs.YtpnidmkaobfhiaaGreat
open Go
def W0 (who : Int) (op : OpV) (pv : Value) : CJ :=
 if op.kind = 1 then .upd (U5 who op.pool) pv L9 else if op.kind = 2 then .exp ⟨⟨who, 0, noA⟩, op.shard, 0, []⟩ L9 else if op.kind = 3 then .sta ⟨who, 0, noA⟩ else .non ⟨who, 0, noA⟩
theorem B72 (w : World) (who : Int) (op : OpV) (pa : Option Addr) (pn pc : Nat) :
  Fn PR B6 10 #[.int .i64 who, op.val (.slice pa pn pc)] w (Rn [] w (fun (x : Nat × Nat) u => u = .pointer (some ⟨x.1, 0, none⟩)) fun x => F7 x.1 ((W0 who op (.slice pa pn pc)).I x.2) :: p6 x.2 (W0 who op (.slice pa pn pc))) := by
 refine A7y (TW.go (κ := false) (S := []) ?_)
 unfold A3W
 obtain ⟨kind, packet, pool, shard⟩ := op
 unfold W0 OpV.val
 by_cases k1 : kind = 1
 ·subst k1
  refine j9 3 1 ?_
  (have zz:=trivial;repeat((first|clear zz|with_reducible first|refine A3 ?_|refine A5 fun _=>?_|refine A4 fun _=>?_);try simp(disch:=first|omega|assumption|((repeat(first|exact A1|exact uH|apply A2|apply uT));first|done|fail)|(simp;first|done|omega|fail))[]))
  rename_i a1 a2 a3 a4
  refine B0 (a4, a3) rfl ?_
  simp only [if_true, CJ.I, p6, F7, M3, P1, U5, D3, noA, L9, C1, List.map_nil, List.length_nil]
  (repeat' constructor)
 by_cases k2 : kind = 2
 ·subst k2
  (have zz:=trivial;repeat((first|clear zz|with_reducible first|refine A3 ?_|refine A5 fun _=>?_|refine A4 fun _=>?_);try simp(disch:=first|omega|assumption|((repeat(first|exact A1|exact uH|apply A2|apply uT));first|done|fail)|(simp;first|done|omega|fail))[]))
  rename_i a1 a2 a3 a4
  refine B0 (a4, a3) rfl ?_
  simp only [show ¬ ((2 : Int) = 1) by omega, if_false, if_true, CJ.I, p6, F7, v7, D3, noA, L9]
  (repeat' constructor)
 by_cases k3 : kind = 3
 ·subst k3
  (have zz:=trivial;repeat((first|clear zz|with_reducible first|refine A3 ?_|refine A5 fun _=>?_|refine A4 fun _=>?_);try simp(disch:=first|omega|assumption|((repeat(first|exact A1|exact uH|apply A2|apply uT));first|done|fail)|(simp;first|done|omega|fail))[]))
  rename_i a1 a2 a3 a4
  refine B0 (a4, a3) rfl ?_
  simp only [show ¬ ((3 : Int) = 1) by omega, show ¬ ((3 : Int) = 2) by omega, if_false, if_true, CJ.I, p6, F7, A2Y, D3, noA, L9]
  (repeat' constructor)
 (have zz:=trivial;repeat((first|clear zz|with_reducible first|refine A3 ?_|refine A5 fun _=>?_|refine A4 fun _=>?_);try simp(disch:=first|omega|assumption|((repeat(first|exact A1|exact uH|apply A2|apply uT));first|done|fail)|(simp;first|done|omega|fail))[k1, k2, k3]))
 rename_i a1 a2 a3 a4
 refine B0 (a4, a3) rfl ?_
 simp only [if_neg k1, if_neg k2, if_neg k3, CJ.I, p6, F7, A4J, D3, noA, L9]
 (repeat' constructor)
theorem B57 (N : Nat) (x : WS) {who : Int} (hw : 0 ≤ who) (op : OpV) (pv : Value) (hwk : 1 ≤ x.c.wk) (hN : 1 ≤ N) : JvI N x (W0 who op pv).v := by
 unfold W0
 split
 ·exact ⟨⟨by simp [U5], by simp [U5] <;> omega⟩, by simp [U5] <;> omega, fun _ => by simp [U5], by simp [U5], by simp [U5]⟩
 split
 ·exact ⟨hw, by simp, Or.inl A59, fun g => absurd g (by simp), fun g => absurd g (by simp)⟩
 split
 ·exact ⟨hw, by simp <;> omega, fun i _ g => absurd g (by simp <;> omega)⟩
 ·exact Or.inl rfl
theorem B4r {who : Int} {op : OpV} {pv : Value} {P : K8} (hP : (L9, []) ∈ P) : RelJ op pv (W0 who op pv).v (A2T who op pv) [] P := by
 unfold W0
 by_cases k1 : op.kind = 1
 ·rw [if_pos k1]; exact ⟨rfl, rfl, rfl, rfl, rfl, k1, rfl, rfl, fun _ => ⟨rfl, rfl⟩⟩
 rw [if_neg k1]
 by_cases k2 : op.kind = 2
 ·rw [if_pos k2]; exact ⟨rfl, rfl, rfl, rfl, rfl, k2, rfl, rfl, hP⟩
 rw [if_neg k2]
 by_cases k3 : op.kind = 3
 ·rw [if_pos k3]; exact ⟨rfl, rfl, rfl, rfl, rfl, k3⟩
 rw [if_neg k3]
 exact ⟨rfl, rfl, rfl, rfl, rfl, k1, k2, k3⟩
theorem B6n {who : Int} {op : OpV} {pv : Value} {P : K8} (hP : (L9, []) ∈ P) : cjT (W0 who op pv) P := by
 unfold W0
 split
 ·trivial
 split
 ·exact hP
 split
 ·trivial
 ·trivial
theorem B5u {w : World} {who : Int} {op : OpV} {pv : Value} (h1 : op.pool.length ≤ 1000) (h2 : D2 w pv op.pool.length (op.pool.flatMap E6)) : (W0 who op pv).RdP w := by
 unfold W0
 split
 ·exact ⟨h1, h2⟩
 split
 ·trivial
 split
 ·trivial
 ·trivial
theorem C8b {κ : Bool} {S : List Nat} {w0 : World} {α : Type} (Hh : α → List Res) (φ : α → Prop) (μ : α → Nat) (x0 : α) {F : (Value → Value → Value → Value → Value → WP) → Value → Value → Value → Value → Value → WP} (v1 v2 v3 v4 v5 : α → Value) (h0 : φ x0)
  (hs : ∀ x, φ x → ∀ L : Value → Value → Value → Value → Value → WP, (∀ x', φ x' → μ x' < μ x → TW κ S w0 (Hh x') (L (v1 x') (v2 x') (v3 x') (v4 x') (v5 x'))) → TW κ S w0 (Hh x) (F L (v1 x) (v2 x) (v3 x) (v4 x) (v5 x))) : TW κ S w0 (Hh x0) (lp (n := 5) F (v1 x0) (v2 x0) (v3 x0) (v4 x0) (v5 x0)) := fun w hw =>
 B08 (n := 5) (F := F) (vs := [v1 x0, v2 x0, v3 x0, v4 x0, v5 x0]) (fun x vs w => vs = [v1 x, v2 x, v3 x, v4 x, v5 x] ∧ φ x ∧ LW κ S w0 (Hh x) w) μ rfl x0 ⟨rfl, h0, hw⟩ fun x vs w hl ⟨he, h1, h2⟩ L hL => by
  subst he; exact hs x h1 (fun a b c d e => L [a, b, c, d, e]) (fun x' h1' hlt w' hw' => hL x' [v1 x', v2 x', v3 x', v4 x', v5 x'] w' ⟨rfl, h1', hw'⟩ hlt) w h2
theorem p5a (W C X : List Res) (t q1 q2 t2 : Res) : ((W ++ (C ++ [t])) ++ (q1 :: q2 :: t2 :: X)).Perm ((W ++ (X ++ [t, t2])) ++ ([q1, q2] ++ C)) := by
 have e1 : (W ++ (C ++ [t])) ++ (q1 :: q2 :: t2 :: X) = W ++ ((C ++ ([t] ++ ([q1, q2] ++ [t2]))) ++ X) := by simp
 have e2 : (W ++ (X ++ [t, t2])) ++ ([q1, q2] ++ C) = W ++ (X ++ ([t] ++ ([t2] ++ ([q1, q2] ++ C)))) := by simp
 rw [e1, e2]
 refine List.Perm.append_left W (List.perm_append_comm.trans (List.Perm.append_left X ?_))
 refine (List.perm_append_comm_assoc C [t] _).trans (List.Perm.append_left [t] ?_)
 refine (List.Perm.append_left C List.perm_append_comm).trans ?_
 refine (List.perm_append_comm_assoc C [t2] _).trans (List.Perm.append_left [t2] List.perm_append_comm)
end Go.Proofs.YtpnidmkaobfhiaaGreat
namespace Go.Proofs.YtpnidmkaobfhiaaGreat
open Go
theorem C1d (w : World) (b : Nat) (j : RJ) (x : XH) (k n : Nat) (hst : j.st = k) (hc : x.c.sh = n) (hk : k < n) (hn : n ≤ 16) (hl : x.locks.length = n) (hw : LW false (B1 (D9 b j :: D0 x)) w (D9 b j :: D0 x) w) :
  Fn PR B6 58 #[.pointer (some ⟨b, 0, none⟩), .pointer (some ⟨x.b, 0, none⟩)] w (Rn (B1 (D9 b j :: D0 x)) w (fun (v : Value) u => u = D8 (decide ((k : Int) = n - 1), false, false)) fun v => D9 b { j with st := k + 1 } :: D0 { x with lov := v, locks := x.locks.set k j.who }) := by
 refine Y0 (TW.goH (κ := false) ?_ hw)
 unfold S5
 generalize hS : B1 (D9 b j :: D0 x) = S at *
 have hlt : k < x.locks.length := by omega
 have hge : ¬ x.locks.length ≤ k := by omega
 have hwr : IntKind.i64.wrap ((k : Int) + 1) = k + 1 := N1 (by omega) (by omega)
 have hwr2 : IntKind.i64.wrap ((n : Int) - 1) = n - 1 := N1 (by omega) (by omega)
 simp only [D9, P6, D0, G5, H2, hst, hc]
 refine P8 (e := 3) (k := 1) (v := x.lov) (q := x.locks.length) (xs := C1 x.locks) (by (repeat constructor)) (by omega) fun pg pc hpv => ?_
 rw [hpv]
 (have zz:=trivial;repeat((first|clear zz|with_reducible first|refine A3 ?_|refine A5 fun _=>?_|refine A4 fun _=>?_);try simp(disch:=first|omega|assumption|((repeat(first|exact A1|exact uH|apply A2|apply uT));first|done|fail)|(simp;first|done|omega|fail))[hk, hlt, hge, hwr, hwr2]))
 refine N0 (by (repeat constructor)) (by simp) (by simp; omega) (by simp) ?_
 have e : U7 (C1 x.locks) k (Value.int .i64 j.who).cells.toList = C1 (x.locks.set k j.who) := l9 hlt _
 rw [e]
 (have zz:=trivial;repeat((first|clear zz|with_reducible first|refine A3 ?_|refine A5 fun _=>?_|refine A4 fun _=>?_);try simp(disch:=first|omega|assumption|((repeat(first|exact A1|exact uH|apply A2|apply uT));first|done|fail)|(simp;first|done|omega|fail))[hk, hlt, hge, hwr, hwr2]))
 refine B0 (.slice (some ⟨pg, 0, none⟩) x.locks.length pc) rfl ?_
 (repeat' constructor)
theorem C1Y (w : World) (b : Nat) (j : RJ) (x : XH) (k n : Nat) (hst : j.st = (k + 2 * n : Nat)) (hc : x.c.sh = n) (hk : k < n) (hn : n ≤ 16) (hl : x.locks.length = n) (hw : LW false (B1 (D9 b j :: D0 x)) w (D9 b j :: D0 x) w) :
  Fn PR B6 58 #[.pointer (some ⟨b, 0, none⟩), .pointer (some ⟨x.b, 0, none⟩)] w (Rn (B1 (D9 b j :: D0 x)) w (fun (v : Value) u => u = D8 (false, decide (k + 1 = n), false)) fun v => D9 b { j with st := if k + 1 = n then -1 else j.st + 1 } :: D0 { x with lov := v, locks := x.locks.set k (-1) }) := by
 refine Y0 (TW.goH (κ := false) ?_ hw)
 unfold S5
 generalize hS : B1 (D9 b j :: D0 x) = S at *
 have hlt : k < x.locks.length := by omega
 have hge : ¬ x.locks.length ≤ k := by omega
 obtain ⟨q, hq⟩ : ∃ q : Int, q = j.st := ⟨_, rfl⟩
 have hqk : q = (k : Int) + 2 * n := by omega
 have hwr : IntKind.i64.wrap (q + 1) = q + 1 := N1 (by omega) (by omega)
 have hwr2 : IntKind.i64.wrap (2 * (n : Int)) = 2 * n := N1 (by omega) (by omega)
 have hwr3 : IntKind.i64.wrap (q - 2 * n) = k := by rw [N1 (by omega) (by omega)]; omega
 have hwr4 : IntKind.i64.wrap (3 * (n : Int)) = 3 * n := N1 (by omega) (by omega)
 have hwr5 : IntKind.i64.wrap (3 * (n : Int) - 1) = 3 * n - 1 := N1 (by omega) (by omega)
 have c1 : ¬ q < n := by omega
 have c2 : ¬ q < 2 * n := by omega
 rw [← hq]
 simp only [D9, P6, D0, G5, H2, ← hq, hc]
 refine P8 (e := 3) (k := 1) (v := x.lov) (q := x.locks.length) (xs := C1 x.locks) (by (repeat constructor)) (by omega) fun pg pc hpv => ?_
 rw [hpv]
 (have zz:=trivial;repeat((first|clear zz|with_reducible first|refine A3 ?_|refine A5 fun _=>?_|refine A4 fun _=>?_);try simp(disch:=first|omega|assumption|((repeat(first|exact A1|exact uH|apply A2|apply uT));first|done|fail)|(simp;first|done|omega|fail))[hlt, hge, hwr, hwr2, hwr3, hwr4, hwr5, c1, c2]))
 refine N0 (by (repeat constructor)) (by simp) (by simp; omega) (by simp) ?_
 have e : U7 (C1 x.locks) k (Value.int .i64 (-1)).cells.toList = C1 (x.locks.set k (-1)) := l9 hlt _
 rw [e]
 by_cases c3 : k + 1 = n
 ·have c4 : q = 3 * (n : Int) - 1 := by omega
  (have zz:=trivial;repeat((first|clear zz|with_reducible first|refine A3 ?_|refine A5 fun _=>?_|refine A4 fun _=>?_);try simp(disch:=first|omega|assumption|((repeat(first|exact A1|exact uH|apply A2|apply uT));first|done|fail)|(simp;first|done|omega|fail))[hlt, hge, hwr, hwr2, hwr3, hwr4, hwr5, c1, c2, c4]))
  refine B0 (.slice (some ⟨pg, 0, none⟩) x.locks.length pc) (by simp [c3, D8]) ?_
  simp only [D9, P6, D0, G5, H2, hc, List.length_set, if_pos c3]
  (repeat' constructor)
 ·have c4 : ¬ q = 3 * (n : Int) - 1 := by omega
  (have zz:=trivial;repeat((first|clear zz|with_reducible first|refine A3 ?_|refine A5 fun _=>?_|refine A4 fun _=>?_);try simp(disch:=first|omega|assumption|((repeat(first|exact A1|exact uH|apply A2|apply uT));first|done|fail)|(simp;first|done|omega|fail))[hlt, hge, hwr, hwr2, hwr3, hwr4, hwr5, c1, c2, c4]))
  refine B0 (.slice (some ⟨pg, 0, none⟩) x.locks.length pc) (by simp [c3, D8]) ?_
  simp only [D9, P6, D0, G5, H2, hc, List.length_set, if_neg c3]
  (repeat' constructor)
theorem C0V (w : World) (b : Nat) (j : RJ) (x : XH) (P : K8) (k n : Nat) (l : List EnV) (hst : j.st = (k + n : Nat)) (hc : x.c.sh = n) (hk : k < n) (hn : n ≤ 16) (hl : x.ts.length = n) (hsub : c6 x.ts P) (hk0 : (x.ts.map (·.2)).getD k [] = l) (hlen : l.length ≤ 1000000) (hw : LW false (B1 (D9 b j :: C8 P :: D0 x)) w (D9 b j :: C8 P :: D0 x) w) :
  Fn PR B6 58 #[.pointer (some ⟨b, 0, none⟩), .pointer (some ⟨x.b, 0, none⟩)] w (Rn (B1 (D9 b j :: C8 P :: D0 x)) w (fun (v : Value) u => u = D8 (false, false, false)) fun v => D9 b { j with st := j.st + 1, ans := { j.ans with count := IntKind.i64.wrap (j.ans.count + (N3 l 1 : Nat)) } } :: C8 P :: D0 { x with tav := v }) := by
 refine Y0 (TW.goH (κ := false) ?_ hw)
 unfold S5
 generalize hS : B1 (D9 b j :: C8 P :: D0 x) = S at *
 have htl : k < x.ts.length := by omega
 have htl' : ¬ x.ts.length ≤ k := by omega
 obtain ⟨q, hq⟩ : ∃ q : Int, q = j.st := ⟨_, rfl⟩
 have hqk : q = (k : Int) + n := by omega
 have hwr : IntKind.i64.wrap (q + 1) = q + 1 := N1 (by omega) (by omega)
 have hwr2 : IntKind.i64.wrap (2 * (n : Int)) = 2 * n := N1 (by omega) (by omega)
 have hwr3 : IntKind.i64.wrap (q - n) = k := by rw [N1 (by omega) (by omega)]; omega
 have c1 : ¬ q < n := by omega
 have c2 : q < 2 * n := by omega
 obtain ⟨⟨tv0, tl⟩, hx0⟩ : ∃ y, x.ts[k]? = some y := ⟨_, List.getElem?_eq_getElem htl⟩
 have hxm := List.mem_of_getElem? hx0
 have g0 : (x.ts.map (·.1))[k]? = some tv0 := by rw [List.getElem?_map, hx0]; rfl
 have gg : x.ts[k]'htl = (tv0, tl) := (List.getElem?_eq_some_iff.1 hx0).2
 obtain rfl : tl = l := by rw [← hk0, List.getD_eq_getElem?_getD, List.getElem?_map, hx0]; rfl
 rw [← hq]
 simp only [D9, P6, D0, G5, H2, ← hq, hc]
 refine P8 (e := 55) (k := 1) (v := x.tav) (q := x.ts.length) (xs := x.ts.map (·.1)) (by (repeat constructor)) (by omega) fun tg tc hta => ?_
 rw [hta]
 refine A1w (P := P) (v := tv0) (l := tl) (by (repeat constructor)) (hsub _ hxm) fun xa xc hxa => ?_
 subst hxa
 (have zz:=trivial;repeat((first|clear zz|with_reducible first|refine A3 ?_|refine A5 fun _=>?_|refine A4 fun _=>?_);try simp(disch:=first|omega|assumption|((repeat(first|exact A1|exact uH|apply A2|apply uT));first|done|fail)|(simp;first|done|omega|fail))[htl, htl', hwr, hwr2, hwr3, c1, c2, g0, gg]))
 refine D4 A0C (fun w' hw' => B2w w' _ tl 1 hlen (A7d (ts := P) (t := (.slice xa tl.length xc, tl)) hw' (by (repeat constructor)) (hsub _ hxm))) ?_
 (have zz:=trivial;repeat((first|clear zz|with_reducible first|refine A3 ?_|refine A5 fun _=>?_|refine A4 fun _=>?_);try simp(disch:=first|omega|assumption|((repeat(first|exact A1|exact uH|apply A2|apply uT));first|done|fail)|(simp;first|done|omega|fail))[]))
 refine B0 (.slice (some ⟨tg, 0, none⟩) x.ts.length tc) rfl ?_
 (repeat' constructor)
end Go.Proofs.YtpnidmkaobfhiaaGreat
namespace Go.Proofs.YtpnidmkaobfhiaaGreat
open Go
set_option maxHeartbeats 1000000 in
theorem C6d {N E : Nat} (w : World) (b : Nat) (op : OpV) (pa : Option Addr) (pc : Nat) (j : JE) (X : WS) (r : RJ) (pins : List Int) (P : K8) (x : XH) (hg : CI N E (.exp j) X) (hrd : (JV.exp j).ready X = true) (hr : XRel X x.xs) (hR : RelJ op (.slice pa op.pool.length pc) (.exp j) r pins P) (hsub : c6 x.ts P) (hkeys : ∀ t ∈ P, L5 t.2 ∧ t.2.length ≤ 1000000) (hw : LW false (B1 (G1 b r pins P x)) w (G1 b r pins P x) w) :
  Fn PR B6 57 #[.pointer (some ⟨b, 0, none⟩), .pointer (some ⟨x.b, 0, none⟩)] w (Rn (B1 (G1 b r pins P x)) w (fun (y : RQ) u => u = D8 (M1 j X).2.2 ∧ RqF op pa pc P x (.exp (M1 j X).1) (M1 j X).2.1 y) fun y => G1 b y.1 y.2.1 y.2.2.1 y.2.2.2) := by
 obtain ⟨hop, hpv, hwho, hs, hans, hk1, hk2, hk3, hk4⟩ := hR
 subst hop
 have hst := A6G hrd
 obtain ⟨hW, ⟨s0, s1, s2, s3, s4⟩, hf, hk, hcp⟩ := hg
 have how := hW.ow
 have htl := hW.tl
 have hxc : x.c = X.c := hr.c
 have hsh := hW.sh
 have hxl : x.locks = X.own := hr.locks
 have hxt : x.ts.map (·.2) = X.tabs := hr.tabs
 have hxtl : x.ts.length = N := by have h := congrArg List.length hxt; rw [List.length_map] at h; omega
 have hxp : x.pl = X.places := hr.places
 have hxpl : x.pl.length = N := by rw [hxp]; exact hW.pl
 have hxn : x.now = X.now := hr.now
 have hold0 : ∀ q ∈ x.sl, q ∈ x.sl ∨ (∀ p, q.1 ≠ .rdy p) ∨ q = (.rdy r.op.pool, pa, r.op.pool.length, pc) := fun q hq => Or.inl hq
 have hgr0 : ∀ (j' : JV), ∀ t ∈ P, t ∈ P ∨ ∃ e, j' = .exp e ∧ t.2 = e.table := fun _ t ht => Or.inl ht
 unfold M1
 have hstb : (JV.exp j).b.st = j.b.st := rfl
 by_cases c0 : A2n X j.shard = false
 ·rw [if_pos c0]
  have hout := (B9S htl).1 c0
  have hst0 : j.b.st = 0 := Decidable.byContradiction fun h => hout (s4 (by omega)).1
  refine Fn.mono (Fn.permL (l3 b r pins P x) (fun h => B99 w b r x (by omega) (by rw [hxc]; omega) h) (fun _ => (l3 b (r.refuse 1) pins P x).symm) hw) fun u w' ⟨_, h1, h2⟩ => ?_
  exact ⟨(r.refuse 1, pins, P, x), ⟨h1, rfl, hr, ⟨rfl, hpv, hwho, rfl, rfl, hk1, hk2, hk3, hk4⟩, hsub, fun _ h => h, hgr0 _, hold0⟩, h2⟩
 rw [if_neg c0]
 have hin : 0 ≤ j.shard ∧ j.shard < N := Decidable.byContradiction fun g => c0 ((B9S htl).2 g)
 obtain ⟨s, hs0⟩ : ∃ s : Nat, j.shard = s := ⟨j.shard.toNat, by omega⟩
 have hsl : s < X.own.length := by omega
 by_cases d0 : j.b.st = 0
 ·rw [if_pos d0]
  have hfr := B4b hf hrd d0 hs0 hsl
  rw [hs0, A3x hsl s0 hfr]
  refine Fn.mono (Fn.permL (l3 b r pins P x) (fun h => C1V w b r x s N (by omega) (by omega) (by rw [hxc]; exact hsh) (by omega) (by rw [hxl]; exact how) h) (fun v => (l3 b { r with st := 1 } pins P { x with lov := v, locks := x.locks.set s r.who }).symm) hw) fun u w' ⟨v, h1, h2⟩ => ?_
  refine ⟨({ r with st := 1 }, pins, P, { x with lov := v, locks := x.locks.set s r.who }), ⟨h1, rfl, { hr with locks := ?_ }, ⟨rfl, hpv, hwho, by simp only [JV.b, JE.up]; omega, hans, hk1, hk2, hk3, hk4⟩, hsub, fun _ h => h, hgr0 _, hold0⟩, h2⟩
  show x.locks.set s r.who = X.own.set s j.b.who
  rw [hxl, hwho]; rfl
 rw [if_neg d0]
 obtain ⟨_, hh⟩ := s4 (by omega)
 rw [hs0, Int.toNat_natCast] at hh
 by_cases d1 : j.b.st = 1
 ·rw [if_pos d1]
  have htab : Z2 X j.shard ∈ X.tabs := by
   unfold Z2
   rw [hs0, Int.toNat_natCast, List.getD_eq_getElem?_getD, List.getElem?_eq_getElem (by omega)]
   exact List.getElem_mem _
  have htk : L5 (Z2 X j.shard) ∧ (Z2 X j.shard).length ≤ 1000000 := by
   rw [← hxt] at htab
   obtain ⟨t, ht, e⟩ := List.mem_map.1 htab
   rw [← e]; exact hkeys t (hsub t ht)
  have e1 : (x.ts.map (·.2)).getD s [] = Z2 X j.shard := by rw [hxt]; unfold Z2; rw [hs0]; rfl
  have e2 : x.pl.getD s 0 = A1L X j.shard := by rw [hxp]; unfold A1L; rw [hs0]; rfl
  rw [← hxn]
  simp only
  refine Fn.mono (Fn.permL (A3f b r pins P x) (fun h => B9p w b r x P s N _ _ (by omega) (by omega) (by omega) hxtl hxpl e2 hsub e1 htk.1 htk.2 h) (fun y => (A3f b { r with st := 2, tab := y.1, place := ((H5 (Z2 X j.shard) (A1L X j.shard) 4 x.now).2.1 : Nat), ans := { r.ans with count := ((H5 (Z2 X j.shard) (A1L X j.shard) 4 x.now).2.2 : Nat) } } pins y.2 x).symm) hw) fun u w' ⟨y, ⟨h1, h3, h4⟩, h2⟩ => ?_
  refine ⟨({ r with st := 2, tab := y.1, place := ((H5 (Z2 X j.shard) (A1L X j.shard) 4 x.now).2.1 : Nat), ans := { r.ans with count := ((H5 (Z2 X j.shard) (A1L X j.shard) 4 x.now).2.2 : Nat) } }, pins, y.2, x), ⟨h1, rfl, hr, ⟨rfl, hpv, hwho, by simp only [JV.b]; omega, by simp only [hans]; rfl, hk1, hk2, rfl, h3⟩, fun t ht => h4.1 t (hsub t ht), h4.1, fun t ht => ?_, hold0⟩, h2⟩
  rcases h4.2 t ht with h | h
  ·exact Or.inl h
  ·exact Or.inr ⟨_, rfl, h⟩
 rw [if_neg d1]
 by_cases d2 : j.b.st = 2
 ·rw [if_pos d2]
  refine Fn.mono (Fn.permL (A3f b r pins P x) (fun h => C04 w b r x P s N j.place j.table (by omega) (by omega) hk3 (by omega) hxtl hxpl hk4 h) (fun v => (A3f b { r with st := 3 } pins P { x with tav := v.1, plv := v.2, ts := x.ts.set s (r.tab, j.table), pl := x.pl.set s j.place }).symm) hw) fun u w' ⟨v, h1, h2⟩ => ?_
  refine ⟨({ r with st := 3 }, pins, P, { x with tav := v.1, plv := v.2, ts := x.ts.set s (r.tab, j.table), pl := x.pl.set s j.place }), ⟨h1, rfl, { hr with tabs := ?_, places := ?_ }, ⟨rfl, hpv, hwho, by simp only [JV.b, JE.up]; omega, hans, hk1, hk2, hk3, hk4⟩, fun t ht => ?_, fun _ h => h, hgr0 _, hold0⟩, h2⟩
  ·show (x.ts.set s (r.tab, j.table)).map (·.2) = X.tabs.set j.shard.toNat j.table
   rw [List.map_set, hxt, hs0]; rfl
  ·show x.pl.set s j.place = X.places.set j.shard.toNat j.place
   rw [hxp, hs0]; rfl
  ·rcases List.mem_or_eq_of_mem_set (show t ∈ x.ts.set s (r.tab, j.table) from ht) with ht | rfl
   ·exact hsub t ht
   ·exact hk4
 rw [if_neg d2]
 rw [hs0, x8 hsl s0 hh]
 refine Fn.mono (Fn.permL (l3 b r pins P x) (fun h => C0m w b r x s N (by omega) (by omega) (by omega) (by rw [hxl]; exact how) h) (fun v => (l3 b { r with st := -1 } pins P { x with lov := v, locks := x.locks.set s (-1) }).symm) hw) fun u w' ⟨v, h1, h2⟩ => ?_
 refine ⟨({ r with st := -1 }, pins, P, { x with lov := v, locks := x.locks.set s (-1) }), ⟨h1, rfl, { hr with locks := ?_ }, ⟨rfl, hpv, hwho, rfl, hans, hk1, hk2.trans hs0, hk3, hk4⟩, hsub, fun _ h => h, hgr0 _, hold0⟩, h2⟩
 show x.locks.set s (-1) = X.own.set s (-1)
 rw [hxl]
set_option maxHeartbeats 1000000 in
theorem C58 {N E : Nat} (w : World) (b : Nat) (op : OpV) (pa : Option Addr) (pc : Nat) (j : JB) (X : WS) (r : RJ) (pins : List Int) (P : K8) (x : XH) (hg : CI N E (.sta j) X) (hrd : (JV.sta j).ready X = true) (hr : XRel X x.xs) (hR : RelJ op (.slice pa op.pool.length pc) (.sta j) r pins P) (hsub : c6 x.ts P) (hkeys : ∀ t ∈ P, L5 t.2 ∧ t.2.length ≤ 1000000) (hw : LW false (B1 (G1 b r pins P x)) w (G1 b r pins P x) w) :
  Fn PR B6 58 #[.pointer (some ⟨b, 0, none⟩), .pointer (some ⟨x.b, 0, none⟩)] w (Rn (B1 (G1 b r pins P x)) w (fun (y : RQ) u => u = D8 (Q2 j X).2.2 ∧ RqF op pa pc P x (.sta (Q2 j X).1) (Q2 j X).2.1 y) fun y => G1 b y.1 y.2.1 y.2.2.1 y.2.2.2) := by
 obtain ⟨hop, hpv, hwho, hs, hans, hk1⟩ := hR
 subst hop
 have hst := A6G hrd
 obtain ⟨hW, ⟨s0, s1, s2⟩, hf, hk, hcp⟩ := hg
 have how := hW.ow
 have htl := hW.tl
 have hn := hW.n
 have hxc : x.c = X.c := hr.c
 have hsh := hW.sh
 have hxl : x.locks = X.own := hr.locks
 have hxt : x.ts.map (·.2) = X.tabs := hr.tabs
 have hxtl : x.ts.length = N := by have h := congrArg List.length hxt; rw [List.length_map] at h; omega
 have hold0 : ∀ q ∈ x.sl, q ∈ x.sl ∨ (∀ p, q.1 ≠ .rdy p) ∨ q = (.rdy r.op.pool, pa, r.op.pool.length, pc) := fun q hq => Or.inl hq
 have hgr0 : ∀ (j' : JV), ∀ t ∈ P, t ∈ P ∨ ∃ e, j' = .exp e ∧ t.2 = e.table := fun _ t ht => Or.inl ht
 have hst' : j.st ≠ -1 := hst
 have hs' : r.st = j.st := hs
 have hwho' : r.who = j.who := hwho
 have hans' : r.ans = j.ans := hans
 obtain ⟨k, hk0⟩ : ∃ k : Nat, j.st = k := ⟨j.st.toNat, by omega⟩
 have em : j.st % (N : Int) = ((k % N : Nat) : Int) := by rw [hk0]; rfl
 unfold Q2
 simp only [htl, em]
 by_cases c0 : k < N
 ·have hmod : k % N = k := Nat.mod_eq_of_lt c0
  have hkl : k < X.own.length := by omega
  have hfr := B41 htl hf hrd hk0 c0 hkl
  rw [if_pos (show j.st < (N : Int) by omega), hmod, A3x hkl s0 hfr]
  refine Fn.mono (Fn.permL (l3 b r pins P x) (fun h => C1d w b r x k N (by omega) (by rw [hxc]; exact hsh) c0 hn.2 (by rw [hxl]; exact how) h) (fun v => (l3 b { r with st := k + 1 } pins P { x with lov := v, locks := x.locks.set k r.who }).symm) hw) fun u w' ⟨v, h1, h2⟩ => ?_
  refine ⟨({ r with st := k + 1 }, pins, P, { x with lov := v, locks := x.locks.set k r.who }), ⟨h1, rfl, { hr with locks := ?_ }, ⟨rfl, hpv, hwho, by simp only [JV.b]; omega, hans, hk1⟩, hsub, fun _ h => h, hgr0 _, hold0⟩, h2⟩
  show x.locks.set k r.who = X.own.set k j.who
  rw [hxl, hwho']
 rw [if_neg (show ¬ j.st < (N : Int) by omega)]
 by_cases c1 : k < 2 * N
 ·rw [if_pos (show j.st < 2 * (N : Int) by omega)]
  obtain ⟨s, rfl⟩ : ∃ s, k = s + N := ⟨k - N, by omega⟩
  have hmod : (s + N) % N = s := by rw [Nat.add_mod_right]; exact Nat.mod_eq_of_lt (by omega)
  rw [hmod]
  have htab : Z2 X (s : Nat) ∈ X.tabs := by
   unfold Z2
   rw [Int.toNat_natCast, List.getD_eq_getElem?_getD, List.getElem?_eq_getElem (by omega)]
   exact List.getElem_mem _
  have htk : (Z2 X (s : Nat)).length ≤ 1000000 := by
   rw [← hxt] at htab
   obtain ⟨t, ht, e⟩ := List.mem_map.1 htab
   rw [← e]; exact (hkeys t (hsub t ht)).2
  have e1 : (x.ts.map (·.2)).getD s [] = Z2 X (s : Nat) := by rw [hxt]; rfl
  refine Fn.mono (Fn.permL (A3f b r pins P x) (fun h => C0V w b r x P s N _ (by omega) (by rw [hxc]; exact hsh) (by omega) hn.2 hxtl hsub e1 htk h) (fun v => (A3f b { r with st := r.st + 1, ans := { r.ans with count := IntKind.i64.wrap (r.ans.count + (N3 (Z2 X (s : Nat)) 1 : Nat)) } } pins P { x with tav := v }).symm) hw) fun u w' ⟨v, h1, h2⟩ => ?_
  exact ⟨({ r with st := r.st + 1, ans := { r.ans with count := IntKind.i64.wrap (r.ans.count + (N3 (Z2 X (s : Nat)) 1 : Nat)) } }, pins, P, { x with tav := v }), ⟨h1, rfl, { hr with }, ⟨rfl, hpv, hwho, by simp only [JV.b]; omega, by simp only [hans']; rfl, hk1⟩, hsub, fun _ h => h, hgr0 _, hold0⟩, h2⟩
 rw [if_neg (show ¬ j.st < 2 * (N : Int) by omega)]
 obtain ⟨s, rfl⟩ : ∃ s, k = s + 2 * N := ⟨k - 2 * N, by omega⟩
 have hmod : (s + 2 * N) % N = s := by rw [show s + 2 * N = s + N * 2 by omega, Nat.add_mul_mod_self_left]; exact Nat.mod_eq_of_lt (by omega)
 have hsl : s < X.own.length := by omega
 rw [hmod, x8 hsl s0 (s2 s (by omega) (by omega) (by omega))]
 have hB := Fn.permL (l3 b r pins P x) (fun h => C1Y w b r x s N (by omega) (by rw [hxc]; exact hsh) (by omega) hn.2 (by rw [hxl]; exact how) h) (fun v => (l3 b { r with st := if s + 1 = N then -1 else r.st + 1 } pins P { x with lov := v, locks := x.locks.set s (-1) }).symm) hw
 refine Fn.mono hB fun u w' ⟨v, h1, h2⟩ => ?_
 by_cases c2 : s + 1 = N
 ·rw [if_pos (show ((s : Nat) : Int) = (N : Int) - 1 by omega)]
  rw [decide_eq_true c2] at h1
  refine ⟨({ r with st := if s + 1 = N then -1 else r.st + 1 }, pins, P, { x with lov := v, locks := x.locks.set s (-1) }), ⟨h1, rfl, { hr with locks := ?_ }, ⟨rfl, hpv, hwho, by simp only [JV.b]; rw [if_pos c2], hans, hk1⟩, hsub, fun _ h => h, hgr0 _, hold0⟩, h2⟩
  show x.locks.set s (-1) = X.own.set s (-1)
  rw [hxl]
 ·rw [if_neg (show ¬ ((s : Nat) : Int) = (N : Int) - 1 by omega)]
  rw [decide_eq_false c2] at h1
  refine ⟨({ r with st := if s + 1 = N then -1 else r.st + 1 }, pins, P, { x with lov := v, locks := x.locks.set s (-1) }), ⟨h1, rfl, { hr with locks := ?_ }, ⟨rfl, hpv, hwho, by simp only [JV.b]; rw [if_neg c2, hs'], hans, hk1⟩, hsub, fun _ h => h, hgr0 _, hold0⟩, h2⟩
  show x.locks.set s (-1) = X.own.set s (-1)
  rw [hxl]
theorem B2u {N E : Nat} {op : OpV} {pv : Value} {j : JV} {X : WS} {r : RJ} {pins : List Int} {P : K8} {x : XH} (hg : CI N E j X) (hr : XRel X x.xs) (hR : RelJ op pv j r pins P) : A8L r x = j.ready X := by
 obtain ⟨hop, hpv, hwho, hs, hans, hk⟩ := hR
 have hxc : x.c = X.c := hr.c
 have hxl : x.locks = X.own := hr.locks
 have htl := hg.w.tl
 have how := hg.w.ow
 have hsh := hg.w.sh
 unfold A8L A2r JV.ready
 rw [hxc, hxl, hsh, hs, hop]
 cases j with
 | upd u =>
  obtain ⟨k1, _⟩ := hk
  obtain ⟨⟨s1, _⟩, _⟩ := hg.j
  have e : (JV.upd u).waits X = false := rfl
  have e2 : (JV.upd u).b.st = u.b.st := rfl
  rw [e, e2]
  by_cases c : u.b.st = -1
  ·simp [c]
  ·have : 0 ≤ u.b.st := by omega
   simp [k1, c, this]
 | exp e =>
  obtain ⟨k1, k2, _⟩ := hk
  obtain ⟨_, ⟨s1, _⟩, _⟩ := hg.j
  have e2 : (JV.exp e).b.st = e.b.st := rfl
  rw [k2, e2]
  by_cases c : e.b.st = -1
  ·simp [c]
  have c' : 0 ≤ e.b.st := by omega
  by_cases d : e.b.st = 0
  ·simp only [JV.waits, k1, d]
   by_cases g : 0 ≤ e.shard ∧ e.shard < N
   ·obtain ⟨s, hs0⟩ : ∃ s : Nat, e.shard = s := ⟨e.shard.toNat, by omega⟩
    rw [hs0] at g ⊢
    have hsl : s < X.own.length := by omega
    rw [A8N hsl]
    simp [g.2]
    omega
   ·have e3 : A2c X.own e.shard = -1 := by unfold A2c; rw [if_neg (by omega)]
    have g' : ¬ (2 = 2 ∧ 0 = 0 ∧ 0 ≤ e.shard ∧ e.shard < (N : Int)) := fun h => g h.2.2
    simp only [e3]
    simp [g]
  ·simp [JV.waits, k1, c, c', d]
 | sta b =>
  obtain ⟨_, ⟨s1, _⟩, _⟩ := hg.j
  have k1 : op.kind = 3 := hk
  have e2 : (JV.sta b).b.st = b.st := rfl
  rw [e2]
  by_cases c : b.st = -1
  ·simp [c]
  have c' : 0 ≤ b.st := by omega
  simp only [JV.waits, k1, htl]
  by_cases g : b.st < N
  ·obtain ⟨s, hs0⟩ : ∃ s : Nat, b.st = s := ⟨b.st.toNat, by omega⟩
   rw [hs0] at g ⊢
   have hsl : s < X.own.length := by omega
   rw [A8N hsl]
   have c2 : ¬ ((s : Nat) : Int) = -1 := by omega
   simp [g, c2]
   omega
  ·simp [g, c, c']
 | non b =>
  obtain ⟨k1, k2, k3⟩ := hk
  have hj : b.st = 0 ∨ b.st = -1 := hg.j
  have e : (JV.non b).waits X = false := rfl
  have e2 : (JV.non b).b.st = b.st := rfl
  rw [e, e2]
  rcases hj with h | h <;> simp [h, k2, k3]
set_option maxHeartbeats 1000000 in
theorem C0a {N E : Nat} (w : World) (b : Nat) (op : OpV) (pa : Option Addr) (pc : Nat) (j : JV) (X : WS) (r : RJ) (pins : List Int) (P : K8) (x : XH) (hE : E ≤ 1000) (hg : CI N E j X) (hr : XRel X x.xs) (hR : RelJ op (.slice pa op.pool.length pc) j r pins P) (hpl : op.pool.length ≤ 1000) (hsub : c6 x.ts P) (hkeys : ∀ t ∈ P, L5 t.2 ∧ t.2.length ≤ 1000000)
  (hrd : ∀ w', KS false (B1 (G1 b r pins P x)) w w' → D2 w' (.slice pa op.pool.length pc) op.pool.length (op.pool.flatMap E6)) (hw : LW false (B1 (G1 b r pins P x)) w (G1 b r pins P x) w) :
  Fn PR B6 18 #[.pointer (some ⟨b, 0, none⟩), .pointer (some ⟨x.b, 0, none⟩)] w (Rn (B1 (G1 b r pins P x)) w (fun (y : RQ) u => u = D8 (j.step X).2.2 ∧ RqF op pa pc P x (j.step X).1 (j.step X).2.1 y) fun y => G1 b y.1 y.2.1 y.2.2.1 y.2.2.2) := by
 refine A4L (TW.goH (κ := false) ?_ hw)
 unfold u6
 have hrs : A8L r x = j.ready X := B2u hg hr hR
 have hxl : (x.locks.length : Int) = x.c.sh := by
  have e1 : x.locks = X.own := hr.locks
  have e2 : x.c = X.c := hr.c
  rw [e1, e2, hg.w.ow, hg.w.sh]
 have hRe := fun (w' : World) (h1 : QBl w' b r) (h2 : XBl w' x) (h3 : D2 w' x.lov x.locks.length (C1 x.locks)) => B2b w' b r x h1 h2 h3 hxl
 rw [hrs] at hRe
 have hop := hR.ho
 have hU := fun (u : JU) (e : j = .upd u) (hst : u.b.st ≠ -1) (w' : World) (hk : KS false (B1 (G1 b r pins P x)) w w') (hs : LW false (B1 (G1 b r pins P x)) w' (G1 b r pins P x) w') => C6M (N := N) (E := E) w' b op pa pc u X r pins P x hE (e ▸ hg) hst hr (e ▸ hR) hpl hsub (fun w'' hk2 => hrd w'' (hk.then hk2 fun z hz => Or.inl hz)) hs
 have hX := fun (u : JE) (e : j = .exp u) (hrd : j.ready X = true) (w' : World) (hs : LW false (B1 (G1 b r pins P x)) w' (G1 b r pins P x) w') => C6d (N := N) (E := E) w' b op pa pc u X r pins P x (e ▸ hg) (e ▸ hrd) hr (e ▸ hR) hsub hkeys hs
 have hS := fun (u : JB) (e : j = .sta u) (hrd : j.ready X = true) (w' : World) (hs : LW false (B1 (G1 b r pins P x)) w' (G1 b r pins P x) w') => C58 (N := N) (E := E) w' b op pa pc u X r pins P x (e ▸ hg) (e ▸ hrd) hr (e ▸ hR) hsub hkeys hs
 have hN := fun (w' : World) (hs : LW false (B1 (G1 b r pins P x)) w' (G1 b r pins P x) w') => Fn.permL (Hn' := fun _ : Unit => G1 b (r.refuse 1) pins P x) (K1 b r pins P x) (fun h => Fn.permL (Hc := [D9 b r]) (Hk := .own 3 1 r.pins pins.length (C1 pins) :: D0 x) (Hn' := fun _ : Unit => G0 b (r.refuse 1) pins x) (List.Perm.refl _) (fun h => u9 w' b r 1 h) (fun _ => List.Perm.refl _) h) (fun _ => (K1 b (r.refuse 1) pins P x).symm) hs
 have hRR := hR
 have hk := hR.k
 have hop2 : r.op.kind = op.kind := by rw [hop]
 generalize hSS : B1 (G1 b r pins P x) = S
 (have zz:=trivial;repeat((first|clear zz|with_reducible first|refine A3 ?_|refine A5 fun _=>?_|refine A4 fun _=>?_);try simp(disch:=first|omega|assumption|((repeat(first|exact A1|exact uH|apply A2|apply uT));first|done|fail)|(simp;first|done|omega|fail))[]))
 rename_i bt
 refine D4 n8 (fun w' hw' => hRe w' (hw'.pt (by unfold G1 D9; (repeat constructor))) (hw'.pt (by unfold G1 D0 G5; (repeat constructor))) (H3.own (e := 3) (k := 1) (by unfold G1 D0; (repeat constructor)) w' hw')) ?_
 cases hrd2 : j.ready X with
 | false =>
  rw [A3V hrd2]
  (have zz:=trivial;repeat((first|clear zz|with_reducible first|refine A3 ?_|refine A5 fun _=>?_|refine A4 fun _=>?_);try simp(disch:=first|omega|assumption|((repeat(first|exact A1|exact uH|apply A2|apply uT));first|done|fail)|(simp;first|done|omega|fail))[]))
  exact TW.sub (B0 (r, pins, P, x) ⟨rfl, rfl, hr, hR, hsub, fun _ h => h, fun t ht => Or.inl ht, fun q hq => Or.inl hq⟩ (P5 _)) (List.sublist_cons_self _ _)
 | true =>
  rw [A1y hrd2]
  have hst := A6G hrd2
  cases j with
  | upd u =>
   have hU := hU u rfl hst
   have k1 : r.op.kind = 1 := by rw [hop2]; exact hk.1
   simp only [JV.step0]
   simp only [G1, D9, P6, k1]
   (have zz:=trivial;repeat((first|clear zz|with_reducible first|refine A3 ?_|refine A5 fun _=>?_|refine A4 fun _=>?_);try simp(disch:=first|omega|assumption|((repeat(first|exact A1|exact uH|apply A2|apply uT));first|done|fail)|(simp;first|done|omega|fail))[]))
   refine C0 (Hc := G1 b r pins P x) (Hk := [.pt bt (.cells #[.bool false, .bool false, .bool false] 51)]) A3A (fun w' hw' hs => hU w' (by rw [hSS]; exact hw'.ks) hs) (by simp only [G1, D9, P6, k1, List.cons_append]; (repeat' constructor)) ?_
   rintro ⟨r', pins', P', x'⟩ v ⟨rfl, hF⟩
   refine TW.perm ?_ List.perm_append_comm
   generalize (H0 u X).2.2 = tl at *
   obtain ⟨t1, t2, t3⟩ := tl
   simp only [List.cons_append, List.nil_append, D8]
   (have zz:=trivial;repeat((first|clear zz|with_reducible first|refine A3 ?_|refine A5 fun _=>?_|refine A4 fun _=>?_);try simp(disch:=first|omega|assumption|((repeat(first|exact A1|exact uH|apply A2|apply uT));first|done|fail)|(simp;first|done|omega|fail))[]))
   exact TW.sub (B0 (r', pins', P', x') ⟨rfl, hF⟩ (P5 _)) (List.sublist_cons_self _ _)
  | exp u =>
   have hX := hX u rfl hrd2
   have k1 : r.op.kind = 2 := by rw [hop2]; exact hk.1
   simp only [JV.step0]
   simp only [G1, D9, P6, k1]
   (have zz:=trivial;repeat((first|clear zz|with_reducible first|refine A3 ?_|refine A5 fun _=>?_|refine A4 fun _=>?_);try simp(disch:=first|omega|assumption|((repeat(first|exact A1|exact uH|apply A2|apply uT));first|done|fail)|(simp;first|done|omega|fail))[]))
   refine C0 (Hc := G1 b r pins P x) (Hk := [.pt bt (.cells #[.bool false, .bool false, .bool false] 51)]) A3C (fun w' _ hs => hX w' hs) (by simp only [G1, D9, P6, k1, List.cons_append]; (repeat' constructor)) ?_
   rintro ⟨r', pins', P', x'⟩ v ⟨rfl, hF⟩
   refine TW.perm ?_ List.perm_append_comm
   generalize (M1 u X).2.2 = tl at *
   obtain ⟨t1, t2, t3⟩ := tl
   simp only [List.cons_append, List.nil_append, D8]
   (have zz:=trivial;repeat((first|clear zz|with_reducible first|refine A3 ?_|refine A5 fun _=>?_|refine A4 fun _=>?_);try simp(disch:=first|omega|assumption|((repeat(first|exact A1|exact uH|apply A2|apply uT));first|done|fail)|(simp;first|done|omega|fail))[]))
   exact TW.sub (B0 (r', pins', P', x') ⟨rfl, hF⟩ (P5 _)) (List.sublist_cons_self _ _)
  | sta u =>
   have hS := hS u rfl hrd2
   have k1 : r.op.kind = 3 := by rw [hop2]; exact hk
   simp only [JV.step0]
   simp only [G1, D9, P6, k1]
   (have zz:=trivial;repeat((first|clear zz|with_reducible first|refine A3 ?_|refine A5 fun _=>?_|refine A4 fun _=>?_);try simp(disch:=first|omega|assumption|((repeat(first|exact A1|exact uH|apply A2|apply uT));first|done|fail)|(simp;first|done|omega|fail))[]))
   refine C0 (Hc := G1 b r pins P x) (Hk := [.pt bt (.cells #[.bool false, .bool false, .bool false] 51)]) A3e (fun w' _ hs => hS w' hs) (by simp only [G1, D9, P6, k1, List.cons_append]; (repeat' constructor)) ?_
   rintro ⟨r', pins', P', x'⟩ v ⟨rfl, hF⟩
   refine TW.perm ?_ List.perm_append_comm
   generalize (Q2 u X).2.2 = tl at *
   obtain ⟨t1, t2, t3⟩ := tl
   simp only [List.cons_append, List.nil_append, D8]
   (have zz:=trivial;repeat((first|clear zz|with_reducible first|refine A3 ?_|refine A5 fun _=>?_|refine A4 fun _=>?_);try simp(disch:=first|omega|assumption|((repeat(first|exact A1|exact uH|apply A2|apply uT));first|done|fail)|(simp;first|done|omega|fail))[]))
   exact TW.sub (B0 (r', pins', P', x') ⟨rfl, hF⟩ (P5 _)) (List.sublist_cons_self _ _)
  | non u =>
   have k1 : ¬ r.op.kind = 1 := by rw [hop2]; exact hk.1
   have k2 : ¬ r.op.kind = 2 := by rw [hop2]; exact hk.2.1
   have k3 : ¬ r.op.kind = 3 := by rw [hop2]; exact hk.2.2
   simp only [JV.step0]
   simp only [G1, D9, P6]
   (have zz:=trivial;repeat((first|clear zz|with_reducible first|refine A3 ?_|refine A5 fun _=>?_|refine A4 fun _=>?_);try simp(disch:=first|omega|assumption|((repeat(first|exact A1|exact uH|apply A2|apply uT));first|done|fail)|(simp;first|done|omega|fail))[k1, k2, k3]))
   refine C0 (Hc := G1 b r pins P x) (Hk := [.pt bt (.cells #[.bool false, .bool false, .bool false] 51)]) H9 (fun w' _ hs => hN w' hs) (by simp only [G1, D9, P6, List.cons_append]; (repeat' constructor)) ?_
   rintro _ v rfl
   refine TW.perm ?_ List.perm_append_comm
   simp only [List.cons_append, List.nil_append, D8]
   (have zz:=trivial;repeat((first|clear zz|with_reducible first|refine A3 ?_|refine A5 fun _=>?_|refine A4 fun _=>?_);try simp(disch:=first|omega|assumption|((repeat(first|exact A1|exact uH|apply A2|apply uT));first|done|fail)|(simp;first|done|omega|fail))[]))
   exact TW.sub (B0 (r.refuse 1, pins, P, x) ⟨rfl, rfl, hr, ⟨hRR.ho, hRR.pv, hRR.who, rfl, rfl, hk⟩, hsub, fun _ h => h, fun t ht => Or.inl ht, fun q hq => Or.inl hq⟩ (P5 _)) (List.sublist_cons_self _ _)
end Go.Proofs.YtpnidmkaobfhiaaGreat
namespace Go.Proofs.YtpnidmkaobfhiaaGreat
open Go
theorem C15 (w : World) (u v : Value) (l : List Int) (hn : l.length ≤ 1000000) (hu : D2 w u l.length (C1 l)) (hv : D2 w v l.length (C1 l)) :
  Fn PR B6 88 #[u, v] w (fun r w' => r = .bool true ∧ D6 [] w w') := by
 refine Fn.pure (A7N (TW.go (κ := false) (S := []) ?_))
 unfold A0w
 obtain ⟨a, c, rfl, hr⟩ := hu.form
 obtain ⟨a', c', rfl, hr'⟩ := hv.form
 (have zz:=trivial;repeat((first|clear zz|with_reducible first|refine A3 ?_|refine A5 fun _=>?_|refine A4 fun _=>?_);try simp(disch:=first|omega|assumption|((repeat(first|exact A1|exact uH|apply A2|apply uT));first|done|fail)|(simp;first|done|omega|fail))[]))
 refine Q6 (α := Unit) l.length (fun _ _ => .bool false) (fun _ _ => []) (fun _ _ => True) () trivial ?_
 rintro i _ hi _ L hL
 by_cases hlt : i < l.length
 ·have hlt' : ((i : Nat) : Int) < (l.length : Nat) := by omega
  obtain ⟨b, o, rfl, hrow⟩ := hr (by omega)
  obtain ⟨b', o', rfl, hrow'⟩ := hr' (by omega)
  have g1 := hrow.get (W5 hlt)
  have g2 := hrow'.get (W5 hlt)
  obtain ⟨z, hz⟩ : ∃ z, z = l.getD i 0 := ⟨_, rfl⟩
  rw [← hz] at g1 g2
  (have zz:=trivial;repeat((first|clear zz|with_reducible first|refine A3 ?_|refine A5 fun _=>?_|refine A4 fun _=>?_);try simp(disch:=first|omega|assumption|((repeat(first|exact A1|exact uH|apply A2|apply uT));first|done|fail)|(simp;first|done|omega|fail))[hlt, hlt', g1, g2]))
  exact hL hlt () trivial
 ·obtain rfl : i = l.length := by omega
  (have zz:=trivial;repeat((first|clear zz|with_reducible first|refine A3 ?_|refine A5 fun _=>?_|refine A4 fun _=>?_);try simp(disch:=first|omega|assumption|((repeat(first|exact A1|exact uH|apply A2|apply uT));first|done|fail)|(simp;first|done|omega|fail))[Int.lt_irrefl]))
  exact B4 rfl
def WoH.cnu (m : WoH) (n : Int) : WoH := { m with cn := n }
theorem B3u {S : List Nat} {w0 : World} {H Hk : List Res} {X : Nat → Prop} {K : Value → WP} (m : WoH) (i : Int) (hcl : m.cells.length ≤ 1024) (hs : Sels (B8 m ++ Hk) H)
  (hK : ∀ n : Int, TW false S w0 (B8 (m.cnu n) ++ Hk) (K (.int .i64 (D5 m.cells i)))) :
  TW false S w0 H (B3 PR X 25 [.pointer (some ⟨m.bc, 0, none⟩), .int .i64 i] K) := by
 refine Sels.tw hs ?_
 simp only [B8, List.cons_append, List.nil_append]
 refine C0 (Hc := C6 m.bc m.cn m.cv m.ov m.cells m.own) a6 (fun w' _ hs => A9T w' m.bc m.cn m.cv m.ov m.cells m.own i hcl hs) (by unfold C6; (repeat' constructor)) ?_
 rintro n v rfl
 refine Sels.tw (rs := B8 (m.cnu n) ++ Hk) (by simp only [C6, B8, WoH.cnu, List.cons_append, List.nil_append]; repeat (first | exact P5 _ | (apply Sels.cons; · (repeat constructor)))) (hK n)
def s9 (m : WoH) (x : XH) (P PX : K8) : List Res := B8 m ++ (D0 x ++ [C8 P, C8 PX])
set_option maxHeartbeats 4000000 in
theorem B9u {N E : Nat} {j : JW} (w : World) (m : WoH) (x : XH) (P PX : K8) (hg : GI N E j m.ws) (hr : XRel m.ws x.xs) (hsub : c6 m.ts P) (hsubX : c6 x.ts PX) (hlen : ∀ t ∈ m.ts, t.2.length ≤ 1000000) (hw : LW false (B1 (s9 m x P PX)) w (s9 m x P PX) w) :
  Fn PR B6 63 #[.pointer (some ⟨m.b, 0, none⟩), .pointer (some ⟨x.b, 0, none⟩)] w (Rn (B1 (s9 m x P PX)) w (fun (n : Int) u => u = .bool true) fun n => s9 (m.cnu n) x P PX) := by
 refine A6n (TW.goH (κ := false) ?_ hw)
 unfold A1a
 generalize hS : B1 (s9 m x P PX) = S at *
 have hcl0 := hg.ok.cells
 have hwk := hg.ok.wk
 have hcl : m.cells.length ≤ 1024 := by have : m.ws.cells = m.cells := rfl; rw [this] at hcl0; omega
 have hep : x.ep = D5 m.cells 0 := hr.ep
 have hcu : x.cur = D5 m.cells 1 := hr.cur
 have hnow : x.now = m.now := hr.now
 have htabs : x.ts.map (·.2) = m.ts.map (·.2) := hr.tabs
 have hpl : x.pl = m.pl := hr.places
 have hlk : x.locks = m.own := hr.locks
 have hts : m.ts.length = N := by have := hg.tl; simpa [WoH.ws] using this
 have htx : x.ts.length = N := by have := congrArg List.length htabs; simpa [hts] using this
 have hpn : m.pl.length = N := hg.pl
 have hn16 := hg.n
 have hxpin : (x.pins.length : Int) = m.c.wk + 1 := hr.pl
 have hpins := hr.pins
 have hwk2 : 1 ≤ m.c.wk ∧ m.c.wk ≤ 64 := hwk
 have htl0 : ∀ i (h1 : i < m.ts.length) (h2 : i < x.ts.length), m.ts[i].2 = x.ts[i].2 := fun i h1 h2 => by
  have h := congrArg (fun l => l[i]?) htabs
  simp only [List.getElem?_map, List.getElem?_eq_getElem h1, List.getElem?_eq_getElem h2, Option.map_some, Option.some.injEq] at h
  exact h.symm
 refine P8 (e := 55) (k := 1) (v := m.tv) (q := m.ts.length) (xs := m.ts.map (·.1)) (by unfold s9 B8; (repeat constructor)) (by omega) fun mg mc hmtv => ?_
 refine P8 (e := 3) (k := 1) (v := m.pv) (q := m.pl.length) (xs := V6 m.pl) (by unfold s9 B8; (repeat constructor)) (by omega) fun pg pc hmpv => ?_
 refine P8 (e := 55) (k := 1) (v := x.tav) (q := x.ts.length) (xs := x.ts.map (·.1)) (by unfold s9 D0; exact List.mem_append_right _ (by (repeat constructor))) (by omega) fun xg xc hxta => ?_
 refine P8 (e := 3) (k := 1) (v := x.plv) (q := x.pl.length) (xs := V6 x.pl) (by unfold s9 D0; exact List.mem_append_right _ (by (repeat constructor))) (by rw [hpl]; omega) fun qg qc hxpl => ?_
 refine P8 (e := 3) (k := 1) (v := x.piv) (q := x.pins.length) (xs := C1 x.pins) (by unfold s9 D0; exact List.mem_append_right _ (by (repeat constructor))) (by omega) fun ig ic hxpi => ?_
 refine H7 (e := 3) (k := 1) (v := x.lov) (q := x.locks.length) (xs := C1 x.locks) (by unfold s9 D0; exact List.mem_append_right _ (by (repeat constructor))) fun la lc hxlo => ?_
 rw [hlk] at hxlo
 simp only [s9, B8, D0, E0, E7, G5, H2, WoH.cnu, hmtv, hmpv, hxta, hxpl, hxpi, hxlo, hlk, List.cons_append, List.nil_append]
 (have zz:=trivial;repeat((first|clear zz|with_reducible first|refine A3 ?_|refine A5 fun _=>?_|refine A4 fun _=>?_);try simp(disch:=first|omega|assumption|((repeat(first|exact A1|exact uH|apply A2|apply uT));first|done|fail)|(simp;first|done|omega|fail))[]))
 refine B3u m 0 hcl (Hk := D0 x ++ [C8 P, C8 PX]) (by simp only [B8, D0, E0, E7, G5, H2, WoH.cnu, hmtv, hmpv, hxta, hxpl, hxpi, hxlo, hlk, List.cons_append, List.nil_append]; (repeat' constructor)) ?_
 intro n1
 rw [← hep]
 simp only [B8, D0, E0, E7, G5, H2, WoH.cnu, hmtv, hmpv, hxta, hxpl, hxpi, hxlo, hlk, List.cons_append, List.nil_append]
 (have zz:=trivial;repeat((first|clear zz|with_reducible first|refine A3 ?_|refine A5 fun _=>?_|refine A4 fun _=>?_);try simp(disch:=first|omega|assumption|((repeat(first|exact A1|exact uH|apply A2|apply uT));first|done|fail)|(simp;first|done|omega|fail))[]))
 refine B3u (m.cnu n1) 1 hcl (Hk := D0 x ++ [C8 P, C8 PX]) (by simp only [B8, D0, E0, E7, G5, H2, WoH.cnu, hmtv, hmpv, hxta, hxpl, hxpi, hxlo, hlk, List.cons_append, List.nil_append]; (repeat' constructor)) ?_
 intro n2
 rw [show D5 (m.cnu n1).cells 1 = x.cur from hcu.symm]
 simp only [B8, D0, E0, E7, G5, H2, WoH.cnu, hmtv, hmpv, hxta, hxpl, hxpi, hxlo, hlk, List.cons_append, List.nil_append]
 have hq1 : ((m.ts.length : Nat) : Int) = (x.ts.length : Nat) := by omega
 have hq2 : ((m.pl.length : Nat) : Int) = (x.pl.length : Nat) := by rw [hpl]
 (have zz:=trivial;repeat((first|clear zz|with_reducible first|refine A3 ?_|refine A5 fun _=>?_|refine A4 fun _=>?_);try simp(disch:=first|omega|assumption|((repeat(first|exact A1|exact uH|apply A2|apply uT));first|done|fail)|(simp;first|done|omega|fail))[hnow, hq1, hq2]))
 refine Sels.tw (rs := B8 (m.cnu n2) ++ (D0 x ++ [C8 P, C8 PX])) (by simp only [B8, D0, E0, E7, G5, H2, WoH.cnu, hmtv, hmpv, hxta, hxpl, hxpi, hxlo, hlk, List.cons_append, List.nil_append, hnow]; (repeat' constructor)) ?_
 refine B9J (fun y : Int × Nat => B8 (m.cnu y.1) ++ (D0 x ++ [C8 P, C8 PX])) (fun y => 1 ≤ y.2 ∧ y.2 ≤ x.pins.length) (fun y => x.pins.length - y.2) (n2, 1) (fun _ => .bool false) (fun y => .int .i64 (y.2 : Nat)) ⟨by simp, by simp only; omega⟩ ?_
 rintro ⟨n3, i⟩ ⟨hi1, hi2⟩ L hL
 simp only at hi1 hi2 hL ⊢
 by_cases hlt : i < x.pins.length
 ·have hlt' : ((i : Nat) : Int) < (x.pins.length : Nat) := by omega
  have hge' : ¬ x.pins.length ≤ i := by omega
  have g1 := W5 hlt
  have hpv := hpins i hi1 (by show (i : Int) ≤ m.c.wk; omega)
  have hpi : F9 m.c (i : Nat) = 1 + (i : Nat) := by unfold F9; rw [if_neg (by omega)]
  obtain ⟨z, hz⟩ : ∃ z, z = x.pins.getD i 0 := ⟨_, rfl⟩
  rw [← hz] at g1
  have g1g := (List.getElem?_eq_some_iff.1 g1).2
  have hzz : D5 m.cells (1 + (i : Nat)) = z := by rw [hz]; exact hpv.symm
  simp only [B8, D0, E0, E7, G5, H2, WoH.cnu, hmtv, hmpv, hxta, hxpl, hxpi, hxlo, hlk, List.cons_append, List.nil_append]
  (have zz:=trivial;repeat((first|clear zz|with_reducible first|refine A3 ?_|refine A5 fun _=>?_|refine A4 fun _=>?_);try simp(disch:=first|omega|assumption|((repeat(first|exact A1|exact uH|apply A2|apply uT));first|done|fail)|(simp;first|done|omega|fail))[hlt, hlt', hge', g1, g1g]))
  refine D4 (u := .int .i64 (1 + (i : Nat))) v8 (fun w' hw' => by rw [← hpi]; exact B3Z w' m.b m.c _ _ _ _ _ _ (i : Nat) hwk2.2 (hw'.pt (b := m.b) (by unfold E7; (repeat constructor)))) ?_
  (have zz:=trivial;repeat((first|clear zz|with_reducible first|refine A3 ?_|refine A5 fun _=>?_|refine A4 fun _=>?_);try simp(disch:=first|omega|assumption|((repeat(first|exact A1|exact uH|apply A2|apply uT));first|done|fail)|(simp;first|done|omega|fail))[hlt, hlt', hge', g1, g1g]))
  refine B3u (m.cnu n3) (1 + (i : Nat)) hcl (Hk := D0 x ++ [C8 P, C8 PX]) (by simp only [B8, D0, E0, E7, G5, H2, WoH.cnu, hmtv, hmpv, hxta, hxpl, hxpi, hxlo, hlk, List.cons_append, List.nil_append]; (repeat' constructor)) ?_
  intro n4
  rw [show D5 (m.cnu n3).cells (1 + (i : Nat)) = z from hzz]
  simp only [B8, D0, E0, E7, G5, H2, WoH.cnu, hmtv, hmpv, hxta, hxpl, hxpi, hxlo, hlk, List.cons_append, List.nil_append]
  (have zz:=trivial;repeat((first|clear zz|with_reducible first|refine A3 ?_|refine A5 fun _=>?_|refine A4 fun _=>?_);try simp(disch:=first|omega|assumption|((repeat(first|exact A1|exact uH|apply A2|apply uT));first|done|fail)|(simp;first|done|omega|fail))[hlt, hlt', hge', g1, g1g]))
  have h2 := hL (n4, i + 1) ⟨by simp only; omega, by simp only; omega⟩ (by simp only; omega)
  rw [show (((i + 1 : Nat)) : Int) = (i : Int) + 1 from by omega] at h2
  refine Sels.tw ?_ h2
  simp only [B8, D0, E0, E7, G5, H2, WoH.cnu, hmtv, hmpv, hxta, hxpl, hxpi, hxlo, hlk, List.cons_append, List.nil_append]
  (repeat' constructor)
 obtain rfl : i = x.pins.length := by omega
 clear hL
 simp only [B8, D0, E0, E7, G5, H2, WoH.cnu, hmtv, hmpv, hxta, hxpl, hxpi, hxlo, hlk, List.cons_append, List.nil_append]
 (have zz:=trivial;repeat((first|clear zz|with_reducible first|refine A3 ?_|refine A5 fun _=>?_|refine A4 fun _=>?_);try simp(disch:=first|omega|assumption|((repeat(first|exact A1|exact uH|apply A2|apply uT));first|done|fail)|(simp;first|done|omega|fail))[Int.lt_irrefl]))
 refine Sels.tw (rs := B8 (m.cnu n3) ++ (D0 x ++ [C8 P, C8 PX])) (by simp only [B8, D0, E0, E7, G5, H2, WoH.cnu, hmtv, hmpv, hxta, hxpl, hxpi, hxlo, hlk, List.cons_append, List.nil_append]; (repeat' constructor)) ?_
 refine Q6 (α := Unit) x.ts.length (fun _ _ => .bool false) (fun _ _ => B8 (m.cnu n3) ++ (D0 x ++ [C8 P, C8 PX])) (fun _ _ => True) () trivial ?_
 rintro k _ hk _ L hL
 by_cases hlt : k < x.ts.length
 ·have hlt' : ((k : Nat) : Int) < (x.ts.length : Nat) := by omega
  have hge' : ¬ x.ts.length ≤ k := by omega
  have hltm : k < m.ts.length := by omega
  have hgem : ¬ m.ts.length ≤ k := by omega
  have hltp : k < m.pl.length := by omega
  have hgep : ¬ m.pl.length ≤ k := by omega
  have hltq : k < x.pl.length := by rw [hpl]; omega
  have hgeq : ¬ x.pl.length ≤ k := by omega
  obtain ⟨⟨v1, t1⟩, hx1⟩ : ∃ y, m.ts[k]? = some y := ⟨_, List.getElem?_eq_getElem hltm⟩
  obtain ⟨⟨v2, t2⟩, hx2⟩ : ∃ y, x.ts[k]? = some y := ⟨_, List.getElem?_eq_getElem hlt⟩
  have hm1 := List.mem_of_getElem? hx1
  have hm2 := List.mem_of_getElem? hx2
  have gm : m.ts[k] = (v1, t1) := (List.getElem?_eq_some_iff.1 hx1).2
  have gx : x.ts[k] = (v2, t2) := (List.getElem?_eq_some_iff.1 hx2).2
  have htt : t1 = t2 := by have h := htl0 k hltm hlt; rw [gm, gx] at h; exact h
  subst htt
  have g1 : (m.ts.map (·.1))[k]? = some v1 := by rw [List.getElem?_map, hx1]; rfl
  have g2 : (x.ts.map (·.1))[k]? = some v2 := by rw [List.getElem?_map, hx2]; rfl
  have g3 := B09 hltp
  have g4 := B09 hltq
  rw [hpl] at g4
  obtain ⟨z, hz⟩ : ∃ z : Nat, z = m.pl.getD k 0 := ⟨_, rfl⟩
  rw [← hz] at g3 g4
  have g3g := (List.getElem?_eq_some_iff.1 g3).2
  have hl1 := hlen _ hm1
  simp only at hl1
  simp only [B8, D0, E0, E7, G5, H2, WoH.cnu, hmtv, hmpv, hxta, hxpl, hxpi, hxlo, hlk, List.cons_append, List.nil_append, hpl]
  refine A1w (P := P) (v := v1) (l := t1) (by (repeat constructor)) (hsub _ hm1) fun a1 c1 hv1 => ?_
  refine A1w (P := PX) (v := v2) (l := t1) (by (repeat constructor)) (hsubX _ hm2) fun a2 c2 hv2 => ?_
  subst hv1
  subst hv2
  (have zz:=trivial;repeat((first|clear zz|with_reducible first|refine A3 ?_|refine A5 fun _=>?_|refine A4 fun _=>?_);try simp(disch:=first|omega|assumption|((repeat(first|exact A1|exact uH|apply A2|apply uT));first|done|fail)|(simp;first|done|omega|fail))[hlt, hlt', hge', hltm, hgem, hltp, hgep, g1, g2, g3, g4, g3g, gm, gx]))
  refine D4 A5w (fun w' hw' => B90 w' _ _ t1 t1 hl1 hl1 (A7d (ts := P) (t := (.slice a1 t1.length c1, t1)) hw' (by (repeat constructor)) (hsub _ hm1)) (A7d (ts := PX) (t := (.slice a2 t1.length c2, t1)) hw' (by (repeat constructor)) (hsubX _ hm2))) ?_
  rw [decide_eq_true rfl]
  (have zz:=trivial;repeat((first|clear zz|with_reducible first|refine A3 ?_|refine A5 fun _=>?_|refine A4 fun _=>?_);try simp(disch:=first|omega|assumption|((repeat(first|exact A1|exact uH|apply A2|apply uT));first|done|fail)|(simp;first|done|omega|fail))[hlt, hlt', hge', hltm, hgem, hltp, hgep, g1, g2, g3, g4, g3g, gm, gx]))
  refine Sels.tw ?_ (hL hlt () trivial)
  simp only [B8, D0, E0, E7, G5, H2, WoH.cnu, hmtv, hmpv, hxta, hxpl, hxpi, hxlo, hlk, List.cons_append, List.nil_append, hpl]
  (repeat' constructor)
 obtain rfl : k = x.ts.length := by omega
 clear hL
 simp only [B8, D0, E0, E7, G5, H2, WoH.cnu, hmtv, hmpv, hxta, hxpl, hxpi, hxlo, hlk, List.cons_append, List.nil_append]
 (have zz:=trivial;repeat((first|clear zz|with_reducible first|refine A3 ?_|refine A5 fun _=>?_|refine A4 fun _=>?_);try simp(disch:=first|omega|assumption|((repeat(first|exact A1|exact uH|apply A2|apply uT));first|done|fail)|(simp;first|done|omega|fail))[Int.lt_irrefl]))
 refine Sels.tw (rs := B8 (m.cnu n3) ++ (D0 x ++ [C8 P, C8 PX])) (by simp only [B8, D0, E0, E7, G5, H2, WoH.cnu, hmtv, hmpv, hxta, hxpl, hxpi, hxlo, hlk, List.cons_append, List.nil_append]; (repeat' constructor)) ?_
 refine G7 A65 (fun w' hw' => C0l w' (m.cnu n3) (by show m.ts.length ≤ _; omega) (by show m.own.length = m.ts.length; rw [hts]; exact hg.ow) (WoAt.own hw' fun r hr => List.mem_append_left _ hr) ⟨_, _, hmtv⟩) ?_
 rintro _ r rfl
 refine H7 (e := 3) (k := 1) (v := r) (q := (m.cnu n3).own.length) (xs := C1 (m.cnu n3).own) (by simp) fun ra rc hu => ?_
 subst hu
 simp only [B8, D0, E0, E7, G5, H2, WoH.cnu, hmtv, hmpv, hxta, hxpl, hxpi, hxlo, hlk, List.cons_append, List.nil_append]
 (have zz:=trivial;repeat((first|clear zz|with_reducible first|refine A3 ?_|refine A5 fun _=>?_|refine A4 fun _=>?_);try simp(disch:=first|omega|assumption|((repeat(first|exact A1|exact uH|apply A2|apply uT));first|done|fail)|(simp;first|done|omega|fail))[]))
 refine D4 A5q (fun w' hw' => C15 w' _ _ m.own (by have : m.own.length = N := hg.ow; omega) (H3.own (e := 3) (k := 1) (v := .slice ra m.own.length rc) (by (repeat constructor)) w' hw') (H3.own (e := 3) (k := 1) (v := .slice la m.own.length lc) (by (repeat constructor)) w' hw')) ?_
 refine B0 n3 rfl ?_
 (repeat' constructor)
end Go.Proofs.YtpnidmkaobfhiaaGreat
namespace Go.Proofs.YtpnidmkaobfhiaaGreat
open Go
theorem A46 {K : Value → WP} (a b : Bool) : A0 PR (binOp .neq 4 (.bool a) (.bool b)) K = K (.bool (!(a == b))) := G6 (fun w => by
 have h : (Op.equal 4 (.bool a) (.bool b)).run PR w = .ok (a == b) w := r5 (e := 9999) ty4 w
 simp [binOp, h]) K
def C27 (l : List Q7) : Prop := ∀ r ∈ l, ∀ p, r.1 = .rdy p → r.2.2.1 = p.length
theorem C1Q (w : World) (v : Value) (l : List Q7) (i : Int) (hn : l.length ≤ 8) (hp : C27 l) (hv : D2 w v l.length (l.flatMap S2)) :
  Fn PR B6 60 #[v, .int .i64 i] w (fun u w' => u = .tuple #[.int .i64 (A56 (p8 l) i).1, .bool (A56 (p8 l) i).2] ∧ D6 [] w w') := by
 refine Fn.pure (A61 (TW.go (κ := false) (S := []) ?_))
 unfold A1Y
 obtain ⟨a, c, rfl, _⟩ := hv.form
 refine D4 A5J (fun w' hw' => B9P w' _ l i (hv.ks hw'.ks (by simp)) hn) ?_
 by_cases hi : 0 ≤ i ∧ i < l.length
 case neg =>
  have hg : N4 (p8 l) i = .no := by unfold N4; rw [if_neg (by rw [show (p8 l).length = l.length from List.length_map _]; exact hi)]
  unfold A56
  rw [hg]
  (have zz:=trivial;repeat((first|clear zz|with_reducible first|refine A3 ?_|refine A5 fun _=>?_|refine A4 fun _=>?_);try simp(disch:=first|omega|assumption|((repeat(first|exact A1|exact uH|apply A2|apply uT));first|done|fail)|(simp;first|done|omega|fail))[]))
  exact B4 rfl
 obtain ⟨k, rfl⟩ : ∃ k : Nat, i = k := ⟨i.toNat, by omega⟩
 have hk : k < l.length := by omega
 have hk' : ¬ l.length ≤ k := by omega
 obtain ⟨b, o, rfl, h0, h1⟩ := Q7.cell hv hk
 have hgs := B6x hk
 have hm : l[k] ∈ l := List.getElem_mem hk
 obtain ⟨⟨x1, x2⟩, hlk⟩ : ∃ x, x = l[k] := ⟨_, rfl⟩
 rw [← hlk] at h0 h1 hgs hm
 unfold A56
 rw [hgs]
 cases x1 with
 | no => (have zz:=trivial;repeat((first|clear zz|with_reducible first|refine A3 ?_|refine A5 fun _=>?_|refine A4 fun _=>?_);try simp(disch:=first|omega|assumption|((repeat(first|exact A1|exact uH|apply A2|apply uT));first|done|fail)|(simp;first|done|omega|fail))[])); exact B4 rfl
 | bld => (have zz:=trivial;repeat((first|clear zz|with_reducible first|refine A3 ?_|refine A5 fun _=>?_|refine A4 fun _=>?_);try simp(disch:=first|omega|assumption|((repeat(first|exact A1|exact uH|apply A2|apply uT));first|done|fail)|(simp;first|done|omega|fail))[])); exact B4 rfl
 | rdy p =>
  have hl : x2.2.1 = p.length := hp _ hm p rfl
  obtain ⟨pa, pn, pc⟩ := x2
  simp only at hl
  subst hl
  have h1' : w.cell? ⟨b, o + k * 2 + 1, none⟩ = some (.slice pa p.length pc) := h1
  (have zz:=trivial;repeat((first|clear zz|with_reducible first|refine A3 ?_|refine A5 fun _=>?_|refine A4 fun _=>?_);try simp(disch:=first|omega|assumption|((repeat(first|exact A1|exact uH|apply A2|apply uT));first|done|fail)|(simp;first|done|omega|fail))[hk, hk', h1']))
  exact B4 rfl
set_option maxHeartbeats 2000000 in
theorem C0s {N E : Nat} (w : World) (m : WoH) (x : XH) (P PX : K8) (hg : WI N E m.ws) (hr : XRel m.ws x.xs) (hp : C27 x.sl) (hsub : c6 m.ts P) (hsubX : c6 x.ts PX) (hlen : ∀ t ∈ m.ts, t.2.length ≤ 1000000) (hw : LW false (B1 (s9 m x P PX)) w (s9 m x P PX) w) :
  Fn PR B6 21 #[.pointer (some ⟨m.b, 0, none⟩), .pointer (some ⟨x.b, 0, none⟩)] w (Rn (B1 (s9 m x P PX)) w (fun (n : Int) u => u = .bool true) fun n => s9 (m.cnu n) x P PX) := by
 refine A7T (TW.goH (κ := false) ?_ hw)
 unfold A1Z
 generalize hS : B1 (s9 m x P PX) = S at *
 have hls : m.ls.length ≤ 8 := by have := hg.ok.sl; simpa [WoH.ws] using this
 have hkl : m.keep.length ≤ 8 := hg.ok.keep
 have hsl : p8 x.sl = m.ls.map SlH.sp := hr.sl
 have hkp : x.keep = m.keep := hr.keep
 have hxl : x.sl.length ≤ 8 := by have := congrArg List.length hsl; simp at this; omega
 have hA := fun (i : Int) (w' : World) (h : SlAt w' m.bs m.sv m.ls) => C2P w' m.bs m.sv m.ls i hls h
 have hB := fun (i : Int) (w' : World) (h : D2 w' x.slv x.sl.length (x.sl.flatMap S2)) => C1Q w' x.slv x.sl i hxl hp h
 have hC := fun (i : Int) (w' : World) (h : w9 w' m.bk m.keep) => B42 w' m.bk m.keep i hkl h
 have hD := fun (i : Int) (w' : World) (h : D2 w' x.kev x.keep.length (x.keep.flatMap W6)) => A8w w' x.kev x.keep i (by rw [hkp]; exact hkl) h
 rw [hsl] at hB
 have hst : ∀ i, Z5 x.keep i = Z5 m.keep i := fun i => by rw [hkp]
 simp only [hst] at hD
 refine H7 (e := 179) (k := 2) (v := x.slv) (q := x.sl.length) (xs := x.sl.flatMap S2) (by unfold s9 D0; exact List.mem_append_right _ (by (repeat constructor))) fun sa sc hxs => ?_
 refine H7 (e := 186) (k := 2) (v := x.kev) (q := x.keep.length) (xs := x.keep.flatMap W6) (by unfold s9 D0; exact List.mem_append_right _ (by (repeat constructor))) fun ka kc hxk => ?_
 (have zz:=trivial;repeat((first|clear zz|with_reducible first|refine A3 ?_|refine A5 fun _=>?_|refine A4 fun _=>?_);try simp(disch:=first|omega|assumption|((repeat(first|exact A1|exact uH|apply A2|apply uT));first|done|fail)|(simp;first|done|omega|fail))[]))
 rw [show (Value.int .i64 (-1)) = Value.int .i64 (((0 : Nat) : Int) - 1) from rfl]
 refine B9J (fun y : Nat => s9 m x P PX) (fun y => y ≤ 10) (fun y => 10 - y) 0 (fun _ => .bool false) (fun y => .int .i64 ((y : Int) - 1)) (Nat.zero_le _) ?_
 intro y hy L hL
 by_cases hlt : y < 10
 ·have hlt' : ((y : Nat) : Int) - 1 < 9 := by omega
  have hnx := hL (y + 1) (by omega) (by omega)
  rw [show (((y + 1 : Nat)) : Int) - 1 = (y : Int) - 1 + 1 from by omega] at hnx
  have hA := hA ((y : Int) - 1)
  have hB := hB ((y : Int) - 1)
  have hC := hC ((y : Int) - 1)
  have hD := hD ((y : Int) - 1)
  obtain ⟨q, hq⟩ : ∃ q : Int, q = (y : Int) - 1 := ⟨_, rfl⟩
  rw [← hq] at hlt' hnx hA hB hC hD ⊢
  obtain ⟨⟨z1, z2⟩, hz⟩ : ∃ z, z = A56 (m.ls.map SlH.sp) q := ⟨_, rfl⟩
  rw [← hz] at hA hB
  obtain ⟨z3, hz3⟩ : ∃ z, z = Z5 m.keep q := ⟨_, rfl⟩
  rw [← hz3] at hC hD
  have hqb : -1 ≤ q ∧ q ≤ 8 := by omega
  simp only [s9, B8, D0, E0, E7, G5, H2, hxs, hxk, List.cons_append, List.nil_append] at hnx hB hD ⊢
  (have zz:=trivial;repeat((first|clear zz|with_reducible first|refine A3 ?_|refine A5 fun _=>?_|refine A4 fun _=>?_);try simp(disch:=first|omega|assumption|((repeat(first|exact A1|exact uH|apply A2|apply uT));first|done|fail)|(simp;first|done|omega|fail))[hlt']))
  refine D4 A9C (fun w' hw' => hA w' (SlAt.own hw' (by (repeat constructor)) (by (repeat constructor)) (by (repeat constructor)))) ?_
  (have zz:=trivial;repeat((first|clear zz|with_reducible first|refine A3 ?_|refine A5 fun _=>?_|refine A4 fun _=>?_);try simp(disch:=first|omega|assumption|((repeat(first|exact A1|exact uH|apply A2|apply uT));first|done|fail)|(simp;first|done|omega|fail))[hlt']))
  refine D4 A55 (fun w' hw' => hB w' (H3.own (e := 179) (k := 2) (by (repeat constructor)) w' hw')) ?_
  (have zz:=trivial;repeat((first|clear zz|with_reducible first|refine A3 ?_|refine A5 fun _=>?_|refine A4 fun _=>?_);try simp(disch:=first|omega|assumption|((repeat(first|exact A1|exact uH|apply A2|apply uT));first|done|fail)|(simp;first|done|omega|fail))[hlt', A46, beq_self_eq_true]))
  refine D4 A1W (fun w' hw' => hC w' (w9.own hw' (by (repeat constructor)))) ?_
  (have zz:=trivial;repeat((first|clear zz|with_reducible first|refine A3 ?_|refine A5 fun _=>?_|refine A4 fun _=>?_);try simp(disch:=first|omega|assumption|((repeat(first|exact A1|exact uH|apply A2|apply uT));first|done|fail)|(simp;first|done|omega|fail))[hlt', A46, beq_self_eq_true]))
  refine D4 d6 (fun w' hw' => hD w' (H3.own (e := 186) (k := 2) (by (repeat constructor)) w' hw')) ?_
  (have zz:=trivial;repeat((first|clear zz|with_reducible first|refine A3 ?_|refine A5 fun _=>?_|refine A4 fun _=>?_);try simp(disch:=first|omega|assumption|((repeat(first|exact A1|exact uH|apply A2|apply uT));first|done|fail)|(simp;first|done|omega|fail))[hlt', A46, beq_self_eq_true]))
  exact hnx
 ·have hlt' : ¬ ((y : Nat) : Int) - 1 < 9 := by omega
  clear hL
  (have zz:=trivial;repeat((first|clear zz|with_reducible first|refine A3 ?_|refine A5 fun _=>?_|refine A4 fun _=>?_);try simp(disch:=first|omega|assumption|((repeat(first|exact A1|exact uH|apply A2|apply uT));first|done|fail)|(simp;first|done|omega|fail))[hlt']))
  refine C0 (Hc := s9 m x P PX) (Hk := []) A5y (fun w' _ hs => B9u w' m x P PX hg hr hsub hsubX hlen hs) (by rw [← List.append_nil (s9 m x P PX)]; exact A1n _ _) ?_
  rintro n v rfl
  rw [List.append_nil]
  exact B0 n rfl (P5 _)
end Go.Proofs.YtpnidmkaobfhiaaGreat
namespace Go.Proofs.YtpnidmkaobfhiaaGreat
open Go
theorem U2.set2 {w : World} {l : List Q7} (h : U2 w l) (i : Int) (r : Q7) (hr : ∀ p, r.1 = .rdy p → r.2.2.1 = p.length ∧ p.length ≤ 1000 ∧ D2 w (rsP r) p.length (p.flatMap E6)) : U2 w (s7 l i r) := fun x hx p e => by
 unfold s7 at hx
 split at hx
 ·rcases List.mem_or_eq_of_mem_set hx with hx | rfl
  ·exact h x hx p e
  ·exact hr p e
 ·exact h x hx p e
theorem U2.hap2 {w : World} {y : XS} (h : U2 w y.sl) (a : ActV) (ha : a.pool.length ≤ 8) (hv : D2 w a.pv a.pool.length (a.pool.flatMap E6)) : U2 w (Q8 a y).sl := by
 unfold Q8
 split
 ·exact h
 split
 ·split <;> exact h
 split
 ·split <;> exact h
 split
 ·show U2 w (if Y1 y.sl.length a.n then S6 (L7 y.sl a.n) a.n a.pool (a.pa, a.pool.length, a.pc) else y.sl)
  split
  ·unfold S6
   have hb : U2 w (L7 y.sl a.n) := h.set2 _ _ fun p e => by cases e
   split
   ·exact hb.set2 _ _ fun p e => by
     have : a.pool = p := by simpa using e
     subst this
     exact ⟨rfl, by omega, hv⟩
   ·exact hb
  ·exact h
 split
 ·exact h.set2 _ _ fun p e => by cases e
 split
 ·split <;> exact h
 split
 ·exact h
 ·exact h
theorem U2.new2 (w : World) (n : Nat) : U2 w (List.replicate n noR) := fun r hr p e => by
 rw [(List.mem_replicate.1 hr).2] at e; cases e
end Go.Proofs.YtpnidmkaobfhiaaGreat
namespace Go.Proofs.YtpnidmkaobfhiaaGreat
open Go
abbrev SQ := (Nat × Nat × Nat) × CA × RQ
def sqH (m : WoH) (s : SQ) : List Res := W4 s.1.1 s.1.2.1 m s.2.1 ++ G1 s.1.2.2 s.2.2.1 s.2.2.2.1 s.2.2.2.2.1 s.2.2.2.2.2
structure StI (w : World) (m : WoH) (cp N xb i : Nat) (s : SQ) : Prop where
 c : CjC cp s.2.1
 g : CI N i s.2.1.1.v (V4 m s.2.1)
 x : XI i s.2.2.2.2.2.xs
 r : XRel (V4 m s.2.1) s.2.2.2.2.2.xs
 op : ∃ (o : OpV) (pa : Option Addr) (pc : Nat), o.pool.length ≤ 8 ∧ D2 w (.slice pa o.pool.length pc) o.pool.length (o.pool.flatMap E6) ∧ RelJ o (.slice pa o.pool.length pc) s.2.1.1.v s.2.2.1 s.2.2.2.1 s.2.2.2.2.1
 rd : s.2.1.1.RdP w
 sub : c6 s.2.2.2.2.2.ts s.2.2.2.2.1
 tab : ∀ t ∈ s.2.2.2.2.1, TabOk 0 t.2 ∨ TabOk cp t.2
 pools : U2 w s.2.2.2.2.2.sl
 nP : (L9, []) ∈ s.2.1.2.2
 nX : (L9, []) ∈ s.2.2.2.2.1
 xb : s.2.2.2.2.2.b = xb
theorem B8G {cp : Nat} {t : List EnV} (h : TabOk 0 t ∨ TabOk cp t) : L5 t ∧ t.length ≤ 1000000 := by
 rcases h with h | h
 ·exact ⟨h.keys, by rw [h.len]; omega⟩
 ·exact ⟨h.keys, by have := h.few; rw [h.len]; omega⟩
theorem CJ.RdP.ks {w w' : World} {a : CJ} (h : a.RdP w) (hk : KS false [] w w') : a.RdP w' := by
 cases a with
 | upd j pv qv => exact ⟨h.1, h.2.ks hk (by simp)⟩
 | exp j tv => trivial
 | sta j => trivial
 | non j => trivial
theorem U2.len {w : World} {l : List Q7} (h : U2 w l) : C27 l := fun r hr p e => (h r hr p e).1
theorem XRel.xi {N E i : Nat} {X : WS} {y z : XS} (hr : XRel X y) (hg : WI N E X) (hE : E ≤ i) (hz : XI i z) (hc : z.c = X.c) : XI i y := by
 have how : X.own.length = N := hg.ow
 have hsl : y.sl.length ≤ 8 := by have h1 := congrArg List.length hr.sl; have h2 := hg.ok.sl; simp at h1; omega
 have hep := hg.ep
 exact ⟨by rw [hr.c, ← hc]; exact hz.sh, by rw [hr.c, ← hc]; exact hz.csl, by rw [hr.now]; exact hg.now, by rw [hr.locks, hr.c, hg.sh, how], hsl, by rw [hr.ep]; omega⟩
theorem XI.up2 {E : Nat} {y : XS} (h : XI E y) : XI (E + 1) y := { h with ep := by have := h.ep; omega }
theorem StI.step {w : World} {m : WoH} {cp N xb i : Nat} {jb b b2 : Nat} {a a' : CA} {q y : RQ} {o : OpV} {pa : Option Addr} {pc : Nat} (h : StI w m cp N xb i ((jb, b, b2), a, q)) (hi : i ≤ 1000) (ho : o.pool.length ≤ 8) (hrd : D2 w (.slice pa o.pool.length pc) o.pool.length (o.pool.flatMap E6))
  (hN : CjN cp m a a') (hF : RqF o pa pc q.2.2.1 q.2.2.2 (a.1.v.step (V4 m a)).1 (a.1.v.step (V4 m a)).2.1 y) (hcp : (V4 m a).c.cp.toNat = cp) : StI w m cp N xb (i + 1) ((jb, b, b2), a', y) := by
 have hg := h.g.step hi
 rw [← hN.v, ← hN.x] at hg
 have hr := hF.r
 rw [← hN.x] at hr
 have hj := hF.j
 rw [← hN.v] at hj
 have hcx : (V4 m a').c = (V4 m a).c := rfl
 refine ⟨hN.c, hg, hr.xi (E := i + 1) hg.w (Nat.le_refl _) h.x.up2 (by rw [hcx]; exact h.r.c), hr, ⟨o, pa, pc, ho, hrd, hj⟩, h.rd.of hN.p, hF.sub, fun t ht => ?_, fun r hr2 p e => ?_, hN.sub _ h.nP, hF.mono _ h.nX, hF.b.trans h.xb⟩
 ·rcases hF.grow t ht with g | ⟨e, g1, g2⟩
  ·exact h.tab t g
  ·rw [g2]
   have := hg.j
   rw [hN.v, g1] at this
   have := this.2.2.1
   rw [hcx, hcp] at this
   exact this
 ·rcases hF.pools r hr2 with g | g | g
  ·exact h.pools r g p e
  ·exact absurd e (g p)
  ·rw [g] at e ⊢
   have e : o.pool = p := by simpa using e
   subst e
   exact ⟨rfl, by omega, hrd⟩
theorem StI.hap {w : World} {m : WoH} {cp N xb i : Nat} {jb b b2 : Nat} {a a' : CA} {r : RJ} {pins : List Int} {P : K8} {x x' : XH} (h : StI w m cp N xb i ((jb, b, b2), a, r, pins, P, x)) (hi : i ≤ 1000) (ac : ActV) (hcsl : (V4 m a).c.sl ≤ 8) (ha : ac.pool.length ≤ 8) (hv : D2 w ac.pv ac.pool.length (ac.pool.flatMap E6))
  (e1 : a'.1 = a.1) (e2 : V4 m a' = N6 ac (V4 m a) x.xs) (e3 : x'.b = x.b) (e4 : x'.xs = Q8 ac x.xs) (e5 : x'.ts = x.ts) (e6 : CjC cp a') (e7 : a'.2.2 = a.2.2) : StI w m cp N xb (i + 1) ((jb, b, b2), a', r, pins, P, x') := by
 have hg : CI N (i + 1) a'.1.v (V4 m a') := by rw [e1, e2]; exact h.g.hap hi h.r ac hcsl
 have how : ((V4 m a).own.length : Int) = (V4 m a).c.sh := by rw [h.g.w.ow, h.g.w.sh]
 have hep := h.g.w.ep
 have hr := (h.r.hap h.g.w.ok h.g.f ⟨hep.1, by omega⟩ ac how).1
 rw [← e2, ← e4] at hr
 have hx : XI (i + 1) x'.xs := by rw [e4]; exact h.x.hap ac
 have hsl : x'.sl = (Q8 ac x.xs).sl := by rw [← e4]; rfl
 obtain ⟨o, pa, pc, h1, h2, h3⟩ := h.op
 exact ⟨e6, hg, hx, hr, ⟨o, pa, pc, h1, h2, by rw [e1]; exact h3⟩, by rw [e1]; exact h.rd, by show c6 x'.ts P; rw [e5]; exact h.sub, h.tab, by show U2 w x'.sl; rw [hsl]; exact U2.hap2 (y := x.xs) h.pools ac ha hv, by rw [e7]; exact h.nP, h.nX, e3.trans h.xb⟩
theorem StI.job {w : World} {m : WoH} {cp N xb i : Nat} {p p' : Nat × Nat × Nat} {c : CJ} {d : WoG} {P : K8} {r : RJ} {pins : List Int} {PX : K8} {x : XH} (h : StI w m cp N xb i (p, (c, d, P), r, pins, PX, x)) {who : Int} (hwho : 0 ≤ who) {o : OpV} {pa : Option Addr} {pc : Nat} (ho : o.pool.length ≤ 8) (hrd : D2 w (.slice pa o.pool.length pc) o.pool.length (o.pool.flatMap E6)) :
  StI w m cp N xb i (p', (W0 who o (.slice pa o.pool.length pc), d, P), A2T who o (.slice pa o.pool.length pc), [], PX, x) := by
 have hw := h.g.w
 exact ⟨⟨h.c.tab, h.c.sub, B6n h.nP⟩, ⟨hw, B57 N _ hwho o _ hw.ok.wk.1 hw.n.1, h.g.f, h.g.k, h.g.cp⟩, h.x, h.r, ⟨o, pa, pc, ho, hrd, B4r h.nX⟩, B5u (by omega) hrd, h.sub, h.tab, h.pools, h.nP, h.nX, h.xb⟩
def cjn (a : CA) (n : Int) : CA := (a.1, { a.2.1 with cn := n }, a.2.2)
theorem StI.cn {w : World} {m : WoH} {cp N xb i : Nat} {p : Nat × Nat × Nat} {a : CA} {q : RQ} (h : StI w m cp N xb i (p, a, q)) (n : Int) : StI w m cp N xb i (p, cjn a n, q) := ⟨⟨h.c.tab, h.c.sub, h.c.tb⟩, h.g, h.x, h.r, h.op, h.rd, h.sub, h.tab, h.pools, h.nP, h.nX, h.xb⟩
theorem B3q (jb b b2 : Nat) (m : WoH) (a : CA) (r : RJ) (pins : List Int) (PX : K8) (x : XH) : (W4 jb b m a ++ G1 b2 r pins PX x).Perm (s9 (m.ug a.2.1) x a.2.2 PX ++ ([D9 b2 r, .own 3 1 r.pins pins.length (C1 pins)] ++ (F7 jb (a.1.I b) :: p6 b a.1))) :=
 ((A3d jb b m a).append_right _).trans (p5a (B8 (m.ug a.2.1)) (F7 jb (a.1.I b) :: p6 b a.1) (D0 x) (C8 a.2.2) (D9 b2 r) (.own 3 1 r.pins pins.length (C1 pins)) (C8 PX))
theorem C6N {S : List Nat} {w0 : World} {X : Nat → Prop} {K : Value → WP} {w : World} {m : WoH} {cp N i jb b b2 : Nat} {a : CA} {r : RJ} {pins : List Int} {PX : K8} {x : XH} {xb : Nat} (h : StI w m cp N xb i ((jb, b, b2), a, r, pins, PX, x))
  (hK : ∀ n : Int, TW false S w0 (W4 jb b m (cjn a n) ++ G1 b2 r pins PX x) (K (.bool true))) :
  TW false S w0 (W4 jb b m a ++ G1 b2 r pins PX x) (B3 PR X 21 [.pointer (some ⟨m.b, 0, none⟩), .pointer (some ⟨xb, 0, none⟩)] K) := by
 refine TW.perm ?_ (B3q jb b b2 m a r pins PX x)
 rw [← show x.b = xb from h.xb]
 refine C0 (Hc := s9 (m.ug a.2.1) x a.2.2 PX) A5Z (fun w' _ hs => C0s w' (m.ug a.2.1) x a.2.2 PX h.g.w h.r h.pools.len h.c.sub h.sub (fun t ht => (B8G (h.c.tab _ (h.c.sub _ ht))).2) hs) (A1n _ _) ?_
 rintro n v rfl
 exact TW.perm (hK n) (B3q jb b b2 m (cjn a n) r pins PX x).symm
theorem C8F {κ : Bool} {S : List Nat} {w0 : World} {K : WP} {m : WoH} {jb b b2 jb' b' b2' : Nat} {c c' : CJ} {d : WoG} {P : K8} {r r' : RJ} {pins : List Int} {PX : K8} {x : XH} (hr : r'.pins = L9) (h : TW κ S w0 (W4 jb' b' m (c', d, P) ++ G1 b2' r' [] PX x) K) :
  TW κ S w0 (.own 3 1 (.slice none 0 0) 0 [] :: D9 b2' r' :: ((F7 jb' (c'.I b') :: p6 b' c') ++ (G1 b2 r pins PX x ++ W4 jb b m (c, d, P)))) K := by
 have hp : (G1 b2 r pins PX x ++ W4 jb b m (c, d, P)).Perm ((D0 x ++ [C8 P, C8 PX] ++ B8 (m.ug d)) ++ ([D9 b2 r, .own 3 1 r.pins pins.length (C1 pins)] ++ (F7 jb (c.I b) :: p6 b c))) := by
  refine (List.perm_append_comm.trans (B3q jb b b2 m (c, d, P) r pins PX x)).trans (List.Perm.append_right _ ?_)
  exact List.perm_append_comm
 have hq : (B8 (m.ug d) ++ ((F7 jb' (c'.I b') :: p6 b' c') ++ [C8 P]) ++ G1 b2' r' [] PX x).Perm (.own 3 1 (.slice none 0 0) 0 [] :: D9 b2' r' :: ((F7 jb' (c'.I b') :: p6 b' c') ++ (D0 x ++ [C8 P, C8 PX] ++ B8 (m.ug d)))) := by
  unfold G1
  rw [hr]
  generalize F7 jb' (c'.I b') :: p6 b' c' = J
  generalize B8 (m.ug d) = W
  generalize D0 x = X
  have e1 : W ++ (J ++ [C8 P]) ++ (D9 b2' r' :: .own 3 1 L9 ([] : List Int).length (C1 []) :: C8 PX :: X) = W ++ ((J ++ [C8 P]) ++ ([D9 b2' r', .own 3 1 (.slice none 0 0) 0 []] ++ ([C8 PX] ++ X))) := by simp [L9, C1]
  have e2 : (.own 3 1 (.slice none 0 0) 0 [] :: D9 b2' r' :: (J ++ (X ++ [C8 P, C8 PX] ++ W)) : List Res) = [.own 3 1 (.slice none 0 0) 0 [], D9 b2' r'] ++ (J ++ (X ++ ([C8 P] ++ ([C8 PX] ++ W)))) := by simp
  rw [e1, e2]
  refine (List.perm_append_comm (l₁ := W)).trans ?_
  rw [List.append_assoc, List.append_assoc, List.append_assoc, List.append_assoc]
  refine (List.Perm.append_left J (List.perm_append_comm_assoc [C8 P] _ _)).trans ?_
  refine (List.perm_append_comm_assoc J _ _).trans ?_
  refine List.Perm.append (List.Perm.swap _ _ _) (List.Perm.append_left J ?_)
  refine (List.Perm.append_left [C8 P] (List.perm_append_comm_assoc [C8 PX] X W)).trans ?_
  exact List.perm_append_comm_assoc [C8 P] X _
 refine TW.perm ?_ ((((hp.append_left _).cons _).cons _).trans (List.Perm.refl _))
 have h2 := TW.perm h ((((A3d jb' b' m (c', d, P)).append_right _).trans hq).symm)
 refine TW.sub h2 ?_
 refine List.Sublist.cons_cons _ (List.Sublist.cons_cons _ (List.Sublist.append (List.Sublist.refl _) (List.sublist_append_left _ _)))
theorem C3G (jb b b2 : Nat) (m : WoH) (cj : CJ) (d : WoG) (P : K8) (r : RJ) (pins : List Int) (PX : K8) (x : XH) : (B8 (m.ug d) ++ (C8 P :: (G1 b2 r pins PX x ++ (F7 jb (cj.I b) :: p6 b cj)))).Perm (W4 jb b m (cj, d, P) ++ G1 b2 r pins PX x) := by
 refine List.Perm.trans ?_ (((A3d jb b m (cj, d, P)).append_right _).symm)
 rw [List.append_assoc]
 refine List.Perm.append_left _ ?_
 have e : (F7 jb (cj.I b) :: (p6 b cj ++ [C8 P])) ++ G1 b2 r pins PX x = (F7 jb (cj.I b) :: p6 b cj) ++ (C8 P :: G1 b2 r pins PX x) := by simp
 show (C8 P :: (G1 b2 r pins PX x ++ (F7 jb (cj.I b) :: p6 b cj))).Perm ((F7 jb (cj.I b) :: (p6 b cj ++ [C8 P])) ++ G1 b2 r pins PX x)
 rw [e]
 exact List.perm_append_comm (l₁ := C8 P :: G1 b2 r pins PX x) (l₂ := F7 jb (cj.I b) :: p6 b cj)
end Go.Proofs.YtpnidmkaobfhiaaGreat
namespace Go.Proofs.YtpnidmkaobfhiaaGreat
open Go
theorem C5L {l : List (OpV × Value)} {n : Int} (h : y8 (l.map (·.1)) n = true) {o : OpV × Value} (ho : o ∈ l) : o.1.pool.length ≤ 8 := by
 unfold y8 at h
 rw [Bool.and_eq_true, List.all_eq_true] at h
 have := h.2 o.1 (List.mem_map_of_mem ho)
 unfold B11 at this
 simp only [Bool.and_eq_true, decide_eq_true_eq] at this
 exact this.2
theorem C2Q {l : List (OpV × Value)} {n : Int} (h : y8 (l.map (·.1)) n = true) : (l.length : Int) ≤ n := by
 unfold y8 at h
 rw [Bool.and_eq_true] at h
 simpa using h.1
set_option maxHeartbeats 8000000 in
theorem B22 (w : World) (c : CfgV) (who : Int) (ov : Value) (ops : List (OpV × Value)) (lv : Value) (l : List ActV) (hol : ops.length ≤ 9223372036854775807) (hll : l.length ≤ 9223372036854775807)
  (hov : D2 w ov ops.length (ops.flatMap w7)) (hos : ∀ o ∈ ops, D2 w o.2 o.1.pool.length (o.1.pool.flatMap E6)) (hv : D2 w lv l.length (l.flatMap A43)) (hvs : ∀ a ∈ l, D2 w a.pv a.pool.length (a.pool.flatMap E6)) :
  Fn PR B6 3 #[c.val, .int .i64 who, ov, lv] w (fun v w' => v = .bool true ∧ D6 [] w w') := by
 refine Fn.pure (A2y (TW.go (κ := false) (S := []) ?_))
 unfold j1
 have hFew := fun (w' : World) (H : List Res) (hw' : LW false [] w H w') => C3k w' lv l hll (hv.ks hw'.ks (by simp))
 have hFewO := fun (w' : World) (H : List Res) (hw' : LW false [] w H w') => C3Z w' ov ops 12 hol (hov.ks hw'.ks (by simp)) (fun o ho => by obtain ⟨a, k, e, _⟩ := (hos o ho).form; exact ⟨a, k, e⟩)
 obtain ⟨la, lc, rfl, hlr⟩ := hv.form
 obtain ⟨oa, oc, rfl, hor⟩ := hov.form
 simp only [CfgV.val]
 (have zz:=trivial;repeat((first|clear zz|with_reducible first|refine A3 ?_|refine A5 fun _=>?_|refine A4 fun _=>?_);try simp(disch:=first|omega|assumption|((repeat(first|exact A1|exact uH|apply A2|apply uT));first|done|fail)|(simp;first|done|omega|fail))[]))
 rename_i bc
 refine D4 A5C (fun w' _ => B9L w') ?_
 (have zz:=trivial;repeat((first|clear zz|with_reducible first|refine A3 ?_|refine A5 fun _=>?_|refine A4 fun _=>?_);try simp(disch:=first|omega|assumption|((repeat(first|exact A1|exact uH|apply A2|apply uT));first|done|fail)|(simp;first|done|omega|fail))[]))
 refine D4 A45 (fun w' _ => C12 w' c) ?_
 cases hs : A7k c with
 | false => (have zz:=trivial;repeat((first|clear zz|with_reducible first|refine A3 ?_|refine A5 fun _=>?_|refine A4 fun _=>?_);try simp(disch:=first|omega|assumption|((repeat(first|exact A1|exact uH|apply A2|apply uT));first|done|fail)|(simp;first|done|omega|fail))[])); exact B4 rfl
 | true =>
 (have zz:=trivial;repeat((first|clear zz|with_reducible first|refine A3 ?_|refine A5 fun _=>?_|refine A4 fun _=>?_);try simp(disch:=first|omega|assumption|((repeat(first|exact A1|exact uH|apply A2|apply uT));first|done|fail)|(simp;first|done|omega|fail))[]))
 refine D4 A7L (fun w' hw' => hFewO w' _ hw') ?_
 clear hFewO
 cases hfo : y8 (ops.map (·.1)) 12 with
 | false => (have zz:=trivial;repeat((first|clear zz|with_reducible first|refine A3 ?_|refine A5 fun _=>?_|refine A4 fun _=>?_);try simp(disch:=first|omega|assumption|((repeat(first|exact A1|exact uH|apply A2|apply uT));first|done|fail)|(simp;first|done|omega|fail))[])); exact B4 rfl
 | true =>
 (have zz:=trivial;repeat((first|clear zz|with_reducible first|refine A3 ?_|refine A5 fun _=>?_|refine A4 fun _=>?_);try simp(disch:=first|omega|assumption|((repeat(first|exact A1|exact uH|apply A2|apply uT));first|done|fail)|(simp;first|done|omega|fail))[]))
 refine D4 A66 (fun w' hw' => hFew w' _ hw') ?_
 clear hFew
 cases hf : A2x l with
 | false => (have zz:=trivial;repeat((first|clear zz|with_reducible first|refine A3 ?_|refine A5 fun _=>?_|refine A4 fun _=>?_);try simp(disch:=first|omega|assumption|((repeat(first|exact A1|exact uH|apply A2|apply uT));first|done|fail)|(simp;first|done|omega|fail))[])); exact B4 rfl
 | true =>
 by_cases ho0 : ops.length = 0
 ·have ho0' : (ops.length : Int) = 0 := by omega
  (have zz:=trivial;repeat((first|clear zz|with_reducible first|refine A3 ?_|refine A5 fun _=>?_|refine A4 fun _=>?_);try simp(disch:=first|omega|assumption|((repeat(first|exact A1|exact uH|apply A2|apply uT));first|done|fail)|(simp;first|done|omega|fail))[ho0, ho0'])); exact B4 rfl
 have ho0' : ¬ (ops.length : Int) = 0 := by omega
 by_cases hwho : who < 0
 ·(have zz:=trivial;repeat((first|clear zz|with_reducible first|refine A3 ?_|refine A5 fun _=>?_|refine A4 fun _=>?_);try simp(disch:=first|omega|assumption|((repeat(first|exact A1|exact uH|apply A2|apply uT));first|done|fail)|(simp;first|done|omega|fail))[ho0, ho0', hwho])); exact B4 rfl
 (have zz:=trivial;repeat((first|clear zz|with_reducible first|refine A3 ?_|refine A5 fun _=>?_|refine A4 fun _=>?_);try simp(disch:=first|omega|assumption|((repeat(first|exact A1|exact uH|apply A2|apply uT));first|done|fail)|(simp;first|done|omega|fail))[ho0, ho0', hwho]))
 refine G7 A9f (fun w' hw' => B79 w' c) ?_
 cases hok : S4 c with
 | false =>
  simp only [Bool.false_eq_true, if_false]
  rintro m v rfl
  (have zz:=trivial;repeat((first|clear zz|with_reducible first|refine A3 ?_|refine A5 fun _=>?_|refine A4 fun _=>?_);try simp(disch:=first|omega|assumption|((repeat(first|exact A1|exact uH|apply A2|apply uT));first|done|fail)|(simp;first|done|omega|fail))[]))
  exact B4 rfl
 | true =>
 simp only [if_true]
 rintro m v ⟨rfl, hmc, hws⟩
 obtain ⟨ob, oo, rfl, horow⟩ := hor (by omega)
 have hop : ∀ o ∈ ops, ∃ (o1 : OpV) (pa : Option Addr) (pc : Nat), o = (o1, Value.slice pa o1.pool.length pc) ∧ o1.pool.length ≤ 8 ∧ D2 w (.slice pa o1.pool.length pc) o1.pool.length (o1.pool.flatMap E6) := by
  rintro ⟨o1, o2⟩ ho
  obtain ⟨pa, pc, e, _⟩ := (hos _ ho).form
  simp only at e
  subst e
  exact ⟨o1, pa, pc, rfl, C5L hfo ho, hos _ ho⟩
 obtain ⟨o0, hx0⟩ : ∃ o, ops[0]? = some o := ⟨_, List.getElem?_eq_getElem (by omega)⟩
 have hxm0 := List.mem_of_getElem? hx0
 obtain ⟨o1, pa, pc, rfl, hpl0, hrd0⟩ := hop _ hxm0
 have g0 := horow.partAt (f := w7) (k := 4) (fun _ => rfl) hx0 0 4 (by omega)
 rw [show ((w7 (o1, Value.slice pa o1.pool.length pc)).drop 0).take 4 = w7 (o1, Value.slice pa o1.pool.length pc) from rfl, show oo + 0 * 4 + 0 = oo by omega] at g0
 have g0' : f9 w ob oo 4 = some (#[.int .i64 o1.kind, .string o1.packet, .slice pa o1.pool.length pc, .int .i64 o1.shard] : Array Value).toList := g0
 have hge0 : ¬ ops.length ≤ 0 := by omega
 have hlt0 : 0 < ops.length := by omega
 have ho1 : (o1.val (.slice pa o1.pool.length pc)) = .agg #[.int .i64 o1.kind, .string o1.packet, .slice pa o1.pool.length pc, .int .i64 o1.shard] := rfl
 (have zz:=trivial;repeat((first|clear zz|with_reducible first|refine A3 ?_|refine A5 fun _=>?_|refine A4 fun _=>?_);try simp(disch:=first|omega|assumption|((repeat(first|exact A1|exact uH|apply A2|apply uT));first|done|fail)|(simp;first|done|omega|fail))[hge0, hlt0, g0, w7]))
 rw [← ho1]
 refine G7 x5 (fun w' hw' => B72 w' who o1 pa o1.pool.length pc) ?_
 rintro ⟨jb, b⟩ v rfl
 refine TW.perm ?_ List.perm_append_comm
 simp only [B8, E0, List.cons_append, List.nil_append]
 (have zz:=trivial;repeat((first|clear zz|with_reducible first|refine A3 ?_|refine A5 fun _=>?_|refine A4 fun _=>?_);try simp(disch:=first|omega|assumption|((repeat(first|exact A1|exact uH|apply A2|apply uT));first|done|fail)|(simp;first|done|omega|fail))[]))
 refine D4 A5A (fun w' hw' => B9Q w' m (hw'.pt (b := m.b) (by unfold E7; (repeat constructor)))) ?_
 (have zz:=trivial;repeat((first|clear zz|with_reducible first|refine A3 ?_|refine A5 fun _=>?_|refine A4 fun _=>?_);try simp(disch:=first|omega|assumption|((repeat(first|exact A1|exact uH|apply A2|apply uT));first|done|fail)|(simp;first|done|omega|fail))[hge0, hlt0, g0, w7]))
 refine G7 A7A (fun w' hw' => C1y w' c hok) ?_
 rintro x v ⟨rfl, hx1, hx2, hx3, hx4, hx5, hx6, hx7, hx8, hx9, hx10⟩
 simp only [D0, G5, H2, List.cons_append, List.nil_append]
 (have zz:=trivial;repeat((first|clear zz|with_reducible first|refine A3 ?_|refine A5 fun _=>?_|refine A4 fun _=>?_);try simp(disch:=first|omega|assumption|((repeat(first|exact A1|exact uH|apply A2|apply uT));first|done|fail)|(simp;first|done|omega|fail))[hge0, hlt0, g0, w7]))
 rw [← ho1]
 refine G7 A1U (fun w' hw' => B6L w' who o1 pa o1.pool.length pc) ?_
 rintro b2 v rfl
 simp only [List.cons_append, List.nil_append]
 refine j9 155 4 ?_
 refine A1v (r := .slice none 0 0) (l := []) (ts := m.ts) (by (repeat' constructor)) ?_
 refine j9 155 4 ?_
 refine A1v (r := .slice none 0 0) (l := []) (ts := x.ts) (by (repeat' constructor)) ?_
 refine j9 3 1 ?_
 refine C62 (r := .pt bc (.cells #[.int .i64 c.wk, .int .i64 c.sh, .int .i64 c.cp, .int .i64 c.idle, .int .i64 c.sl] 23)) (by (repeat constructor)) ?_
 have hok2 := hok
 simp only [S4, e8, Bool.and_eq_true, decide_eq_true_eq] at hok2
 obtain ⟨N, hN⟩ : ∃ N : Nat, c.sh = N := ⟨c.sh.toNat, by omega⟩
 have hNt : c.sh.toNat = N := by omega
 have hg0 := GI.new hok 0 ByteArray.empty (by decide)
 rw [hNt, ← hws] at hg0
 obtain ⟨hr0, hf0⟩ := XRel.new hok (y := x.xs) hx1 hx2 hx3 hx4 hx5 hx6 hx7 hx8 hx9 hx10
 have hk0 : KpI (N8 c) := ⟨by simp [N8], fun y hy => by rw [(List.mem_replicate.1 hy).2]; intro _; rfl⟩
 rw [← hws] at hr0 hf0 hk0
 have hpo0 : U2 w x.sl := by rw [hx6]; exact U2.new2 _ _
 have htx0 : ∀ t ∈ x.ts, TabOk c.cp.toNat t.2 := fun t ht => by
  have : t.2 ∈ x.ts.map (·.2) := List.mem_map.2 ⟨t, ht, rfl⟩
  rw [hx8] at this
  rw [(List.mem_replicate.1 this).2]; exact TabOk.new (by omega)
 have hxi0 : XI 0 x.xs := ⟨by show 1 ≤ x.c.sh ∧ x.c.sh ≤ 16; rw [hx1]; omega, by show x.c.sl ≤ 8; rw [hx1]; omega, by show 0 ≤ x.now ∧ x.now ≤ _; rw [hx10]; omega, by show (x.locks.length : Int) = x.c.sh; rw [hx5, hx1, List.length_replicate]; omega, by show x.sl.length ≤ 8; rw [hx6, List.length_replicate]; omega, by show 0 ≤ x.ep ∧ x.ep ≤ 0; rw [hx2]; omega⟩
 have hcc : m.c = c := congrArg WS.c hws
 have htabs : ∀ t ∈ m.ts, TabOk c.cp.toNat t.2 := fun t ht => by
  have e1 : m.ts.map (·.2) = List.replicate c.sh.toNat (newE c.cp.toNat) := congrArg WS.tabs hws
  have : t.2 ∈ m.ts.map (·.2) := List.mem_map.2 ⟨t, ht, rfl⟩
  rw [e1] at this
  rw [(List.mem_replicate.1 this).2]; exact TabOk.new (by omega)
 clear hmc hws hx1 hx2 hx3 hx4 hx5 hx6 hx7 hx8 hx9 hx10
 obtain ⟨P, hP⟩ : ∃ P, P = m.ts ++ [(L9, [])] := ⟨_, rfl⟩
 obtain ⟨PX, hPX⟩ : ∃ PX, PX = x.ts ++ [(L9, [])] := ⟨_, rfl⟩
 rw [show ((.slice none 0 0 : Value), ([] : List EnV)) = (L9, []) from rfl, ← hP, ← hPX]
 have hnP : (L9, []) ∈ P := by rw [hP]; exact List.mem_append_right _ (List.mem_singleton.2 rfl)
 have hnX : (L9, []) ∈ PX := by rw [hPX]; exact List.mem_append_right _ (List.mem_singleton.2 rfl)
 have hC0 : StI w m c.cp.toNat N x.b 0 ((jb, b, b2), (W0 who o1 (.slice pa o1.pool.length pc), m.dg, P), A2T who o1 (.slice pa o1.pool.length pc), [], PX, x) := by
  refine ⟨⟨fun t ht => ?_, fun t ht => by rw [hP]; exact List.mem_append_left _ ht, B6n hnP⟩, ⟨hg0, B57 N _ (by omega) o1 _ hg0.ok.wk.1 hg0.n.1, hf0, hk0, by show 1 ≤ m.c.cp; rw [hcc]; omega⟩, hxi0, hr0, ⟨o1, pa, pc, hpl0, hrd0, B4r hnX⟩, B5u (by omega) hrd0, fun t ht => by rw [hPX]; exact List.mem_append_left _ ht, fun t ht => ?_, hpo0, hnP, hnX, rfl⟩
  ·rw [hP] at ht
   rcases List.mem_append.1 ht with ht | ht
   ·exact Or.inr (htabs t ht)
   ·rw [List.mem_singleton.1 ht]; exact Or.inl A59
  ·rw [hPX] at ht
   rcases List.mem_append.1 ht with ht | ht
   ·exact Or.inr (htx0 t ht)
   ·rw [List.mem_singleton.1 ht]; exact Or.inl A59
 clear hP hPX htabs htx0 hg0 hr0 hf0 hxi0 hpo0 hk0
 have hcpx : ∀ a : CA, (V4 m a).c.cp.toNat = c.cp.toNat := fun a => by show m.c.cp.toNat = _; rw [hcc]
 have hcsl : ∀ a : CA, (V4 m a).c.sl ≤ 8 := fun a => by show m.c.sl ≤ 8; rw [hcc]; omega
 refine Sels.tw (rs := B8 (m.ug m.dg) ++ (C8 P :: (G1 b2 (A2T who o1 (.slice pa o1.pool.length pc)) [] PX x ++ (F7 jb ((W0 who o1 (.slice pa o1.pool.length pc)).I b) :: p6 b (W0 who o1 (.slice pa o1.pool.length pc)))))) (by simp only [show m.ug m.dg = m from rfl, G1, A2T, L9, C1, List.map_nil, List.length_nil, B8, E0, D0, G5, H2, List.cons_append, List.nil_append]; repeat (first | exact P5 _ | (apply Sels.cons; · (repeat constructor)))) ?_
 (have zz:=trivial;repeat((first|clear zz|with_reducible first|refine A3 ?_|refine A5 fun _=>?_|refine A4 fun _=>?_);try simp(disch:=first|omega|assumption|((repeat(first|exact A1|exact uH|apply A2|apply uT));first|done|fail)|(simp;first|done|omega|fail))[]))
 refine TW.perm ?_ (C3G jb b b2 m (W0 who o1 (.slice pa o1.pool.length pc)) m.dg P (A2T who o1 (.slice pa o1.pool.length pc)) [] PX x)
 refine C8b (fun y : Nat × Nat × SQ => sqH m y.2.2) (fun y => (y.1 ≤ l.length ∧ 1 ≤ y.2.1 ∧ y.2.1 ≤ ops.length) ∧ StI w m c.cp.toNat N x.b y.1 y.2.2) (fun y => l.length - y.1) (0, 1, (jb, b, b2), (W0 who o1 (.slice pa o1.pool.length pc), m.dg, P), A2T who o1 (.slice pa o1.pool.length pc), [], PX, x) (fun y => .pointer (some ⟨y.2.2.1.1, 0, none⟩)) (fun y => .pointer (some ⟨y.2.2.1.2.2, 0, none⟩)) (fun y => .int .i64 (y.2.1 : Nat)) (fun _ => .bool false) (fun y => .int .i64 (y.1 : Nat)) ⟨⟨Nat.zero_le _, Nat.le_refl _, by simp only; omega⟩, hC0⟩ ?_
 obtain ⟨xb, hxb⟩ : ∃ xb, xb = x.b := ⟨_, rfl⟩
 rw [← hxb]
 clear hC0 hxb hnP hnX g0 g0' hx0 hxm0 hpl0 hrd0 ho1 hge0 hlt0
 clear PX P
 have hl40 := C02 hf
 rintro ⟨i, nx, ⟨jb, b, b2⟩, ⟨cj, d, P⟩, r, pins, PX, x⟩ ⟨⟨hi, hn1, hn2⟩, hC⟩ L hL
 simp only [sqH] at hi hn1 hn2 hC hL ⊢
 obtain rfl : x.b = xb := hC.xb
 by_cases hlt : i < l.length
 case neg =>
  have hlt' : ¬ ((i : Nat) : Int) < (l.length : Nat) := by omega
  clear hL
  (have zz:=trivial;repeat((first|clear zz|with_reducible first|refine A3 ?_|refine A5 fun _=>?_|refine A4 fun _=>?_);try simp(disch:=first|omega|assumption|((repeat(first|exact A1|exact uH|apply A2|apply uT));first|done|fail)|(simp;first|done|omega|fail))[hlt']))
  exact B4 rfl
 have hlt' : ((i : Nat) : Int) < (l.length : Nat) := by omega
 obtain ⟨lb, lo, rfl, hrow⟩ := hlr (by omega)
 obtain ⟨ac, hx⟩ : ∃ ac, l[i]? = some ac := ⟨_, List.getElem?_eq_getElem hlt⟩
 have hxm := List.mem_of_getElem? hx
 have g0 := hrow.cellAt (f := A43) (k := 3) (j := 0) (fun _ => rfl) hx rfl
 have g3 := hrow.partAt (f := A43) (k := 3) (fun _ => rfl) hx 0 3 (by omega)
 rw [show ((A43 ac).drop 0).take 3 = A43 ac from rfl, Nat.add_zero] at g3
 rw [Nat.add_zero] at g0
 have hap := C2B hf hxm
 have hacv := hvs _ hxm
 have hcs := hcsl (cj, d, P)
 have hcp := hcpx (cj, d, P)
 by_cases k0 : ac.k = 0
 ·rw [k0] at g0
  (have zz:=trivial;repeat((first|clear zz|with_reducible first|refine A3 ?_|refine A5 fun _=>?_|refine A4 fun _=>?_);try simp(disch:=first|omega|assumption|((repeat(first|exact A1|exact uH|apply A2|apply uT));first|done|fail)|(simp;first|done|omega|fail))[hlt, hlt', g0]))
  refine D4 Q3 (fun w' hw' => B9F w w' jb b m (cj, d, P) (fun r hr => List.mem_append_left _ hr) hC.g.w hw') ?_
  obtain ⟨o, qa, qc, ho8, hord, hRJ⟩ := hC.op
  have hxl : (x.locks.length : Int) = x.c.sh := hC.x.locks
  have hRx := fun (w' : World) (h1 : QBl w' b2 r) (h2 : XBl w' x) (h3 : D2 w' x.lov x.locks.length (C1 x.locks)) => B2b w' b2 r x h1 h2 h3 hxl
  rw [B2u hC.g hC.r hRJ] at hRx
  obtain ⟨rb, hrb⟩ : ∃ rb, rb = cj.v.ready (V4 m (cj, d, P)) := ⟨_, rfl⟩
  simp only at hRx
  rw [← hrb] at hRx ⊢
  clear hrb
  (have zz:=trivial;repeat((first|clear zz|with_reducible first|refine A3 ?_|refine A5 fun _=>?_|refine A4 fun _=>?_);try simp(disch:=first|omega|assumption|((repeat(first|exact A1|exact uH|apply A2|apply uT));first|done|fail)|(simp;first|done|omega|fail))[]))
  refine D4 n8 (fun w' hw' => hRx w' (hw'.pt (List.mem_append_right _ (by unfold G1 D9; (repeat constructor)))) (hw'.pt (List.mem_append_right _ (by unfold G1 D0 G5; (repeat constructor)))) (H3.own (e := 3) (k := 1) (List.mem_append_right _ (by unfold G1 D0; (repeat constructor))) w' hw')) ?_
  clear hRx
  (have zz:=trivial;repeat((first|clear zz|with_reducible first|refine A3 ?_|refine A5 fun _=>?_|refine A4 fun _=>?_);try simp(disch:=first|omega|assumption|((repeat(first|exact A1|exact uH|apply A2|apply uT));first|done|fail)|(simp;first|done|omega|fail))[A46, beq_self_eq_true]))
  refine D1v (N := N) (E := i) (Hk := G1 b2 r pins PX x) jb b m (cj, d, P) c.cp.toNat hC.c (by omega) hC.g hcp (fun w' hk => hC.rd.ks hk) (P5 _) ?_
  intro a' hN
  (have zz:=trivial;repeat((first|clear zz|with_reducible first|refine A3 ?_|refine A5 fun _=>?_|refine A4 fun _=>?_);try simp(disch:=first|omega|assumption|((repeat(first|exact A1|exact uH|apply A2|apply uT));first|done|fail)|(simp;first|done|omega|fail))[]))
  refine TW.perm ?_ List.perm_append_comm
  refine C0 (Hc := G1 b2 r pins PX x) (Hk := W4 jb b m a') A4B (fun w' hw' hs => C0a w' b2 o qa qc cj.v (V4 m (cj, d, P)) r pins PX x (by omega) hC.g hC.r hRJ (by omega) hC.sub (fun t ht => B8G (hC.tab t ht)) (B1F (fun w1 hk => hord.ks hk (by simp)) hw') hs) (A1n _ _) ?_
  rintro ⟨r', pins', PX', x'⟩ v ⟨rfl, hF⟩
  have hC2 := hC.step (by omega) ho8 hord hN hF hcp
  have hxb' : x'.b = x.b := hF.b
  have hsst : a'.1.v.b.st = r'.st := by rw [hN.v]; exact hF.j.st.symm
  have hans : a'.1.v.b.ans = r'.ans := by rw [hN.v]; exact hF.j.ans.symm
  clear hN hF hRJ hC
  generalize ((cj, d, P) : CA).1.v.step (V4 m (cj, d, P)) = stp
  obtain ⟨s1, s2, t1, t2, t3⟩ := stp
  have hS1 : ∀ (w' : World) (H : List Res), LW false [] w H w' → (∀ r ∈ W4 jb b m a', r ∈ H) → Fn PR B6 19 #[.pointer (some ⟨jb, 0, none⟩)] w' (fun u w'' => u = .int .i64 r'.st ∧ D6 [] w' w'') := fun w' H hw' hm => by rw [← hsst]; exact B8w w w' jb b m a' hm hw'
  have hA1 : ∀ (w' : World) (H : List Res), LW false [] w H w' → (∀ r ∈ W4 jb b m a', r ∈ H) → Fn PR B6 20 #[.pointer (some ⟨jb, 0, none⟩)] w' (fun u w'' => u = r'.ans.val ∧ D6 [] w' w'') := fun w' H hw' hm => by rw [← hans]; exact B7G w w' jb b m a' hm hw'
  simp only [D8, G1, D9, P6, List.cons_append]
  (have zz:=trivial;repeat((first|clear zz|with_reducible first|refine A3 ?_|refine A5 fun _=>?_|refine A4 fun _=>?_);try simp(disch:=first|omega|assumption|((repeat(first|exact A1|exact uH|apply A2|apply uT));first|done|fail)|(simp;first|done|omega|fail))[A46, beq_self_eq_true, Bool.and_true, Bool.not_true]))
  refine D4 m6 (fun w' hw' => hS1 w' _ hw' (fun r hr => by simp [hr])) ?_
  (have zz:=trivial;repeat((first|clear zz|with_reducible first|refine A3 ?_|refine A5 fun _=>?_|refine A4 fun _=>?_);try simp(disch:=first|omega|assumption|((repeat(first|exact A1|exact uH|apply A2|apply uT));first|done|fail)|(simp;first|done|omega|fail))[A46, beq_self_eq_true, Bool.and_true, Bool.not_true]))
  refine D4 l4 (fun w' hw' => hA1 w' _ hw' (fun r hr => by simp [hr])) ?_
  simp only [AnsV.val]
  rw [B9v (by (repeat constructor)) (by rfl)]
  (have zz:=trivial;repeat((first|clear zz|with_reducible first|refine A3 ?_|refine A5 fun _=>?_|refine A4 fun _=>?_);try simp(disch:=first|omega|assumption|((repeat(first|exact A1|exact uH|apply A2|apply uT));first|done|fail)|(simp;first|done|omega|fail))[A46, beq_self_eq_true, Bool.and_true, Bool.not_true, decide_true]))
  refine TW.sub (H' := G1 b2 r' pins' PX' x' ++ W4 jb b m a') ?_ (by simp only [G1, D9, P6, List.cons_append]; exact List.Sublist.cons _ (List.Sublist.cons _ (List.Sublist.refl _)))
  refine TW.perm ?_ List.perm_append_comm
  refine C6N hC2 fun n => ?_
  have hC3 := hC2.cn n
  clear hC2 hS1 hA1 hsst hans
  generalize cjn a' n = a2 at *
  obtain ⟨cj2, d2, P2⟩ := a2
  have hfin := TW.perm (hL (i + 1, nx, (jb, b, b2), (cj2, d2, P2), r', pins', PX', x') ⟨⟨by simp only; omega, hn1, hn2⟩, hC3⟩ (by simp only; omega)) (List.perm_append_comm (l₁ := G1 b2 r' pins' PX' x') (l₂ := W4 jb b m (cj2, d2, P2)))
  have hfn := fun (jb' b' b2' : Nat) (s : CA × RQ) (h : StI w m c.cp.toNat N x.b (i + 1) ((jb', b', b2'), s)) (h2 : nx < ops.length) => hL (i + 1, nx + 1, (jb', b', b2'), s) ⟨⟨by simp only; omega, by simp only; omega, by simp only; omega⟩, h⟩ (by simp only; omega)
  simp only at hfin hfn
  rw [show (((i + 1 : Nat)) : Int) = (i : Int) + 1 from by omega] at hfin hfn
  rw [show (((nx + 1 : Nat)) : Int) = (nx : Int) + 1 from by omega] at hfn
  simp only [G1, D9, P6, List.cons_append] at hfin
  clear hL
  refine TW.perm ?_ (List.perm_append_comm (l₁ := W4 jb b m (cj2, d2, P2)))
  simp only [G1, D9, P6, List.cons_append]
  by_cases c9 : r'.st < 0
  case neg =>
   (have zz:=trivial;repeat((first|clear zz|with_reducible first|refine A3 ?_|refine A5 fun _=>?_|refine A4 fun _=>?_);try simp(disch:=first|omega|assumption|((repeat(first|exact A1|exact uH|apply A2|apply uT));first|done|fail)|(simp;first|done|omega|fail))[c9]))
   exact hfin
  by_cases c10 : nx < ops.length
  case neg =>
   have c10' : ¬ ((nx : Nat) : Int) < (ops.length : Nat) := by omega
   (have zz:=trivial;repeat((first|clear zz|with_reducible first|refine A3 ?_|refine A5 fun _=>?_|refine A4 fun _=>?_);try simp(disch:=first|omega|assumption|((repeat(first|exact A1|exact uH|apply A2|apply uT));first|done|fail)|(simp;first|done|omega|fail))[c9, c10, c10']))
   exact hfin
  have c10' : ((nx : Nat) : Int) < (ops.length : Nat) := by omega
  have c10n : ¬ ops.length ≤ nx := by omega
  obtain ⟨on, hxn⟩ : ∃ o, ops[nx]? = some o := ⟨_, List.getElem?_eq_getElem c10⟩
  have hxnm := List.mem_of_getElem? hxn
  obtain ⟨o3, pa3, pc3, rfl, hpl3, hrd3⟩ := hop _ hxnm
  have gn := horow.partAt (f := w7) (k := 4) (fun _ => rfl) hxn 0 4 (by omega)
  rw [show ((w7 (o3, Value.slice pa3 o3.pool.length pc3)).drop 0).take 4 = w7 (o3, Value.slice pa3 o3.pool.length pc3) from rfl, Nat.add_zero] at gn
  have gn' : f9 w ob (oo + nx * 4) 4 = some (#[.int .i64 o3.kind, .string o3.packet, .slice pa3 o3.pool.length pc3, .int .i64 o3.shard] : Array Value).toList := gn
  have ho3 : (o3.val (.slice pa3 o3.pool.length pc3)) = .agg #[.int .i64 o3.kind, .string o3.packet, .slice pa3 o3.pool.length pc3, .int .i64 o3.shard] := rfl
  have hl12 := C2Q hfo
  (have zz:=trivial;repeat((first|clear zz|with_reducible first|refine A3 ?_|refine A5 fun _=>?_|refine A4 fun _=>?_);try simp(disch:=first|omega|assumption|((repeat(first|exact A1|exact uH|apply A2|apply uT));first|done|fail)|(simp;first|done|omega|fail))[c9, c10, c10', c10n, gn, w7]))
  rw [← ho3]
  refine G7 x5 (fun w' hw' => B72 w' who o3 pa3 o3.pool.length pc3) ?_
  rintro ⟨jb', b'⟩ v rfl
  refine TW.perm ?_ List.perm_append_comm
  simp only [List.cons_append]
  rw [ho3]
  (have zz:=trivial;repeat((first|clear zz|with_reducible first|refine A3 ?_|refine A5 fun _=>?_|refine A4 fun _=>?_);try simp(disch:=first|omega|assumption|((repeat(first|exact A1|exact uH|apply A2|apply uT));first|done|fail)|(simp;first|done|omega|fail))[c9, c10, c10', c10n, gn, w7]))
  rw [← ho3]
  refine G7 A1U (fun w' hw' => B6L w' who o3 pa3 o3.pool.length pc3) ?_
  rintro b2' v rfl
  simp only [List.cons_append, List.nil_append]
  refine j9 3 1 ?_
  (have zz:=trivial;repeat((first|clear zz|with_reducible first|refine A3 ?_|refine A5 fun _=>?_|refine A4 fun _=>?_);try simp(disch:=first|omega|assumption|((repeat(first|exact A1|exact uH|apply A2|apply uT));first|done|fail)|(simp;first|done|omega|fail))[c10, c10']))
  refine TW.perm (H' := .own 3 1 (.slice none 0 0) 0 [] :: D9 b2' (A2T who o3 (.slice pa3 o3.pool.length pc3)) :: ((F7 jb' ((W0 who o3 (.slice pa3 o3.pool.length pc3)).I b') :: p6 b' (W0 who o3 (.slice pa3 o3.pool.length pc3))) ++ (G1 b2 r' pins' PX' x' ++ W4 jb b m (cj2, d2, P2)))) ?_ (List.Perm.cons _ (List.Perm.cons _ ((List.Perm.of_eq ?_).trans (List.perm_append_comm (l₁ := G1 b2 r' pins' PX' x' ++ W4 jb b m (cj2, d2, P2)) (l₂ := F7 jb' ((W0 who o3 (.slice pa3 o3.pool.length pc3)).I b') :: p6 b' (W0 who o3 (.slice pa3 o3.pool.length pc3)))))))
  ·exact C8F rfl (hfn jb' b' b2' ((W0 who o3 (.slice pa3 o3.pool.length pc3), d2, P2), A2T who o3 (.slice pa3 o3.pool.length pc3), [], PX', x') (hC3.job (by omega) hpl3 hrd3) c10)
  ·simp only [G1, D9, P6, List.cons_append, List.append_assoc]
 ·(have zz:=trivial;repeat((first|clear zz|with_reducible first|refine A3 ?_|refine A5 fun _=>?_|refine A4 fun _=>?_);try simp(disch:=first|omega|assumption|((repeat(first|exact A1|exact uH|apply A2|apply uT));first|done|fail)|(simp;first|done|omega|fail))[hlt, hlt', g0, k0, g3, A43, ActV.pv]))
  refine TW.perm ?_ (List.Perm.append_left _ (List.perm_append_comm (l₁ := [D9 b2 r, .own 3 1 r.pins pins.length (C1 pins), C8 PX]) (l₂ := D0 x)))
  refine C6r (N := N) (E := i) (Hk := [D9 b2 r, .own 3 1 r.pins pins.length (C1 pins), C8 PX]) jb b m (cj, d, P) x ac c.cp.toNat hC.c (by omega) hC.g.w hC.x hap (fun w' hk => hacv.ks hk (by simp)) (P5 _) ?_
  intro a' x' e1 e2 e3 e4 e5 e6 e7
  have hC2 := hC.hap (by omega) ac hcs hap hacv e1 e2 e3 e4 e5 e6 e7
  have h2 := hL (i + 1, nx, (jb, b, b2), a', r, pins, PX, x') ⟨⟨by simp only; omega, hn1, hn2⟩, hC2⟩ (by simp only; omega)
  simp only at h2
  rw [show (((i + 1 : Nat)) : Int) = (i : Int) + 1 from by omega] at h2
  refine TW.perm ?_ (List.Perm.append_left (W4 jb b m a') (List.perm_append_comm (l₁ := D0 x') (l₂ := [D9 b2 r, .own 3 1 r.pins pins.length (C1 pins), C8 PX])))
  (have zz:=trivial;repeat((first|clear zz|with_reducible first|refine A3 ?_|refine A5 fun _=>?_|refine A4 fun _=>?_);try simp(disch:=first|omega|assumption|((repeat(first|exact A1|exact uH|apply A2|apply uT));first|done|fail)|(simp;first|done|omega|fail))[]))
  exact h2
end Go.Proofs.YtpnidmkaobfhiaaGreat
