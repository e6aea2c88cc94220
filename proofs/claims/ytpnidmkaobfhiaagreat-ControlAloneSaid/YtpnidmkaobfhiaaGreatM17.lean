/- The proof of a given statement, a part of it (Tab3 LockL LockM CurL JwQ ShL19 ShR15 ShR16 ShR18 ShR12 ShR11 Rf11 ShR02 Rf02 Rf11b Rf12 ShR08 Rf01 Without Rf09 Makes Rf17a Rf03 Rf04 Rf07 Rf08 ShR13 Rf13 RdN DoT Rf17b Rf17c Rf17d Rw18 Rw16 Con6 Con7 Job Hap Hap2 JwG PinL SimL CqL CalL Cq ShR20 Jw1 Jw2 Jw3 Rf19 Rf20 Rf15n Rf20f Rf20g Rf20h Rf20c Rf20d Rf20e Rf20i CqN Same19 CalW ShL20ControlSteps Rf20b Rf20j Sam20 Plx StpI Few19 StpW CalX). No condition but what each lemma says. -/
import Derived.Test.YtpnidmkaobfhiaaGreatM16
set_option linter.unusedVariables false
set_option linter.unusedSimpArgs false
namespace Go.Proofs.YtpnidmkaobfhiaaGreat
open Go
theorem B16 {l : List EnV} {j : Nat} {x : EnV} (h : N8 l) (hx : x.key.size < 2 ^ 60) : N8 (l.set j x) := fun y hy => by
 rcases List.mem_or_eq_of_mem_set hy with h1 | rfl
 ·exact h y h1
 ·exact hx
theorem B8j (n : Nat) : N8 (newE n) := fun x hx => by
 unfold newE at hx
 rw [(List.mem_replicate.1 hx).2]; simp [noE]
theorem C1x {a : List EnV} {x : EnV} (h : N8 a) (hx : x.key.size < 2 ^ 60) : N8 (a8 a x) := by
 unfold a8
 cases hp : M3 a x with
 | none => exact h
 | some u => obtain ⟨j, _, rfl⟩ := B12 hp; exact B16 h hx
theorem C2Y {l : List EnV} (h : N8 l) : N8 (k9 l) := by
 unfold k9
 have : ∀ (L : List (Nat × EnV)) (a : List EnV), (∀ p ∈ L, p.2.key.size < 2 ^ 60) → N8 a → N8 (L.foldl (fun acc p => a8 acc p.2) a) := by
  intro L
  induction L with
  | nil => intro a _ h; exact h
  | cons p L ih => intro a hL ha; rw [List.foldl_cons]; exact ih _ (fun q hq => hL q (List.mem_cons_of_mem _ hq)) (C1x ha (hL p (List.mem_cons_self ..)))
 exact this _ _ (fun p hp => h _ (B49 p hp).1) (B8j _)
theorem B8r {l : List EnV} (h : N8 l) : N8 (P0 l) := by
 unfold P0; split
 ·exact C2Y h
 ·exact h
theorem C5E : W5.key.size < 2 ^ 60 := by simp [W5]
structure TabOk (n : Nat) (l : List EnV) : Prop where
 len : l.length = n
 few : n ≤ 64
 keys : N8 l
 right : U9 l = true
theorem TabOk.new {n : Nat} (h : n ≤ 64) : TabOk n (newE n) := ⟨by rw [A4l]; omega, h, B8j _, B5m _⟩
theorem TabOk.settle {n : Nat} {l : List EnV} (h : TabOk n l) : TabOk n (P0 l) := ⟨by rw [C0S (by rw [h.len]; exact h.few), h.len], h.few, B8r h.keys, B76 h.right⟩
theorem TabOk.tomb {n : Nat} {l : List EnV} {j : Nat} (h : TabOk n l) (hj : j < l.length) : TabOk n (l.set j W5) := ⟨by rw [List.length_set, h.len], h.few, B16 h.keys C5E, C1A hj h.right⟩
theorem TabOk.put {n : Nat} {l u : List EnV} {x : EnV} (h : TabOk n l) (hx : x.key.size < 2 ^ 60) (h1 : x.st = 1) (hp : M3 l x = some u) : TabOk n u :=
 ⟨by rw [A8Y hp, h.len], h.few, by obtain ⟨j, _, rfl⟩ := B12 hp; exact B16 h.keys hx, B5k h1 hp h.right⟩
theorem TabOk.perm {n : Nat} {l : List EnV} (h : TabOk n l) : (D1 (P0 l)).Perm (D1 l) := B44 h.right (by rw [h.len]; exact h.few)
theorem B1g {l : List EnV} {key : ByteArray} (h : 0 ≤ E4 l key) : l[(E4 l key).toNat]? = some (atE l key) ∧ (atE l key).st = 1 ∧ (atE l key).key = key := by
 obtain ⟨x, h1, h2, h3⟩ := B7k (l := l) (key := key) (j := (E4 l key).toNat) (by omega)
 have e : atE l key = x := by unfold atE; rw [List.getD_eq_getElem?_getD, h1]; rfl
 rw [e]; exact ⟨h1, h2, h3⟩
theorem C21 {l u : List EnV} {key : ByteArray} (h : p5 l key = some u) : 0 ≤ E4 l key ∧ (E4 l key).toNat < l.length ∧ u = l.set (E4 l key).toNat W5 ∧ (atE l key :: D1 u).Perm (D1 l) := by
 unfold p5 at h
 split at h
 ·cases h
 ·rename_i c
  injection h with h
  subst h
  have h0 : 0 ≤ E4 l key := by omega
  obtain ⟨h1, h2, h3⟩ := B1g h0
  have hs := A20 (x := W5) h1
  unfold A8w at hs
  rw [if_pos h2, if_neg (by simp [W5])] at hs
  exact ⟨h0, A2f h0, rfl, by simpa using hs⟩
theorem C0q {l u : List EnV} {x : EnV} (h1 : x.st = 1) (hp : M3 l x = some u) : (0 ≤ E4 l x.key ∧ (atE l x.key :: D1 u).Perm (x :: D1 l)) ∨ (E4 l x.key < 0 ∧ (D1 u).Perm (x :: D1 l)) := by
 obtain ⟨j, hj, rfl, hf, hc⟩ := A94 hp h1
 have hj1 : l[j]? = some l[j] := List.getElem?_eq_getElem hj
 have hs := A20 (x := x) hj1
 unfold A8w at hs
 rw [if_pos h1] at hs
 rcases hc with hc | ⟨hc, hr⟩
 ·left
  have h0 : 0 ≤ E4 l x.key := by omega
  obtain ⟨e1, e2, e3⟩ := B1g h0
  have : (E4 l x.key).toNat = j := by omega
  rw [this, hj1] at e1
  injection e1 with e1
  rw [e1, if_pos e2] at hs
  exact ⟨h0, by simpa using hs⟩
 ·right
  refine ⟨hc, ?_⟩
  have hm : ∀ L, S5 L = (j : Nat) → ∃ y, (j, y) ∈ L ∧ y.st ≠ 1 := by
   intro L
   induction L with
   | nil => intro h; simp [S5] at h <;> omega
   | cons p L ih =>
    intro h
    simp only [S5] at h
    split at h
    ·obtain ⟨y, h1, h2⟩ := ih h; exact ⟨y, List.mem_cons_of_mem _ h1, h2⟩
    ·rename_i c2
     have : p.1 = j := by omega
     exact ⟨p.2, by rw [← this]; simp, c2⟩
  obtain ⟨y, h2, h3⟩ := hm _ hr
  have h4 := B2E h2
  rw [hj1] at h4
  injection h4 with h4
  rw [if_neg (by rw [h4]; exact h3)] at hs
  simpa using hs
structure Decided (l u : List EnV) (key : ByteArray) (made : Bool) : Prop where
 up : (D1 u).length ≤ (D1 l).length + 1
 down : (D1 l).length ≤ (D1 u).length + 1
 new : (D1 l).length < (D1 u).length → made = true
 from' : ∀ x ∈ D1 u, x ∈ D1 l ∨ x.key = key
theorem Decided.refl (l : List EnV) (key : ByteArray) (made : Bool) : Decided l l key made := ⟨by omega, by omega, by omega, fun x hx => Or.inl hx⟩
theorem C0l {l : List EnV} {p : List F2} {key : ByteArray} {now : Int} (h : E4 l key < 0) : (V6 l p key now).2 = false := by
 unfold V6; rw [if_pos (Or.inl h)]
theorem A37 {n : Nat} {l : List EnV} {p : List F2} {key : ByteArray} {closing : Bool} {now idle : Int} (h : TabOk n l) (hk : key.size < 2 ^ 60) :
  TabOk n (E6 l p key closing now idle).1 ∧ Decided l (E6 l p key closing now idle).1 key (E6 l p key closing now idle).2.1.made := by
 unfold E6
 split
 ·exact ⟨h, .refl _ _ _⟩
 ·split
  ·unfold A4Z
   cases hd : p5 l key with
   | none => exact ⟨h, .refl _ _ _⟩
   | some u =>
    obtain ⟨h0, hlt, rfl, hp⟩ := C21 hd
    have ht := h.tomb hlt
    have hp2 := (ht.perm.cons (atE l key)).trans hp
    have hl := hp2.length_eq
    simp only [List.length_cons] at hl
    exact ⟨ht.settle, by simp only; omega, by simp only; omega, fun h => by simp only at h; omega, fun x hx => Or.inl (hp2.subset (List.mem_cons_of_mem _ hx))⟩
  ·cases hp : M3 l (B4F l p key now idle) with
   | none => exact ⟨h, .refl _ _ _⟩
   | some u =>
    refine ⟨h.put hk rfl hp, ?_⟩
    rcases C0q (x := B4F l p key now idle) rfl hp with ⟨h0, h1⟩ | ⟨h0, h1⟩
    ·have hl := h1.length_eq
     simp only [List.length_cons] at hl
     exact ⟨by simp only; omega, by simp only; omega, fun h => by simp only at h; omega, fun x hx => by
      rcases List.mem_cons.1 (h1.subset (List.mem_cons_of_mem _ hx)) with rfl | h2
      ·exact Or.inr rfl
      ·exact Or.inl h2⟩
    ·have hl := h1.length_eq
     simp only [List.length_cons] at hl
     exact ⟨by simp only; omega, by simp only; omega, fun h => by simp [C0l (p := p) (now := now) (show E4 l key < 0 from h0)], fun x hx => by
      rcases List.mem_cons.1 (h1.subset hx) with rfl | h2
      ·exact Or.inr rfl
      ·exact Or.inl h2⟩
def A17 (now : Int) (l u : List EnV) (k : Nat) : Prop := ∃ r, (r ++ D1 u).Perm (D1 l) ∧ (∀ x ∈ r, A4p x now = true) ∧ r.length = k
theorem A17.trans {now : Int} {a b c : List EnV} {i j : Nat} (h : A17 now a b i) (h' : A17 now b c j) : A17 now a c (i + j) := by
 obtain ⟨r, h1, h2, h3⟩ := h
 obtain ⟨s, h4, h5, h6⟩ := h'
 refine ⟨r ++ s, ?_, ?_, by rw [List.length_append, h3, h6]⟩
 ·rw [List.append_assoc]; exact (h4.append_left r).trans h1
 ·intro x hx
  rcases List.mem_append.1 hx with hx | hx
  ·exact h2 x hx
  ·exact h5 x hx
theorem C5p {n : Nat} {l : List EnV} {now : Int} {c j : Nat} (h : TabOk n l) (hj : j < l.length) : TabOk n (T3 now (l, c) j).1 ∧ ∃ k, (T3 now (l, c) j).2 = c + k ∧ A17 now l (T3 now (l, c) j).1 k ∧ (∀ i x, (T3 now (l, c) j).1[i]? = some x → A4p x now = true → i ≠ j ∧ l[i]? = some x) := by
 have hj1 : l[j]? = some l[j] := List.getElem?_eq_getElem hj
 have hd : l.getD j noE = l[j] := by rw [List.getD_eq_getElem?_getD, hj1]; rfl
 unfold T3
 simp only [hd]
 by_cases c1 : A4p l[j] now = true
 ·rw [if_pos c1]
  have hst : l[j].st = 1 := by unfold A4p at c1; simp at c1; exact c1.1
  have hs := A20 (x := W5) hj1
  unfold A8w at hs
  rw [if_pos hst, if_neg (by simp [W5])] at hs
  refine ⟨h.tomb hj, 1, rfl, ⟨[l[j]], by simpa using hs, by simpa using c1, rfl⟩, fun i x hx hdx => ?_⟩
  rcases getElem?_set_some hx with ⟨_, rfl⟩ | h2
  ·simp [A4p, W5] at hdx
  ·exact h2
 ·rw [if_neg c1]
  refine ⟨h, 0, rfl, ⟨[], by simp, by simp, rfl⟩, fun i x hx hdx => ⟨fun e => ?_, hx⟩⟩
  subst e
  rw [hj1] at hx
  injection hx with hx
  rw [hx] at c1
  exact c1 hdx
theorem C7n {n : Nat} {now : Int} : ∀ (L : List Nat) (l : List EnV) (c : Nat), TabOk n l → (∀ j ∈ L, j < n) → TabOk n (L.foldl (T3 now) (l, c)).1 ∧ ∃ k, (L.foldl (T3 now) (l, c)).2 = c + k ∧ A17 now l (L.foldl (T3 now) (l, c)).1 k ∧ (∀ i x, (L.foldl (T3 now) (l, c)).1[i]? = some x → A4p x now = true → i ∉ L ∧ l[i]? = some x) := by
 intro L
 induction L with
 | nil => intro l c h _; exact ⟨h, 0, rfl, ⟨[], by simp, by simp, rfl⟩, fun i x hx _ => ⟨by simp, hx⟩⟩
 | cons j L ih =>
  intro l c h hL
  obtain ⟨h1, k, h2, h3, h3'⟩ := C5p (now := now) (c := c) h (by rw [h.len]; exact hL j (List.mem_cons_self ..))
  obtain ⟨h4, k', h5, h6, h6'⟩ := ih (T3 now (l, c) j).1 (T3 now (l, c) j).2 h1 fun q hq => hL q (List.mem_cons_of_mem _ hq)
  rw [List.foldl_cons]
  refine ⟨h4, k + k', by rw [h5, h2]; omega, h3.trans h6, fun i x hx hd => ?_⟩
  obtain ⟨a, b⟩ := h6' i x hx hd
  obtain ⟨c, d⟩ := h3' i x b hd
  exact ⟨by simp [a, c], d⟩
theorem A17.zero {now : Int} {l u : List EnV} (h : (D1 u).Perm (D1 l)) : A17 now l u 0 := ⟨[], h, by simp, rfl⟩
theorem C1u {f n m : Nat} (hm : 0 < m) : ∀ j ∈ P2 f n m, j < m := fun j hj => by
 unfold P2 at hj
 obtain ⟨i, _, rfl⟩ := List.mem_map.1 hj
 exact Nat.mod_lt _ hm
theorem B0Q {n : Nat} {l : List EnV} {f k now : Int} (h : TabOk n l) (hn : 0 < n) : TabOk n (K9 l f k now).1 ∧ A17 now l (K9 l f k now).1 (K9 l f k now).2.2 := by
 obtain ⟨h1, q, h2, h3⟩ : TabOk n (A6q l (V3 l f) (A0w l k) now).1 ∧ ∃ q, (A6q l (V3 l f) (A0w l k) now).2 = q ∧ A17 now l (A6q l (V3 l f) (A0w l k) now).1 q := by
  obtain ⟨h1, q, h2, h3, _⟩ := C7n (now := now) (P2 (V3 l f) (A0w l k) l.length) l 0 h (by rw [← h.len]; exact C1u (by rw [h.len]; exact hn))
  exact ⟨h1, q, by rw [Nat.zero_add] at h2; exact h2, h3⟩
 unfold K9
 simp only
 by_cases c : 0 < (A6q l (V3 l f) (A0w l k) now).2
 ·rw [if_pos c]
  refine ⟨h1.settle, ?_⟩
  have := h3.trans (A17.zero (now := now) h1.perm)
  rw [h2]; simpa using this
 ·rw [if_neg c]
  exact ⟨h1, by rw [h2]; exact h3⟩
structure Inv (c : CfgV) (s : MoS) : Prop where
 cfg : s.c = c
 ok : N1 c = true
 pool : L8 s.pool = 0
 sh : (s.tabs.length : Int) = c.sh
 tab : ∀ t ∈ s.tabs, TabOk c.cp.toNat t.1
 own : ∀ (i : Nat) t, s.tabs[i]? = some t → ∀ x ∈ D1 t.1, M9 x.key c.sh = i
theorem A4C {c : CfgV} (h : N1 c = true) : 1 ≤ c.wk ∧ c.wk ≤ 64 ∧ 1 ≤ c.sh ∧ c.sh ≤ 16 ∧ 1 ≤ c.cp ∧ c.cp ≤ 64 ∧ 0 ≤ c.idle ∧ c.idle ≤ 1000000 := by
 simp [N1, Z8] at h; omega
theorem Inv.new {c : CfgV} (h : N1 c = true) : Inv c ⟨c, [], A19 c⟩ := by
 have hb := A4C h
 refine ⟨rfl, h, rfl, by simp [A19]; omega, fun t ht => ?_, fun i t ht x hx => ?_⟩
 ·rw [A19] at ht
  rw [(List.mem_replicate.1 ht).2]
  exact TabOk.new (by omega)
 ·have ht := List.mem_of_getElem? ht
  rw [A19] at ht
  rw [(List.mem_replicate.1 ht).2, A23] at hx
  cases hx
theorem C22 {key : ByteArray} {n : Int} (h : 1 ≤ n) : M9 key n < n.toNat := by
 unfold M9; rw [if_neg (by omega)]; exact Nat.mod_lt _ (by omega)
theorem Inv.set {c : CfgV} {s : MoS} (h : Inv c s) {i : Nat} {t u : List EnV × Nat} (ht : s.tabs[i]? = some t) (hu : TabOk c.cp.toNat u.1) (hf : ∀ x ∈ D1 u.1, x ∈ D1 t.1 ∨ M9 x.key c.sh = i) : Inv c { s with tabs := s.tabs.set i u } := by
 refine ⟨h.cfg, h.ok, h.pool, by rw [List.length_set]; exact h.sh, fun v hv => ?_, fun j v hv x hx => ?_⟩
 ·rcases List.mem_or_eq_of_mem_set hv with h1 | rfl
  ·exact h.tab v h1
  ·exact hu
 ·rcases getElem?_set_some hv with ⟨rfl, rfl⟩ | ⟨_, h2⟩
  ·rcases hf x hx with h1 | h1
   ·exact h.own j t ht x h1
   ·exact h1
  ·exact h.own j v h2 x hx
theorem Inv.at {c : CfgV} {s : MoS} (h : Inv c s) {i : Nat} (hi : i < c.sh.toNat) : s.tabs[i]? = some (s.tabs.getD i ([], 0)) := getD_some _ (by have := h.sh; omega)
theorem Inv.do' {c : CfgV} {s : MoS} (h : Inv c s) (o : OpV) (now : Int) : Inv c (m7 s o now).1 := by
 have hb := A4C h.ok
 obtain ⟨sc, sp, st⟩ := s
 obtain rfl : sc = c := h.cfg
 unfold m7
 split
 ·unfold A5u
  simp only
  split
  ·exact h
  ·have hi := C22 (key := s6 (C7 o.packet).1) hb.2.2.1
   have hat := h.at hi
   have ht := h.tab _ (List.mem_of_getElem? hat)
   obtain ⟨h1, h2⟩ := A37 (p := sp) (closing := Z3 (C7 o.packet).1 (C7 o.packet).2.1) (now := now) (idle := sc.idle) ht (A5j (C7 o.packet).1)
   exact h.set (u := (_, _)) hat h1 fun x hx => by
    rcases h2.from' x hx with h3 | h3
    ·exact Or.inl h3
    ·exact Or.inr (by rw [h3])
 split
 ·unfold A8k
  split
  ·rename_i hc
   exact ⟨h.cfg, h.ok, hc, h.sh, h.tab, h.own⟩
  ·exact h
 split
 ·unfold A4m
  split
  ·exact h
  ·rename_i hc
   have hat := h.at (i := o.shard.toNat) (by have := h.sh; omega)
   have ht := h.tab _ (List.mem_of_getElem? hat)
   simp only
   obtain ⟨h1, h2⟩ := B0Q (f := (st.getD o.shard.toNat ([], 0)).2) (k := 4) (now := now) ht (by omega)
   refine h.set (u := (_, _)) hat h1 fun x hx => ?_
   obtain ⟨r, h3, _⟩ := h2
   exact Or.inl (h3.subset (List.mem_append_right _ hx))
 split
 ·exact h
 ·exact h
theorem Inv.ok2 {m : MoH} {c : CfgV} (h : Inv c m.st) : MoOk2 m := by
 have hb := A4C h.ok
 have hl : m.st.tabs.length = m.ts.length := by simp [MoH.st]
 have hsh := h.sh
 have hm : ∀ t ∈ m.ts, TabOk c.cp.toNat t.1.2 := fun t ht => h.tab (t.1.2, t.2) (List.mem_map.2 ⟨t, ht, rfl⟩)
 have hc : m.c = c := h.cfg
 have hp := h.pool
 refine ⟨⟨by omega, fun t ht => by rw [(hm t ht).len]; omega, fun t ht => (hm t ht).keys⟩, ?_, by rw [hc]; omega, by omega⟩
 have : m.st.pool = m.pool := rfl
 rw [this] at hp
 unfold L8 at hp
 split at hp
 ·rename_i hc; simp at hc; omega
 ·cases hp
end Go.Proofs.YtpnidmkaobfhiaaGreat
namespace Go.Proofs.YtpnidmkaobfhiaaGreat
open Go
def C08 (t : List EnV) : Prop := (∀ x ∈ t, x = noE) ∧ t.length ≤ 64
def stO (N : Nat) (who : Int) (B : List Int) (k : Nat) : List Int := (List.range N).map fun j => if j < k ∧ k ≤ 2 * N + j then who else B.getD j 0
theorem Q0 (N : Nat) (who : Int) (B : List Int) (k : Nat) : (stO N who B k).length = N := by simp [stO]
theorem u5 {N : Nat} {who : Int} {B : List Int} {k j : Nat} (h : j < N) : (stO N who B k).getD j 0 = if j < k ∧ k ≤ 2 * N + j then who else B.getD j 0 := by
 rw [List.getD_eq_getElem?_getD, List.getElem?_eq_getElem (by rw [Q0]; exact h)]; simp [stO]
theorem A09 {a b : List Int} (hl : a.length = b.length) (h : ∀ j, j < a.length → a.getD j 0 = b.getD j 0) : a = b := by
 apply List.ext_getElem hl
 intro j h1 h2
 have := h j h1
 rwa [List.getD_eq_getElem?_getD, List.getD_eq_getElem?_getD, List.getElem?_eq_getElem h1, List.getElem?_eq_getElem h2] at this
theorem A8G {a : List Int} {i j : Nat} {v : Int} (h : j < a.length) : (a.set i v).getD j 0 = if i = j then v else a.getD j 0 := by
 rw [List.getD_eq_getElem?_getD, List.getD_eq_getElem?_getD, List.getElem?_eq_getElem (by rw [List.length_set]; exact h), List.getElem?_eq_getElem h, List.getElem_set]; split <;> rfl
theorem W2 {l : List Int} {i : Nat} {a b : Int} (h : i < l.length) : A27 l (i : Nat) a b = if l.getD i 0 = a then l.set i b else l := by
 unfold A27
 rw [Int.toNat_natCast]
 by_cases c : l.getD i 0 = a
 ·rw [if_pos ⟨by omega, by omega, c⟩, if_pos c]
 ·rw [if_neg (fun h => c h.2.2), if_neg c]
theorem A4x {l : List Int} {i : Nat} (h : i < l.length) : A0z l (i : Nat) = l.getD i 0 := by unfold A0z; rw [if_pos (by omega), Int.toNat_natCast]
def G6 (N : Nat) : List Int := List.replicate N (-1)
theorem x8 {N j : Nat} (h : j < N) : (G6 N).getD j 0 = -1 := by
 rw [List.getD_eq_getElem?_getD, List.getElem?_eq_getElem (by simp [G6]; exact h)]; simp [G6]
end Go.Proofs.YtpnidmkaobfhiaaGreat
namespace Go.Proofs.YtpnidmkaobfhiaaGreat
open Go
end Go.Proofs.YtpnidmkaobfhiaaGreat
namespace Go.Proofs.YtpnidmkaobfhiaaGreat
open Go
abbrev K6 (x : WS) : Int := D3 x.cells 1
theorem B6s {l : List (Int × Int)} {k : Nat} (hk : k < l.length) (h : l[k] = (0, 0)) : ¬ G4 l < 0 := by
 unfold G4
 have : l.findIdx (fun s => decide (s = (0, 0))) < l.length := List.findIdx_lt_length.2 ⟨_, List.getElem_mem hk, by simp [h]⟩
 rw [if_pos this]; omega
theorem C2e {l : List (Int × Int)} (h : ¬ G4 l < 0) : ∃ k : Nat, ∃ hk : k < l.length, G4 l = (k : Nat) ∧ l[k] = (0, 0) := by
 unfold G4 at *
 by_cases c : l.findIdx (fun s => decide (s = (0, 0))) < l.length
 ·rw [if_pos c]
  refine ⟨_, c, rfl, ?_⟩
  have := List.findIdx_getElem (w := c)
  simpa using this
 ·rw [if_neg c] at h; omega
theorem C3b {l : List (Int × Int)} {k : Nat} (hk : k < l.length) (h : G4 l = (k : Nat)) (h0 : l[k] = (0, 0)) : M1 l = l.set k (1, 0) := by
 unfold M1
 rw [h, if_neg (by omega), Int.toNat_natCast, B9r hk, h0]
theorem A67 {l : List SlV} {k : Nat} (h : k < l.length) : N3 l (k : Nat) = l[k] := by
 unfold N3; rw [if_pos (by omega), Int.toNat_natCast, B9r h]
structure CurI (x : WS) : Prop where
 ok : WsOk x
 kl : x.keep.length = x.sl.length
 two : 2 ≤ x.keep.length
 cur : 0 ≤ K6 x ∧ K6 x ≤ x.keep.length
 at1 : ∀ (k : Nat) (h : k < x.keep.length), (k : Int) + 1 = K6 x → (x.keep[k]).1 = 1 ∧ ∃ p, N3 x.sl (k : Nat) = .rdy p
 at2 : ∀ (k : Nat) (h : k < x.keep.length), (k : Int) + 1 ≠ K6 x → x.keep[k] = (0, 0) ∨ (x.keep[k]).1 = 2
theorem A9l {P : List Int} {l : List (Int × Int)} {k : Nat} (h : k < l.length) : (Y4 P l)[k]'(by rw [S6]; exact h) = if F5 P l[k] then (0, 0) else l[k] := by simp [Y4]
theorem C1l {P : List Int} {l : List (Int × Int)} {s : List SlV} {k : Nat} (h : k < l.length) (h2 : k < s.length) (hl : l.length = s.length) : (u4 P l s)[k]'(by rw [y3 hl]; exact h2) = if F5 P l[k] then .no else s[k] := by simp [u4]
theorem B97 {P : List Int} {s : Int × Int} (h : s.1 ≠ 2) : F5 P s = false := by unfold F5; rw [decide_eq_false h]; rfl
theorem CurI.freed {x : WS} (h : CurI x) : CurI { x with sl := sF x, keep := kF x } ∧ N3 (sF x) (K6 x - 1) = N3 x.sl (K6 x - 1) := by
 have hg : ∀ (k : Nat) (hk : k < x.keep.length), (k : Int) + 1 = K6 x → N3 (sF x) (k : Nat) = N3 x.sl (k : Nat) := fun k hk hc => by
  have h1 := (h.at1 k hk hc).1
  have hs : k < x.sl.length := by rw [← h.kl]; exact hk
  rw [A67 (by rw [y3 h.kl]; exact hs), A67 hs, C1l hk hs h.kl, B97 (by omega)]; rfl
 have hok := h.ok
 refine ⟨⟨⟨hok.wk, hok.cells, hok.own, by simp only; rw [y3 h.kl]; exact hok.sl, by simp only; rw [S6]; exact hok.keep⟩, by simp only; rw [S6, y3 h.kl]; exact h.kl, by simp only; rw [S6]; exact h.two, by simp only; rw [S6]; exact h.cur, fun k hk hc => ?_, fun k hk hc => ?_⟩, ?_⟩
 ·simp only [S6] at hk
  have h1 := h.at1 k hk hc
  simp only
  rw [A9l hk, B97 (by omega)]
  exact ⟨h1.1, by rw [hg k hk hc]; exact h1.2⟩
 ·simp only [S6] at hk
  simp only
  rw [A9l hk]
  cases hr : F5 (pW x) x.keep[k] with
  | true => left; rfl
  | false => simpa using h.at2 k hk hc
 ·by_cases hc : K6 x = 0
  ·rw [hc]; rfl
  ·have h1 := h.cur
   obtain ⟨k, hk⟩ : ∃ k : Nat, K6 x - 1 = k := ⟨(K6 x - 1).toNat, by omega⟩
   rw [hk]
   exact hg k (by omega) (by omega)
theorem C7d {l : List (Int × Int)} {i k : Nat} {s : Int × Int} (hk : k < l.length) : stK (l.set i s) (k : Nat) = if i = k then s.1 else l[k].1 := by
 rw [B7m (by rw [List.length_set]; exact hk), List.getElem_set]; split <;> rfl
theorem CurI.after {x : WS} (h : CurI x) (p : List F2) (ht : ¬ G4 (kF x) < 0) : CurI (H8 x p) ∧ K6 (H8 x p) ≠ K6 x ∧ 1 ≤ K6 (H8 x p) ∧ N3 (H8 x p).sl (K6 (H8 x p) - 1) = .rdy p ∧ stK (H8 x p).keep (K6 (H8 x p) - 1) = 1
  ∧ (0 < K6 x → stK (H8 x p).keep (K6 x - 1) = 2) ∧ N3 (H8 x p).sl (K6 x - 1) = N3 x.sl (K6 x - 1) := by
 obtain ⟨hf, hgf⟩ := h.freed
 obtain ⟨s, hs, hts, hs0⟩ := C2e ht
 have hsl : s < (sF x).length := by have := hf.kl; simp only at this; omega
 have hcur' : K6 (H8 x p) = (s : Int) + 1 := by rw [show K6 (H8 x p) = D3 (H8 x p).cells 1 from rfl, C2J h.ok, hts]
 have hcf : K6 { x with sl := sF x, keep := kF x } = K6 x := rfl
 have hne : (s : Int) + 1 ≠ K6 x := fun hc => by
  have := (hf.at1 s hs (by rw [hcf]; exact hc)).1
  simp only at this
  rw [hs0] at this
  simp at this
 have htk := C3b hs hts hs0
 have hlen : (kF x).length = x.keep.length := S6 _ _
 have hsl' : (H8 x p).sl = (sF x).set s (.rdy p) := by
  show Q3 (sF x) (G4 (kF x)) (.rdy p) = _
  rw [hts, A7e (by omega), Int.toNat_natCast]
 have hkp : (H8 x p).keep = if 0 < K6 x then ((kF x).set s (1, 0)).set (K6 x - 1).toNat (2, epW x) else (kF x).set s (1, 0) := by
  show (if 0 < D3 x.cells 1 then A6W (M1 (kF x)) (D3 x.cells 1 - 1) (epW x) else M1 (kF x)) = _
  rw [htk]
  by_cases hc : 0 < K6 x
  ·rw [if_pos hc, if_pos hc]
   obtain ⟨k, hk⟩ : ∃ k : Nat, K6 x - 1 = k := ⟨(K6 x - 1).toNat, by omega⟩
   have hkl : k < (kF x).length := by have := h.cur; omega
   have h1 := (hf.at1 k hkl (by rw [hcf]; omega)).1
   unfold A6W A2x
   have e3 : stK ((kF x).set s (1, 0)) (k : Nat) = 1 := by rw [C7d hkl, if_neg (by omega)]; exact h1
   rw [show D3 x.cells 1 - 1 = (k : Int) from hk, e3, if_pos ⟨rfl, by omega⟩]
  ·rw [if_neg hc, if_neg hc]
 have hgs : ∀ (k : Nat), k ≠ s → k < (sF x).length → N3 (H8 x p).sl (k : Nat) = N3 (sF x) (k : Nat) := fun k hk hl => by
  rw [hsl', A67 (by rw [List.length_set]; exact hl), A67 hl, List.getElem_set_ne (by omega)]
 have hgs0 : N3 (H8 x p).sl (s : Nat) = .rdy p := by rw [hsl', A67 (by rw [List.length_set]; exact hsl), List.getElem_set_self]
 have hold : N3 (H8 x p).sl (K6 x - 1) = N3 x.sl (K6 x - 1) := by
  rw [← hgf]
  by_cases hc : K6 x = 0
  ·rw [hc]; rfl
  ·have h1 := h.cur
   obtain ⟨k, hk⟩ : ∃ k : Nat, K6 x - 1 = k := ⟨(K6 x - 1).toNat, by omega⟩
   rw [hk]
   exact hgs k (by omega) (by have := hf.kl; simp only at this; omega)
 have hat : ∀ (k : Nat) (hk : k < (kF x).length), ∀ hk', (H8 x p).keep[k]'hk' = if (k : Int) + 1 = K6 x then (2, epW x) else if k = s then (1, 0) else (kF x)[k] := fun k hk hk' => by
  simp only [hkp]
  by_cases hc : 0 < K6 x
  ·simp only [if_pos hc]
   rw [List.getElem_set, List.getElem_set]
   by_cases h1 : (k : Int) + 1 = K6 x
   ·rw [if_pos h1, if_pos (by omega)]
   ·rw [if_neg h1, if_neg (by omega)]
    by_cases h2 : k = s
    ·rw [if_pos h2, if_pos h2.symm]
    ·rw [if_neg h2, if_neg (by omega)]
  ·simp only [if_neg hc]
   rw [List.getElem_set, if_neg (show ¬ (k : Int) + 1 = K6 x by omega)]
   by_cases h2 : k = s
   ·rw [if_pos h2, if_pos h2.symm]
   ·rw [if_neg h2, if_neg (by omega)]
 have hkl' : (H8 x p).keep.length = (kF x).length := by
  rw [hkp]; split <;> simp
 have hsll : (H8 x p).sl.length = (sF x).length := by rw [hsl', List.length_set]
 refine ⟨⟨C4f h.ok h.kl, by rw [hkl', hsll]; exact hf.kl, by rw [hkl']; exact hf.two, by rw [hcur', hkl']; omega, fun k hk hc => ?_, fun k hk hc => ?_⟩, by rw [hcur']; exact hne, by rw [hcur']; omega, ?_, ?_, fun hc => ?_, hold⟩
 ·rw [hcur'] at hc
  obtain rfl : k = s := by omega
  rw [hat k (by rw [hkl'] at hk; exact hk), if_neg hne, if_pos rfl]
  exact ⟨rfl, p, hgs0⟩
 ·rw [hcur'] at hc
  have hk2 : k < (kF x).length := by rw [hkl'] at hk; exact hk
  rw [hat k hk2]
  by_cases h1 : (k : Int) + 1 = K6 x
  ·rw [if_pos h1]; right; rfl
  ·rw [if_neg h1, if_neg (by omega)]
   exact hf.at2 k hk2 (by rw [hcf]; exact h1)
 ·rw [hcur', show (s : Int) + 1 - 1 = (s : Nat) by omega]; exact hgs0
 ·rw [hcur', show (s : Int) + 1 - 1 = (s : Nat) by omega, B7m (by rw [hkl']; exact hs), hat s hs, if_neg hne, if_pos rfl]
 ·have h1 := h.cur
  obtain ⟨k, hk⟩ : ∃ k : Nat, K6 x - 1 = k := ⟨(K6 x - 1).toNat, by omega⟩
  rw [hk, B7m (by rw [hkl', hlen]; omega), hat k (by omega), if_pos (by omega)]
theorem CurI.free {x : WS} (h : CurI x) (hz : ∀ i : Nat, D3 x.cells ((i : Nat) + 2) = 0) : ¬ G4 (kF x) < 0 := by
 have hlen : (kF x).length = x.keep.length := S6 _ _
 have h2 := h.two
 have key : ∀ (k : Nat) (hk : k < x.keep.length), (k : Int) + 1 ≠ K6 x → (kF x)[k]'(by rw [hlen]; exact hk) = (0, 0) := fun k hk hc => by
  rw [A9l hk]
  rcases h.at2 k hk hc with h0 | h0
  ·rw [h0, B3K]; rfl
  ·have : F5 (pW x) x.keep[k] = true := by unfold F5; rw [h0, C0a hz]; rfl
   rw [this]; rfl
 by_cases hc : K6 x = 1
 ·exact B6s (k := 1) (by omega) (key 1 (by omega) (by omega))
 ·exact B6s (k := 0) (by omega) (key 0 (by omega) (by omega))
theorem CurI.new {c : CfgV} (h : N1 c = true) (hw : WsOk (L0 c)) : CurI (L0 c) := by
 simp only [N1, Z8, Bool.and_eq_true, decide_eq_true_eq] at h
 have hcur : K6 (L0 c) = 0 := by
  show D3 (List.replicate _ 0) 1 = 0
  unfold D3; split
  ·rw [List.getD_eq_getElem?_getD, List.getElem?_replicate]; split <;> rfl
  ·rfl
 refine ⟨hw, by simp [L0], by simp only [L0, List.length_replicate]; omega, by rw [hcur]; omega, fun k hk hc => ?_, fun k hk hc => ?_⟩
 ·rw [hcur] at hc; omega
 ·left; simp [L0]
theorem C7e {p : List F2} {x : WS} (hp : L8 p ≠ 0) : T0 200 ⟨.upd (G3 0 p), x, 0, 0, 0⟩ = ⟨.upd { G3 0 p with b := ⟨0, -1, ⟨L8 p, 0, false, 0⟩⟩ }, x, 1, 1, 0⟩ := by
 have hb : S0 (G3 0 p) = L8 p := if_pos rfl
 refine (U2.one (m8 (j := G3 0 p) (x := x) (by simp [G3]))).ends (by omega) ?_ |>.trans ?_
 all_goals
  rw [x9]
  unfold E9
  rw [hb, if_pos ⟨rfl, hp⟩]
  rfl
end Go.Proofs.YtpnidmkaobfhiaaGreat
namespace Go.Proofs.YtpnidmkaobfhiaaGreat
open Go
structure QI (N : Nat) (j : JW) (x : WS) : Prop where
 ok : WsOk x
 n : 1 ≤ N ∧ N ≤ 16
 sh : x.c.sh = (N : Nat)
 tl : x.tabs.length = N
 te : ∀ t ∈ x.tabs, C08 t
 pl : x.places.length = N
 ow : x.own.length = N
 jt : C08 j.table
 sl : ∀ i, N3 x.sl i = .no
 ep : D3 x.cells 0 = 0
 cur : D3 x.cells 1 = 0
 text : j.text.size ≤ 100
 key : j.key.size < 2 ^ 60
 shard : 0 ≤ j.shard ∧ j.shard < N
 slot : -1 ≤ j.slot ∧ j.slot ≤ 0
 st : 0 ≤ j.st ∧ j.st ≤ 10
theorem C14 (l : List EnV) (key : ByteArray) (c : Bool) (now idle : Int) : E6 l [] key c now idle = (l, ⟨11, 0, false, 0⟩, false) := by
 have hk : (V6 l [] key now).2 = false := by
  unfold V6
  have hb : ∀ id, B3U [] id = -1 := fun _ => rfl
  rw [if_pos (Or.inr (Or.inr (by rw [hb]; omega)))]
 unfold E6
 rw [if_pos ⟨hk, rfl⟩]
theorem A1G (l : List Int) (i w : Int) : (Q4 l i w).length = l.length := by unfold Q4 A27; split <;> (try split) <;> simp
theorem r4 (l : List Int) (i w : Int) : (H7 l i w).length = l.length := by unfold H7 A27; split <;> (try split) <;> simp
theorem C7Z (c : CfgV) (who : Int) : G7 c who = -1 ∨ 2 ≤ G7 c who := by unfold G7; split <;> omega
theorem y8 (c : CfgV) (who v : Int) (l : List Int) (k : Int) (hk : k = 0 ∨ k = 1) : D3 (M5 l (G7 c who) v) k = D3 l k := Q6 _ _ (by rcases C7Z c who with h | h <;> omega)
theorem QI.stage {N : Nat} {j : JW} {x : WS} (h : QI N j x) (k : Nat) (hk : k < 10) (hs : j.st = (k : Nat)) : QI N (D7 k { j with st := j.st + 1 } x).1 (D7 k { j with st := j.st + 1 } x).2.1 := by
 obtain ⟨⟨w1, w2, w3, w4, w5⟩, h2, h3, h4, h5, h6, h7, h8, h9, h10, h11, h12, h13, h14, h15, h16⟩ := h
 have hst : 0 ≤ j.st + 1 ∧ j.st + 1 ≤ 10 := by omega
 have hok : WsOk x := ⟨w1, w2, w3, w4, w5⟩
 have hcase : k = 0 ∨ k = 1 ∨ k = 2 ∨ k = 3 ∨ k = 4 ∨ k = 5 ∨ k = 6 ∨ k = 7 ∨ k = 8 ∨ k = 9 := by omega
 rcases hcase with rfl | rfl | rfl | rfl | rfl | rfl | rfl | rfl | rfl | rfl
 ·show QI N (jw0 _ x).1 (jw0 _ x).2.1
  unfold jw0
  by_cases c1 : G7 x.c j.who < 0
  ·rw [if_pos c1]; exact ⟨hok, h2, h3, h4, h5, h6, h7, h8, h9, h10, h11, h12, h13, h14, h15, by simp [JW.refuse]⟩
  ·rw [if_neg c1]
   by_cases c2 : (C7 j.text).2.2 = 0
   ·rw [if_neg (by simpa using c2)]
    refine ⟨hok, h2, h3, h4, h5, h6, h7, h8, h9, h10, h11, h12, A5j _, ?_, h15, hst⟩
    show 0 ≤ ((M9 (s6 (C7 j.text).1) x.c.sh : Nat) : Int) ∧ ((M9 (s6 (C7 j.text).1) x.c.sh : Nat) : Int) < N
    have : M9 (s6 (C7 j.text).1) x.c.sh < N := by
     unfold M9; rw [if_neg (by omega), h3, Int.toNat_natCast]; exact Nat.mod_lt _ (by omega)
    omega
   ·rw [if_pos c2]; exact ⟨hok, h2, h3, h4, h5, h6, h7, h8, h9, h10, h11, h12, h13, h14, h15, by simp [JW.refuse]⟩
 ·exact ⟨⟨w1, by simp only [D7, jw1, c7]; exact w2, w3, w4, w5⟩, h2, h3, h4, h5, h6, h7, h8, h9, by simp only [D7, jw1]; rw [y8 _ _ _ _ _ (Or.inl rfl)]; exact h10, by simp only [D7, jw1]; rw [y8 _ _ _ _ _ (Or.inr rfl)]; exact h11, h12, h13, h14, h15, hst⟩
 ·show QI N (jw2 _ x).1 (jw2 _ x).2.1
  unfold jw2
  by_cases c1 : D3 x.cells 0 = j.ep
  ·rw [if_pos c1]; exact ⟨hok, h2, h3, h4, h5, h6, h7, h8, h9, h10, h11, h12, h13, h14, h15, hst⟩
  ·rw [if_neg c1]; exact ⟨hok, h2, h3, h4, h5, h6, h7, h8, h9, h10, h11, h12, h13, h14, h15, by simp⟩
 ·exact ⟨⟨w1, w2, by simp only [D7, jw3, A1G]; exact w3, w4, w5⟩, h2, h3, h4, h5, h6, by simp only [D7, jw3, A1G]; exact h7, h8, h9, h10, h11, h12, h13, h14, h15, hst⟩
 ·refine ⟨hok, h2, h3, h4, h5, h6, h7, h8, h9, h10, h11, h12, h13, h14, ?_, hst⟩
  show -1 ≤ IntKind.i64.wrap (D3 x.cells 1 - 1) ∧ IntKind.i64.wrap (D3 x.cells 1 - 1) ≤ 0
  rw [h11, T2 (by omega) (by omega)]; omega
 ·refine ⟨hok, h2, h3, h4, h5, h6, h7, ?_, h9, h10, h11, h12, h13, h14, h15, hst⟩
  show C08 (x.tabs.getD j.shard.toNat [])
  rw [List.getD_eq_getElem?_getD, List.getElem?_eq_getElem (by omega)]
  exact h5 _ (List.getElem_mem _)
 ·have hp : B6Y x j.slot = [] := by unfold B6Y; rw [h9]
  refine ⟨hok, h2, h3, h4, h5, h6, h7, ?_, h9, h10, h11, h12, h13, h14, h15, hst⟩
  show C08 (E6 j.table (B6Y x j.slot) j.key j.closing j.now x.c.idle).1
  rw [hp, C14]; exact h8
 ·refine ⟨⟨w1, w2, w3, w4, w5⟩, h2, h3, by simp only [D7, jw7, List.length_set]; exact h4, fun t ht => ?_, h6, h7, h8, h9, h10, h11, h12, h13, h14, h15, hst⟩
  rcases List.mem_or_eq_of_mem_set (show t ∈ x.tabs.set j.shard.toNat j.table from ht) with ht | rfl
  ·exact h5 t ht
  ·exact h8
 ·exact ⟨⟨w1, w2, by simp only [D7, jw8, r4]; exact w3, w4, w5⟩, h2, h3, h4, h5, h6, by simp only [D7, jw8, r4]; exact h7, h8, h9, h10, h11, h12, h13, h14, h15, hst⟩
 ·exact ⟨⟨w1, by simp only [D7, jw9, c7]; exact w2, w3, w4, w5⟩, h2, h3, h4, h5, h6, h7, h8, h9, by simp only [D7, jw9]; rw [y8 _ _ _ _ _ (Or.inl rfl)]; exact h10, by simp only [D7, jw9]; rw [y8 _ _ _ _ _ (Or.inr rfl)]; exact h11, h12, h13, h14, h15, hst⟩
theorem B40 {j : JW} {x : WS} (h : j.ready x = false) : j.step x = (j, x, noT) := by unfold JW.step; rw [h]; rfl
theorem B19 {j : JW} {x : WS} (h : j.ready x = true) : j.step x = D7 j.st.toNat { j with st := j.st + 1 } x := by unfold JW.step; rw [h]; rfl
theorem B2J {j : JW} {x : WS} (h : j.ready x = true) : j.st < 10 := by
 unfold JW.ready at h
 simp only [Bool.and_eq_true, decide_eq_true_eq] at h
 exact h.1
theorem QI.step {N : Nat} {j : JW} {x : WS} (h : QI N j x) : QI N (j.step x).1 (j.step x).2.1 := by
 cases hr : j.ready x with
 | false => rw [B40 hr]; exact h
 | true =>
  have hs := h.st
  have hl := B2J hr
  rw [B19 hr]
  exact h.stage _ (by omega) (by omega)
end Go.Proofs.YtpnidmkaobfhiaaGreat
namespace Go.Proofs.YtpnidmkaobfhiaaGreat
open Go
end Go.Proofs.YtpnidmkaobfhiaaGreat
namespace Go.Proofs.YtpnidmkaobfhiaaGreat
open Go
end Go.Proofs.YtpnidmkaobfhiaaGreat
namespace Go.Proofs.YtpnidmkaobfhiaaGreat
open Go
end Go.Proofs.YtpnidmkaobfhiaaGreat
namespace Go.Proofs.YtpnidmkaobfhiaaGreat
open Go
end Go.Proofs.YtpnidmkaobfhiaaGreat
namespace Go.Proofs.YtpnidmkaobfhiaaGreat
open Go
end Go.Proofs.YtpnidmkaobfhiaaGreat
namespace Go.Proofs.YtpnidmkaobfhiaaGreat
open Go
def A0k (X : Nat → Prop) (t0 t1 : Value) (R : Value → WP) : WP :=
 jn (n := 1) (fun t4 =>
 jn (n := 2) (fun t4_1 t5 =>
 R (.bool true)) fun J1 =>
 lp (n := 2) (fun L2 t4_2 t5_1 =>
 jn (n := 0) (
 jn (n := 1) (fun t4_3 =>
 A0 PR (binOp .add 3 t5_1 (.int .i64 1)) fun t16 =>
 L2 t4_3 t16) fun J3 =>
 drw <|
 A0 PR (Instr.indexAt 55 t0 t5_1) fun t19 =>
 A6 PR (Instr.loadAt 155 t19) fun t20 =>
 A0 PR (Instr.indexAt 55 t1 t5_1) fun t23 =>
 A6 PR (Instr.loadAt 155 t23) fun t24 =>
 A6 PR (H6 .neq 155 (.tmp 20) (.tmp 24) t20 t24) fun t25 =>
 C3 t25 (
 R (.bool false)) (
 J3 t4_2)) fun J4 =>
 A0 PR (A8 .len #[55] 0 [t0]) fun t13 =>
 A0 PR (binOp .lss 3 t5_1 t13) fun t14 =>
 C3 t14 (
 J4) (
 J1 t4_2 t5_1)) t4 (.int .i64 0)) fun J5 =>
 A0 PR (A8 .len #[55] 0 [t0]) fun t7 =>
 A0 PR (A8 .len #[55] 0 [t1]) fun t9 =>
 A0 PR (binOp .neq 3 t7 t9) fun t10 =>
 C3 t10 (
 R (.bool false)) (
 J5 (.bool false))
theorem A5B : A9 PR 27 := A7 Tryz.func27 (by kernel_rfl) rfl
theorem A6E {X : Nat → Prop} {t0 t1 : Value} {R : Value → WP} {w : World} (h : A0k X t0 t1 R w) : Fn PR X 27 #[t0, t1] w R := C4 (args := [t0, t1]) mixed Tryz.func27 (by kernel_rfl) h
end Go.Proofs.YtpnidmkaobfhiaaGreat
namespace Go.Proofs.YtpnidmkaobfhiaaGreat
open Go
end Go.Proofs.YtpnidmkaobfhiaaGreat
namespace Go.Proofs.YtpnidmkaobfhiaaGreat
open Go
end Go.Proofs.YtpnidmkaobfhiaaGreat
namespace Go.Proofs.YtpnidmkaobfhiaaGreat
open Go
end Go.Proofs.YtpnidmkaobfhiaaGreat
namespace Go.Proofs.YtpnidmkaobfhiaaGreat
open Go
theorem C3K (w : World) (u v : Value) (l m : List EnV) (hn : l.length ≤ 1000000) (hm : m.length ≤ 1000000) (hu : E2 w u l.length (l.flatMap F1)) (hv : E2 w v m.length (m.flatMap F1)) :
  Fn PR B6 27 #[u, v] w (fun r w' => r = .bool (decide (l = m)) ∧ C6 [] w w') := by
 refine Fn.pure (A6E (TW.go (κ := false) (S := []) ?_))
 unfold A0k
 obtain ⟨a, c, rfl, hr⟩ := hu.form
 obtain ⟨a', c', rfl, hr'⟩ := hv.form
 by_cases hlen : l.length = m.length
 case neg =>
  have hne : ¬ l = m := fun h => hlen (by rw [h])
  have hl' : ¬ ((l.length : Nat) : Int) = m.length := by omega
  (have zz:=trivial;repeat((first|clear zz|with_reducible first|refine A3 ?_|refine A5 fun _=>?_|refine A4 fun _=>?_);try simp(disch:=first|omega|assumption|((repeat(first|exact A1|exact uH|apply A2|apply uT));first|done|fail)|(simp;first|done|omega|fail))[hl', hlen]))
  exact B0 (by simp [hne])
 (have zz:=trivial;repeat((first|clear zz|with_reducible first|refine A3 ?_|refine A5 fun _=>?_|refine A4 fun _=>?_);try simp(disch:=first|omega|assumption|((repeat(first|exact A1|exact uH|apply A2|apply uT));first|done|fail)|(simp;first|done|omega|fail))[hlen]))
 refine w7 (α := Unit) m.length (fun _ _ => .bool false) (fun _ _ => []) (fun i _ => ∀ j, j < i → l[j]? = m[j]?) () (by intro j hj; omega) ?_
 rintro i _ hi hpre L hL
 by_cases hlt : i < m.length
 ·obtain ⟨b, o, rfl, hrow⟩ := hr (by omega)
  obtain ⟨b', o', rfl, hrow'⟩ := hr' (by omega)
  obtain ⟨x, hx⟩ : ∃ x, l[i]? = some x := ⟨_, List.getElem?_eq_getElem (by omega)⟩
  obtain ⟨y, hy⟩ : ∃ y, m[i]? = some y := ⟨_, List.getElem?_eq_getElem hlt⟩
  have h1 := hrow.at (f := F1) (k := 4) (fun _ => rfl) hx
  have h2 := hrow'.at (f := F1) (k := 4) (fun _ => rfl) hy
  rw [F1] at h1 h2
  by_cases he : x = y
  ·subst he
   (have zz:=trivial;repeat((first|clear zz|with_reducible first|refine A3 ?_|refine A5 fun _=>?_|refine A4 fun _=>?_);try simp(disch:=first|omega|assumption|((repeat(first|exact A1|exact uH|apply A2|apply uT));first|done|fail)|(simp;first|done|omega|fail))[hlt, hlen, h1, h2]))
   refine Sels.tw .nil (hL hlt () ?_)
   intro j hj
   by_cases hji : j = i
   ·subst hji; rw [hx, hy]
   ·exact hpre j (by omega)
  ·have hne : ¬ l = m := fun h => he (by rw [h] at hx; rw [hx] at hy; exact Option.some.inj hy)
   have he' : ¬ (x.st = y.st ∧ x.key = y.key ∧ x.bk = y.bk ∧ x.dl = y.dl) := fun h => he (by cases x; cases y; simpa using h)
   (have zz:=trivial;repeat((first|clear zz|with_reducible first|refine A3 ?_|refine A5 fun _=>?_|refine A4 fun _=>?_);try simp(disch:=first|omega|assumption|((repeat(first|exact A1|exact uH|apply A2|apply uT));first|done|fail)|(simp;first|done|omega|fail))[hlt, hlen, h1, h2]))
   refine B7B (fun _ => B0 (by simp [hne])) fun hc => absurd ?_ he'
   refine ⟨Classical.byContradiction fun h => hc (Or.inl h), Classical.byContradiction fun h => hc (Or.inr (Or.inl h)), Classical.byContradiction fun h => hc (Or.inr (Or.inr (Or.inl h))), Classical.byContradiction fun h => hc (Or.inr (Or.inr (Or.inr h)))⟩
 ·obtain rfl : i = m.length := by omega
  have : l = m := C8d hlen fun j hj => hpre j (by omega)
  (have zz:=trivial;repeat((first|clear zz|with_reducible first|refine A3 ?_|refine A5 fun _=>?_|refine A4 fun _=>?_);try simp(disch:=first|omega|assumption|((repeat(first|exact A1|exact uH|apply A2|apply uT));first|done|fail)|(simp;first|done|omega|fail))[hlen]))
  exact B0 (by rw [decide_eq_true this])
end Go.Proofs.YtpnidmkaobfhiaaGreat
namespace Go.Proofs.YtpnidmkaobfhiaaGreat
open Go
end Go.Proofs.YtpnidmkaobfhiaaGreat
namespace Go.Proofs.YtpnidmkaobfhiaaGreat
open Go
end Go.Proofs.YtpnidmkaobfhiaaGreat
namespace Go.Proofs.YtpnidmkaobfhiaaGreat
open Go
end Go.Proofs.YtpnidmkaobfhiaaGreat
namespace Go.Proofs.YtpnidmkaobfhiaaGreat
open Go
section
variable {κ : Bool} {X : Nat → Prop} {S : List Nat} {w0 : World} {H H' Hk : List Res} {K : Value → WP} {K0 : WP}
end
end Go.Proofs.YtpnidmkaobfhiaaGreat
namespace Go.Proofs.YtpnidmkaobfhiaaGreat
open Go
theorem P4.mono {κ : Bool} {S : List Nat} {w0 : World} {H H' : List Res} {v : Value} {n : Nat} {xs : List Value} (h : P4 κ S w0 H v n xs) (hs : H.Sublist H') : P4 κ S w0 H' v n xs := fun w hw => h w (hw.sub hs)
def RdC (w : World) (v : Value) (l : List (Nat × Int)) : Prop := E2 w v l.length (l.flatMap J0) ∧ ∃ a c, v = .slice a l.length c ∧ l.length ≤ c
theorem RdC.ks {w w' : World} {v : Value} {l : List (Nat × Int)} (h : RdC w v l) (hk : KS false [] w w') : RdC w' v l := ⟨h.1.ks hk (by simp), h.2⟩
end Go.Proofs.YtpnidmkaobfhiaaGreat
namespace Go.Proofs.YtpnidmkaobfhiaaGreat
open Go
end Go.Proofs.YtpnidmkaobfhiaaGreat
namespace Go.Proofs.YtpnidmkaobfhiaaGreat
open Go
end Go.Proofs.YtpnidmkaobfhiaaGreat
namespace Go.Proofs.YtpnidmkaobfhiaaGreat
open Go
end Go.Proofs.YtpnidmkaobfhiaaGreat
namespace Go.Proofs.YtpnidmkaobfhiaaGreat
open Go
end Go.Proofs.YtpnidmkaobfhiaaGreat
namespace Go.Proofs.YtpnidmkaobfhiaaGreat
open Go
end Go.Proofs.YtpnidmkaobfhiaaGreat
namespace Go.Proofs.YtpnidmkaobfhiaaGreat
open Go
end Go.Proofs.YtpnidmkaobfhiaaGreat
namespace Go.Proofs.YtpnidmkaobfhiaaGreat
open Go
end Go.Proofs.YtpnidmkaobfhiaaGreat
namespace Go.Proofs.YtpnidmkaobfhiaaGreat
open Go
theorem P4.slice {κ : Bool} {S : List Nat} {w0 : World} {H : List Res} {v : Value} {n : Nat} {xs : List Value} {K0 : WP} (h : P4 κ S w0 H v n xs) (hK : ∀ a c, v = .slice a n c → TW κ S w0 H K0) : TW κ S w0 H K0 := fun w hw => by
 obtain ⟨a, c, e, _⟩ := (h w hw).form
 exact hK a c e w hw
end Go.Proofs.YtpnidmkaobfhiaaGreat
namespace Go.Proofs.YtpnidmkaobfhiaaGreat
open Go
theorem C4e {w : World} {v : Value} {n : Nat} {xs : List Value} (h : E2 w v n xs) (hn : 0 < n → 0 < xs.length) : 0 < n → ∀ g ∈ N9 v, g < sz w := fun h0 g hg => by
 obtain ⟨a, c, rfl, hr⟩ := h.form
 obtain ⟨b, o, rfl, hrow⟩ := hr h0
 simp only [N9, List.mem_cons, List.not_mem_nil, or_false] at hg
 subst hg
 have h1 := hrow 0 (hn h0)
 rw [List.getElem?_eq_getElem (hn h0)] at h1
 obtain ⟨c', t', z', h1, h2⟩ := n5 h1
 exact K7 h1
structure RdN (bad : List Nat) (w : World) (v : Value) (n : Nat) (xs : List Value) : Prop where
 rd : E2 w v n xs
 off : 0 < n → ∀ g ∈ N9 v, g ∉ bad
 nil : n = 0 → xs = []
theorem RdN.ks {κ : Bool} {S bad : List Nat} {w w' : World} {v : Value} {n : Nat} {xs : List Value} (h : RdN bad w v n xs) (hk : KS κ S w w') (hs : ∀ s ∈ S, s ∈ bad) : RdN bad w' v n xs :=
 ⟨h.rd.ks0 h.nil hk fun h0 g hg hgS => h.off h0 g hg (hs g hgS), h.off, h.nil⟩
theorem RdN.sub {bad bad' : List Nat} {w : World} {v : Value} {n : Nat} {xs : List Value} (h : RdN bad w v n xs) (hs : ∀ s ∈ bad', s ∈ bad) : RdN bad' w v n xs := ⟨h.rd, fun h0 g hg hb => h.off h0 g hg (hs g hb), h.nil⟩
theorem RdN.open {bad : List Nat} {w : World} {v : Value} {n : Nat} {xs : List Value} (h : RdN bad w v n xs) : ∃ a c, v = .slice a n c ∧ (0 < n → ∃ b o, a = some ⟨b, o, none⟩ ∧ N6 w b o xs ∧ b ∉ bad) := by
 obtain ⟨a, c, e, hr⟩ := h.rd.form
 refine ⟨a, c, e, fun h0 => ?_⟩
 obtain ⟨b, o, ea, hrow⟩ := hr h0
 refine ⟨b, o, ea, hrow, h.off h0 b ?_⟩
 rw [e, ea]; simp [N9]
end Go.Proofs.YtpnidmkaobfhiaaGreat
namespace Go.Proofs.YtpnidmkaobfhiaaGreat
open Go
section
variable {κ : Bool} {S : List Nat} {w0 w : World} {H Hk : List Res} {K : Value → WP}
theorem B2c {A B : List Res} : Part A (A ++ B) B := by
 induction A with
 | nil => exact Part.nil
 | cons r A ih => exact Part.cons Sel.here ih
theorem Part.skip {x : Res} {Hc : List Res} (h : Part Hc H Hk) : Part Hc (x :: H) (x :: Hk) := by
 induction h with
 | nil => exact Part.nil
 | cons h1 _ ih => exact Part.cons (Sel.there h1) ih
theorem C9H (s : MoS) (o : OpV) (now : Int) (h : o.kind = 1) : m7 s o now = A8k s o.pool := by unfold m7; rw [if_neg (by omega), if_pos h]
theorem C8N (s : MoS) (o : OpV) (now : Int) (h : o.kind = 2) : m7 s o now = A4m s o.shard now := by unfold m7; rw [if_neg (by omega), if_neg (by omega), if_pos h]
theorem C6v (s : MoS) (o : OpV) (now : Int) (h : o.kind = 3) : m7 s o now = B02 s := by unfold m7; rw [if_neg (by omega), if_neg (by omega), if_neg (by omega), if_pos h]
theorem C6e (s : MoS) (o : OpV) (now : Int) (h : o.kind < 0 ∨ 3 < o.kind) : m7 s o now = (s, ⟨1, 0, false, 0⟩) := by unfold m7; rw [if_neg (by omega), if_neg (by omega), if_neg (by omega), if_neg (by omega)]
theorem C0L {m : MoH} {v : Value} {p : List F2} (hw : LW κ [] w0 (D4 m ++ Hk) w) (h : E2 w0 v p.length (p.flatMap E8)) (hl : p.length ≤ 1000) : PoolAt w m v p := by
 refine ⟨h.ks hw.ks (by simp), fun h0 g hg hf => ?_, hl, by obtain ⟨a, c, e, _⟩ := h.form; rw [e]; exact ⟨rfl, rfl⟩⟩
 have h1 := C4e h (by rw [K3 (k := 2) fun _ => rfl]; omega) h0 g hg
 obtain ⟨s, hs, hbs⟩ := G8.1 hf
 rcases (hw.own s (List.mem_append_left _ hs) g hbs).1 with h2 | h2
 ·cases h2
 ·omega
theorem D30 {m : MoH} {o : OpV} {v : Value} {now : Int} {c : CfgV} (r : MoS × AnsV) (hi : Inv c m.st) (hp : Part (D4 m) H Hk) (hpa : ∀ w, LW false S w0 (D4 m ++ Hk) w → PoolAt w m v o.pool) (hpk : o.packet.size < 2 ^ 40) (hr : m7 m.st o now = r)
  (hK : ∀ m' : MoH, m'.b = m.b → m'.st = r.1 → Inv c m'.st → TW false S w0 (D4 m' ++ Hk) (K r.2.val)) : TW false S w0 H (B7 PR B6 24 [.pointer (some ⟨m.b, 0, none⟩), o.val v, .int .i64 now] K) := by
 subst hr
 refine D0 (Hc := D4 m) B0b (fun w' hw hs => D0c w' m o v now (hpa w' hw) hpk hi.ok2 hs) hp ?_
 rintro m' _ ⟨rfl, hb, hst⟩
 exact hK m' hb hst (by rw [hst]; exact hi.do' o now)
theorem Inv.tabs {c : CfgV} {m : MoH} (hi : Inv c m.st) : ∀ t ∈ m.ts, TabOk c.cp.toNat t.1.2 := fun t ht => hi.tab (t.1.2, t.2) (List.mem_map.2 ⟨t, ht, rfl⟩)
theorem C6Z {m : MoH} : E5 (m.ts.map (·.1)) ∈ D4 m := by simp [D4]
theorem C89 (hw : LW κ S w0 H w) {m : MoH} (hm : ∀ r ∈ D4 m, r ∈ H) : ∀ t ∈ m.ts, E2 w t.1.1 t.1.2.length (t.1.2.flatMap F1) := fun t ht =>
 p9 hw (hm _ C6Z) (List.mem_map.2 ⟨t, ht, rfl⟩)
theorem C6M {m : MoH} : Res.pt m.b (.cells #[.int .i64 m.c.wk, .int .i64 m.c.sh, .int .i64 m.c.cp, .int .i64 m.c.idle, .int .i64 m.c.sl, m.pv, m.sv] 130) ∈ D4 m := A1
theorem C9s (hw : LW κ S w0 H w) {m : MoH} (hm : ∀ r ∈ D4 m, r ∈ H) : w.cell? ⟨m.b, 5, none⟩ = some m.pv := hw.cell (hm _ C6M) rfl
theorem D0Q (hw : LW κ S w0 H w) {m : MoH} (hm : ∀ r ∈ D4 m, r ∈ H) : w.cell? ⟨m.b, 6, none⟩ = some m.sv := hw.cell (hm _ C6M) rfl
theorem C97 (hw : LW κ S w0 H w) {m : MoH} (hm : ∀ r ∈ D4 m, r ∈ H) : E2 w m.pv m.pool.length (m.pool.flatMap E8) := S8.rd (hw.hold _ (hm _ (A2 A1)))
theorem C9p (hw : LW κ S w0 H w) {m : MoH} (hm : ∀ r ∈ D4 m, r ∈ H) : E2 w m.sv m.ts.length (m.ts.flatMap H5) := S8.rd (hw.hold _ (hm _ (A2 (A2 A1))))
theorem C7b {m : MoH} {i : Int} {c : CfgV} (hi : Inv c m.st) (hp : Part (D4 m) H Hk) (hK : ∀ r, TW false S w0 (G5 r (A3S m.ts i) :: (D4 m ++ Hk)) (K r)) : TW false S w0 H (B7 PR B6 28 [.pointer (some ⟨m.b, 0, none⟩), .int .i64 i] K) := by
 have hb := A4C hi.ok
 have hsh := hi.sh
 have hl : m.st.tabs.length = m.ts.length := by simp [MoH.st]
 refine TW.perm ?_ hp.perm
 refine H9 A69 (fun w' hw' => C18 w' m.b m.sv m.ts i (by omega) (D0Q hw' fun r hr => List.mem_append_left _ hr) (C9p hw' fun r hr => List.mem_append_left _ hr) (C89 hw' fun r hr => List.mem_append_left _ hr)
  fun t ht => by rw [(hi.tabs t ht).len]; omega) ?_
 intro r v hv
 subst hv
 exact hK _
theorem C8z {m : MoH} {c : CfgV} (hi : Inv c m.st) (hp : Part (D4 m) H Hk) (hK : ∀ r, TW false S w0 (.own 83 2 r m.pool.length (m.pool.flatMap E8) :: (D4 m ++ Hk)) (K r)) : TW false S w0 H (B7 PR B6 30 [.pointer (some ⟨m.b, 0, none⟩)] K) := by
 refine TW.perm ?_ hp.perm
 refine H9 A8z (fun w' hw' => C5Y w' m.b m.pv m.pool (by have := hi.ok2.pool; omega) (C9s hw' fun r hr => List.mem_append_left _ hr) (C97 hw' fun r hr => List.mem_append_left _ hr)) ?_
 intro r v hv
 subst hv
 exact hK _
theorem C51 {c : CfgV} (h0 : N1 c = false → TW false S w0 H (K (.tuple #[.pointer none, .int .i64 1])))
  (h1 : ∀ m : MoH, N1 c = true → m.st = ⟨c, [], A19 c⟩ → Inv c m.st → TW false S w0 (D4 m ++ H) (K (.tuple #[.pointer (some ⟨m.b, 0, none⟩), .int .i64 0]))) : TW false S w0 H (B7 PR B6 22 [c.val] K) := by
 refine H9 B6M (fun w' _ => C7k w' c) ?_
 rintro m u hm
 cases hc : N1 c with
 | false =>
  simp only [hc, Bool.false_eq_true, if_false] at hm ⊢
  subst hm
  exact h0 hc
 | true =>
  simp only [hc, if_true] at hm ⊢
  obtain ⟨rfl, hmc, hmp, hmt⟩ := hm
  have e : m.st = ⟨c, [], A19 c⟩ := by unfold MoH.st; rw [hmc, hmp, hmt]
  exact h1 m hc e (by rw [e]; exact Inv.new hc)
end
end Go.Proofs.YtpnidmkaobfhiaaGreat
namespace Go.Proofs.YtpnidmkaobfhiaaGreat
open Go
def C6D (s : ByteArray) (n : Int) : Value :=
 if (C7 s).2.2 ≠ 0 then .agg #[.string Z1, .int .i64 0, .bool false, .int .i64 9]
 else .agg #[.string (s6 (C7 s).1), .int .i64 (M9 (s6 (C7 s).1) n : Nat), .bool (Z3 (C7 s).1 (C7 s).2.1), .int .i64 0]
structure RmH where
 pv : Value
 tv : Value
 lv : Value
 c : CfgV
 pool : List F2
 ts : List (Value × List EnV)
 pl : List Nat
def RmH.cs (r : RmH) : Array Value := #[.int .i64 r.c.wk, .int .i64 r.c.sh, .int .i64 r.c.cp, .int .i64 r.c.idle, .int .i64 r.c.sl, r.pv, r.tv, r.lv]
end Go.Proofs.YtpnidmkaobfhiaaGreat
namespace Go.Proofs.YtpnidmkaobfhiaaGreat
open Go
def RmH.val (r : RmH) : Value := .agg r.cs
def RmH.st (r : RmH) : MoS := ⟨r.c, r.pool, (r.ts.map (·.2)).zip r.pl⟩
section
variable (w : World) (r : RmH) (o : OpV) (v : Value) (now : Int)
end
end Go.Proofs.YtpnidmkaobfhiaaGreat
namespace Go.Proofs.YtpnidmkaobfhiaaGreat
open Go
end Go.Proofs.YtpnidmkaobfhiaaGreat
namespace Go.Proofs.YtpnidmkaobfhiaaGreat
open Go
abbrev Y9 := SlV × Option Addr × Nat × Nat
def rsP (x : Y9) : Value := .slice x.2.1 x.2.2.1 x.2.2.2
def rsC (x : Y9) : List Value := match x.1 with
 | .no => [.int .i64 0, .slice none 0 0]
 | .bld => [.int .i64 1, .slice none 0 0]
 | .rdy _ => [.int .i64 2, rsP x]
theorem A7Q (x : Y9) : (rsC x).length = 2 := by unfold rsC; split <;> rfl
def noR : Y9 := (.no, none, 0, 0)
structure XH where
 b : Nat
 piv : Value
 lov : Value
 slv : Value
 kev : Value
 tav : Value
 plv : Value
 c : CfgV
 ep : Int
 cur : Int
 pins : List Int
 locks : List Int
 sl : List Y9
 keep : List (Int × Int)
 ts : List (Value × List EnV)
 pl : List Nat
 now : Int
end Go.Proofs.YtpnidmkaobfhiaaGreat
namespace Go.Proofs.YtpnidmkaobfhiaaGreat
open Go
abbrev rsV (l : List Y9) : List SlV := l.map (·.1)
def isI (n : Nat) (i : Int) : Bool := decide (0 ≤ i) && decide (i < n)
def A4B (l : List Y9) (i : Int) (x : Y9) : List Y9 := if 0 ≤ i ∧ i < l.length then l.set i.toNat x else l
theorem B0m (l : List Y9) (i : Int) (x : Y9) : (A4B l i x).length = l.length := by unfold A4B; split <;> simp
theorem Y9.cell {w : World} {a : Option Addr} {c : Nat} {l : List Y9} (hv : E2 w (.slice a l.length c) l.length (l.flatMap rsC)) {i : Nat} (hi : i < l.length) : ∃ b o, a = some ⟨b, o, none⟩ ∧ w.cell? ⟨b, o + i * 2, none⟩ = (rsC l[i])[0]? ∧ w.cell? ⟨b, o + i * 2 + 1, none⟩ = (rsC l[i])[1]? := by
 rcases hv with ⟨h0, _⟩ | ⟨b, o, c', e, hr⟩
 ·omega
 cases e
 have h0 := Q8 A7Q l i 0 (by omega)
 have h1 := Q8 A7Q l i 1 (by omega)
 rw [List.getElem?_eq_getElem hi] at h0 h1
 have hc := A7Q l[i]
 simp only [Option.bind_some] at h0 h1
 refine ⟨b, o, rfl, ?_, ?_⟩
 ·obtain ⟨v, hv⟩ : ∃ v, (rsC l[i])[0]? = some v := ⟨_, List.getElem?_eq_getElem (show _ < (rsC l[i]).length by rw [A7Q]; omega)⟩
  rw [hv] at h0 ⊢
  exact hr.get h0
 ·obtain ⟨v, hv⟩ : ∃ v, (rsC l[i])[1]? = some v := ⟨_, List.getElem?_eq_getElem (show _ < (rsC l[i]).length by rw [A7Q]; omega)⟩
  rw [hv] at h1 ⊢
  have := hr.get h1
  rwa [← Nat.add_assoc] at this
def A7T (l : List Y9) (i : Int) : List Y9 := A4B l i (.bld, none, 0, 0)
def B8f (l : List Y9) (i : Int) : List Y9 := A4B l i noR
def C8Z (l : List Y9) (i : Int) : Bool := match N3 (rsV l) i with | .bld => true | _ => false
def flR (l : List Y9) (i : Int) (p : List F2) : Bool := C8Z l i && decide (L8 p = 0)
def A5P (l : List Y9) (i : Int) (p : List F2) (x : Option Addr × Nat × Nat) : List Y9 := if flR l i p then A4B l i (.rdy p, x) else l
end Go.Proofs.YtpnidmkaobfhiaaGreat
namespace Go.Proofs.YtpnidmkaobfhiaaGreat
open Go
def r8 (b : Nat) (j : JE) (tv : Value) : Res := .pt b (.cells (D5 j.b [.int .i64 j.shard, .int .i64 (j.place : Nat), tv]) 101)
abbrev V0 := List (Value × List EnV)
structure WoX where
 cn : Int
 own : List Int
 tv : Value
 pv : Value
 ts : V0
 pl : List Nat
def WoH.ux (m : WoH) (d : WoX) : WoH := { m with cn := d.cn, own := d.own, tv := d.tv, pv := d.pv, ts := d.ts, pl := d.pl }
def WoH.dx (m : WoH) : WoX := ⟨m.cn, m.own, m.tv, m.pv, m.ts, m.pl⟩
def A07 (a b : V0) : Prop := ∀ t ∈ a, t ∈ b
theorem A07.left {a b : V0} (h : A07 a b) (c : V0) : A07 a (b ++ c) := fun t ht => List.mem_append_left _ (h t ht)
def B1E (a b : V0) (t : List EnV) : Prop := A07 a b ∧ ∀ x ∈ b, x ∈ a ∨ x.2 = t
theorem B1E.same (a : V0) (t : List EnV) : B1E a a t := ⟨fun x hx => hx, fun x hx => Or.inl hx⟩
theorem B1E.push (a : V0) (v : Value) (t : List EnV) : B1E a (a ++ [(v, t)]) t := ⟨fun x hx => List.mem_append_left _ hx, fun x hx => by
 rcases List.mem_append.1 hx with hx | hx
 ·exact Or.inl hx
 ·rw [List.mem_singleton.1 hx]; exact Or.inr rfl⟩
structure TabsOk (m : WoH) (P : V0) : Prop where
 few : m.ts.length ≤ 1000
 pl : m.pl.length = m.ts.length
 len : ∀ t ∈ m.ts, t.2.length ≤ 1000000
 keys : ∀ t ∈ m.ts, N8 t.2
 own : m.own.length ≤ 1024
 pool : A07 m.ts P
theorem C7H {l : List Nat} {i : Nat} (h : i < l.length) : (A0V l)[i]? = some (.int .i64 (l.getD i 0 : Nat)) := by
 unfold A0V; rw [List.getElem?_map, List.getElem?_eq_getElem h, List.getD_eq_getElem?_getD, List.getElem?_eq_getElem h]; rfl
theorem B7Y {α : Type} {f : α → Value} (l : List α) (i : Nat) (x : α) (h : i < l.length) : W0 (l.map f) i [f x] = (l.set i x).map f := by rw [B7S (by simpa using h), List.map_set]
theorem B5n {κ : Bool} {S : List Nat} {w0 : World} {H : List Res} {K0 : WP} {P : V0} {v : Value} {l : List EnV} (hm : E5 P ∈ H) (ht : (v, l) ∈ P) (h : ∀ a c, v = .slice a l.length c → TW κ S w0 H K0) : TW κ S w0 H K0 := fun w hw => by
 obtain ⟨a, c, e⟩ := S8.form ((hw.hold _ hm : A7z P w) _ ht)
 exact h a c e w hw
set_option maxHeartbeats 2000000 in
theorem C4k (w : World) (b : Nat) (j : JE) (tv : Value) (m : WoH) (P : V0) (hx : TabsOk m P) (hst : 0 ≤ j.b.st ∧ j.b.st ≤ 500) (ht : (tv, j.table) ∈ P)
  (hw : LW false (B2 (r8 b j tv :: E5 P :: C9 m)) w (r8 b j tv :: E5 P :: C9 m) w) :
  Fn PR B6 247 #[.pointer (some ⟨b, 0, none⟩), .pointer (some ⟨m.b, 0, none⟩)] w (Rn (B2 (r8 b j tv :: E5 P :: C9 m)) w (fun (y : Value × WoX × V0) u => u = L9 (L5 j m.ws).2.2 ∧ (m.ux y.2.1).ws = (L5 j m.ws).2.1 ∧ A07 y.2.1.ts y.2.2 ∧ (y.1, (L5 j m.ws).1.table) ∈ y.2.2 ∧ B1E P y.2.2 (L5 j m.ws).1.table) fun y => r8 b (L5 j m.ws).1 y.1 :: E5 y.2.2 :: C9 (m.ux y.2.1)) := by
 refine A6D (TW.goH (κ := false) ?_ hw)
 unfold A0a
 obtain ⟨h1, h2, h3, h4, h5, h6⟩ := hx
 have htl : m.ws.tabs.length = m.ts.length := by simp [WoH.ws]
 generalize hS : B2 (r8 b j tv :: E5 P :: C9 m) = S at *
 by_cases c1 : l8 m.ws j.shard = false
 ·have e : L5 j m.ws = ({ j with b := j.b.refuse 1 }, m.ws, true, true, false) := if_pos c1
  rw [e]
  simp only [C9, r8, D5, H3, M8, WoH.ux]
  have c1' : j.shard < 0 ∨ (m.ts.length : Int) ≤ j.shard := by
   unfold l8 at c1; rw [htl] at c1
   simp only [Bool.and_eq_false_iff, decide_eq_false_iff_not] at c1
   omega
  refine T4 (e := 55) (k := 1) (v := m.tv) (q := m.ts.length) (xs := m.ts.map (·.1)) (by (repeat constructor)) fun ta tc hta => ?_
  rw [hta]
  rcases c1' with c1 | c1
  ·(have zz:=trivial;repeat((first|clear zz|with_reducible first|refine A3 ?_|refine A5 fun _=>?_|refine A4 fun _=>?_);try simp(disch:=first|omega|assumption|((repeat(first|exact A1|exact uH|apply A2|apply uT));first|done|fail)|(simp;first|done|omega|fail))[c1]))
   refine D0 (Hc := [.pt b (.cells (D5 j.b [.int .i64 j.shard, .int .i64 (j.place : Nat), tv]) 101)]) Q5 (fun w' _ hs => A2K w' b _ j.b _ 1 hs) (by unfold D5; (repeat' constructor)) ?_
   rintro _ v rfl
   simp only [List.cons_append, List.nil_append, L9, D5]
   (have zz:=trivial;repeat((first|clear zz|with_reducible first|refine A3 ?_|refine A5 fun _=>?_|refine A4 fun _=>?_);try simp(disch:=first|omega|assumption|((repeat(first|exact A1|exact uH|apply A2|apply uT));first|done|fail)|(simp;first|done|omega|fail))[]))
   refine B1 (tv, m.dx, P) ⟨rfl, rfl, h6, ht, .same _ _⟩ ?_
   simp only [WoH.dx, hta]
   (repeat' constructor)
  ·have c2 : ¬ j.shard < 0 := by omega
   have c3 : ¬ j.shard < (m.ts.length : Nat) := by omega
   (have zz:=trivial;repeat((first|clear zz|with_reducible first|refine A3 ?_|refine A5 fun _=>?_|refine A4 fun _=>?_);try simp(disch:=first|omega|assumption|((repeat(first|exact A1|exact uH|apply A2|apply uT));first|done|fail)|(simp;first|done|omega|fail))[c1, c2, c3]))
   refine D0 (Hc := [.pt b (.cells (D5 j.b [.int .i64 j.shard, .int .i64 (j.place : Nat), tv]) 101)]) Q5 (fun w' _ hs => A2K w' b _ j.b _ 1 hs) (by unfold D5; (repeat' constructor)) ?_
   rintro _ v rfl
   simp only [List.cons_append, List.nil_append, L9, D5]
   (have zz:=trivial;repeat((first|clear zz|with_reducible first|refine A3 ?_|refine A5 fun _=>?_|refine A4 fun _=>?_);try simp(disch:=first|omega|assumption|((repeat(first|exact A1|exact uH|apply A2|apply uT));first|done|fail)|(simp;first|done|omega|fail))[]))
   refine B1 (tv, m.dx, P) ⟨rfl, rfl, h6, ht, .same _ _⟩ ?_
   simp only [WoH.dx, hta]
   (repeat' constructor)
 have c1t : l8 m.ws j.shard = true := by simpa using c1
 have c2 : 0 ≤ j.shard ∧ j.shard < m.ts.length := by unfold l8 at c1t; rw [htl] at c1t; simpa using c1t
 obtain ⟨i, hi⟩ : ∃ i : Nat, j.shard = i := ⟨j.shard.toNat, by omega⟩
 have hlt : i < m.ts.length := by omega
 have hlp : i < m.pl.length := by omega
 have n1 : ¬ ((i : Nat) : Int) < 0 := by omega
 have n2 : ¬ (m.ts.length : Int) ≤ (i : Nat) := by omega
 have n3 : ¬ m.ts.length ≤ i := by omega
 obtain ⟨⟨tv0, tl⟩, hx0⟩ : ∃ x, m.ts[i]? = some x := ⟨_, List.getElem?_eq_getElem hlt⟩
 have hxm := List.mem_of_getElem? hx0
 have g0 : (m.ts.map (·.1))[i]? = some tv0 := by rw [List.getElem?_map, hx0]; rfl
 have gp := C7H hlp
 have gg : m.ts[i]'hlt = (tv0, tl) := (List.getElem?_eq_some_iff.1 hx0).2
 have hti : A0W m.ws j.shard = tl := by simp [A0W, WoH.ws, hi, List.getD_eq_getElem?_getD, hx0]
 have hpi : A3G m.ws j.shard = m.pl.getD i 0 := by simp [A3G, WoH.ws, hi]
 obtain ⟨pn, hpn⟩ : ∃ z, z = m.pl.getD i 0 := ⟨_, rfl⟩
 rw [← hpn] at gp hpi
 have gpp := (List.getElem?_eq_some_iff.1 gp).2
 have hnow : m.ws.now = m.now := rfl
 unfold L5
 rw [if_neg c1, hti, hpi, hnow]
 by_cases d0 : j.b.st = 0
 ·simp only [if_pos d0]
  simp only [C9, r8, D5, H3, M8, WoH.ux, JE.up, hi]
  refine T4 (e := 55) (k := 1) (v := m.tv) (q := m.ts.length) (xs := m.ts.map (·.1)) (by (repeat constructor)) fun ta tc hta => ?_
  rw [hta]
  (have zz:=trivial;repeat((first|clear zz|with_reducible first|refine A3 ?_|refine A5 fun _=>?_|refine A4 fun _=>?_);try simp(disch:=first|omega|assumption|((repeat(first|exact A1|exact uH|apply A2|apply uT));first|done|fail)|(simp;first|done|omega|fail))[d0, hlt, n1, n2, n3]))
  refine D0 (Hc := D2 m.bc m.cn m.cv m.ov m.cells m.own) A2G (fun w' _ hs => B7F w' m.bc m.cn m.cv m.ov m.cells m.own (i : Nat) j.b.who h5 hs) (by unfold D2; (repeat' constructor)) ?_
  rintro n' v ⟨r, rfl⟩
  simp only [D2, List.cons_append, List.nil_append]
  (have zz:=trivial;repeat((first|clear zz|with_reducible first|refine A3 ?_|refine A5 fun _=>?_|refine A4 fun _=>?_);try simp(disch:=first|omega|assumption|((repeat(first|exact A1|exact uH|apply A2|apply uT));first|done|fail)|(simp;first|done|omega|fail))[]))
  refine B1 (tv, { m.dx with cn := n', own := Q4 m.own (i : Nat) j.b.who, tv := .slice ta m.ts.length tc }, P) ⟨rfl, by simp only [WoH.ws, WoH.dx], h6, ht, .same _ _⟩ ?_
  simp only [WoH.dx, d0]
  (repeat' constructor)
 simp only [if_neg d0]
 by_cases d1 : j.b.st = 1
 ·simp only [if_pos d1]
  simp only [C9, r8, D5, H3, M8, WoH.ux, JE.up, hi]
  refine l2 (e := 55) (k := 1) (v := m.tv) (q := m.ts.length) (xs := m.ts.map (·.1)) (by (repeat constructor)) (by omega) fun tg tc hta => ?_
  refine l2 (e := 3) (k := 1) (v := m.pv) (q := m.pl.length) (xs := A0V m.pl) (by (repeat constructor)) (by omega) fun pg pc hpa => ?_
  rw [hta, hpa]
  (have zz:=trivial;repeat((first|clear zz|with_reducible first|refine A3 ?_|refine A5 fun _=>?_|refine A4 fun _=>?_);try simp(disch:=first|omega|assumption|((repeat(first|exact A1|exact uH|apply A2|apply uT));first|done|fail)|(simp;first|done|omega|fail))[d0, d1, hlt, hlp, n1, n2, n3, g0, gp, gg, gpp]))
  refine H9 A7N (fun w' hw' => B9v w' tv0 tl pn 4 m.now (h4 _ hxm) (h3 _ hxm) (p9 (t := (tv0, tl)) hw' (ts := P) (by (repeat constructor)) (h6 _ hxm))) ?_
  rintro r _ rfl
  refine q6 (e := 155) (k := 4) (v := r) (q := (K9 tl pn 4 m.now).1.length) (xs := (K9 tl pn 4 m.now).1.flatMap F1) (by (repeat constructor)) fun hr1 hr2 hr3 => ?_
  have hr4 : r.cells.toList = [r] := by rw [hr1]
  (have zz:=trivial;repeat((first|clear zz|with_reducible first|refine A3 ?_|refine A5 fun _=>?_|refine A4 fun _=>?_);try simp(disch:=first|omega|assumption|((repeat(first|exact A1|exact uH|apply A2|apply uT));first|done|fail)|(simp;first|done|omega|fail))[hr1, hr2, hr3, hr4]))
  refine A5z (r := r) (l := (K9 tl pn 4 m.now).1) (ts := P) (by (repeat' constructor)) ?_
  refine B1 (r, { m.dx with tv := .slice (some ⟨tg, 0, none⟩) m.ts.length tc, pv := .slice (some ⟨pg, 0, none⟩) m.pl.length pc }, P ++ [(r, (K9 tl pn 4 m.now).1)]) ⟨rfl, by simp only [WoH.ws, WoH.dx], h6.left _, List.mem_append_right _ (List.mem_singleton.2 rfl), .push _ _ _⟩ ?_
  simp only [WoH.dx, d1]
  (repeat' constructor)
 simp only [if_neg d1]
 by_cases d2 : j.b.st = 2
 ·simp only [if_pos d2]
  simp only [C9, r8, D5, H3, M8, WoH.ux, JE.up, hi]
  refine l2 (e := 55) (k := 1) (v := m.tv) (q := m.ts.length) (xs := m.ts.map (·.1)) (by (repeat constructor)) (by omega) fun tg tc hta => ?_
  refine l2 (e := 3) (k := 1) (v := m.pv) (q := m.pl.length) (xs := A0V m.pl) (by (repeat constructor)) (by omega) fun pg pc hpa => ?_
  rw [hta, hpa]
  refine B5n (P := P) (l := j.table) (by (repeat constructor)) ht fun xa xc hxa => ?_
  subst hxa
  (have zz:=trivial;repeat((first|clear zz|with_reducible first|refine A3 ?_|refine A5 fun _=>?_|refine A4 fun _=>?_);try simp(disch:=first|omega|assumption|((repeat(first|exact A1|exact uH|apply A2|apply uT));first|done|fail)|(simp;first|done|omega|fail))[d0, d1, d2, hlt, hlp, n1, n2, n3, g0, gp, gg, gpp]))
  refine Q7 (by (repeat constructor)) (by simp) (by simp; omega) (by simp) ?_
  have e1 : W0 (m.ts.map (·.1)) i (Value.slice xa j.table.length xc).cells.toList = (m.ts.set i (.slice xa j.table.length xc, j.table)).map (·.1) := B7Y (f := (·.1)) m.ts i (.slice xa j.table.length xc, j.table) hlt
  rw [e1]
  (have zz:=trivial;repeat((first|clear zz|with_reducible first|refine A3 ?_|refine A5 fun _=>?_|refine A4 fun _=>?_);try simp(disch:=first|omega|assumption|((repeat(first|exact A1|exact uH|apply A2|apply uT));first|done|fail)|(simp;first|done|omega|fail))[hlp]))
  refine Q7 (by (repeat constructor)) (by simp) (by simp; omega) (by simp) ?_
  have e2 : W0 (A0V m.pl) i (Value.int .i64 (j.place : Nat)).cells.toList = A0V (m.pl.set i j.place) := B7Y (f := fun n : Nat => Value.int .i64 (n : Int)) m.pl i j.place hlp
  rw [e2]
  (have zz:=trivial;repeat((first|clear zz|with_reducible first|refine A3 ?_|refine A5 fun _=>?_|refine A4 fun _=>?_);try simp(disch:=first|omega|assumption|((repeat(first|exact A1|exact uH|apply A2|apply uT));first|done|fail)|(simp;first|done|omega|fail))[]))
  refine B1 (.slice xa j.table.length xc, { m.dx with tv := .slice (some ⟨tg, 0, none⟩) m.ts.length tc, pv := .slice (some ⟨pg, 0, none⟩) m.pl.length pc, ts := m.ts.set i (.slice xa j.table.length xc, j.table), pl := m.pl.set i j.place }, P) ⟨rfl, by simp only [WoH.ws, WoH.dx, List.map_set, Int.toNat_natCast], fun t ht' => ?_, ht, .same _ _⟩ ?_
  ·rcases List.mem_or_eq_of_mem_set ht' with ht' | rfl
   ·exact h6 t ht'
   ·exact ht
  simp only [WoH.dx, List.length_set, List.map_set, d2]
  (repeat' constructor)
 simp only [if_neg d2]
 simp only [C9, r8, D5, H3, M8, WoH.ux, JE.up, hi]
 refine T4 (e := 55) (k := 1) (v := m.tv) (q := m.ts.length) (xs := m.ts.map (·.1)) (by (repeat constructor)) fun ta tc hta => ?_
 rw [hta]
 (have zz:=trivial;repeat((first|clear zz|with_reducible first|refine A3 ?_|refine A5 fun _=>?_|refine A4 fun _=>?_);try simp(disch:=first|omega|assumption|((repeat(first|exact A1|exact uH|apply A2|apply uT));first|done|fail)|(simp;first|done|omega|fail))[d0, d1, d2, hlt, n1, n2, n3]))
 refine D0 (Hc := D2 m.bc m.cn m.cv m.ov m.cells m.own) j3 (fun w' _ hs => A8K w' m.bc m.cn m.cv m.ov m.cells m.own (i : Nat) j.b.who h5 hs) (by unfold D2; (repeat' constructor)) ?_
 rintro n' v ⟨r, rfl⟩
 simp only [D2, List.cons_append, List.nil_append]
 (have zz:=trivial;repeat((first|clear zz|with_reducible first|refine A3 ?_|refine A5 fun _=>?_|refine A4 fun _=>?_);try simp(disch:=first|omega|assumption|((repeat(first|exact A1|exact uH|apply A2|apply uT));first|done|fail)|(simp;first|done|omega|fail))[]))
 refine D0 (Hc := [.pt b (.cells (D5 { j.b with st := j.b.st + 1 } [.int .i64 (i : Nat), .int .i64 (j.place : Nat), tv]) 101)]) U6 (fun w' _ hs => A4D w' b _ { j.b with st := j.b.st + 1 } _ hs) (by unfold D5; (repeat' constructor)) ?_
 rintro _ v rfl
 simp only [List.cons_append, List.nil_append, L9, D5]
 (have zz:=trivial;repeat((first|clear zz|with_reducible first|refine A3 ?_|refine A5 fun _=>?_|refine A4 fun _=>?_);try simp(disch:=first|omega|assumption|((repeat(first|exact A1|exact uH|apply A2|apply uT));first|done|fail)|(simp;first|done|omega|fail))[]))
 refine B1 (tv, { m.dx with cn := n', own := H7 m.own (i : Nat) j.b.who, tv := .slice ta m.ts.length tc }, P) ⟨rfl, by simp only [WoH.ws, WoH.dx], h6, ht, .same _ _⟩ ?_
 simp only [WoH.dx]
 (repeat' constructor)
end Go.Proofs.YtpnidmkaobfhiaaGreat
namespace Go.Proofs.YtpnidmkaobfhiaaGreat
open Go
def A1q (b : Nat) (j : JB) : Res := .pt b (.cells (D5 j []) 104)
set_option maxHeartbeats 2000000 in
theorem C5b (w : World) (b : Nat) (j : JB) (m : WoH) (P : V0) (hx : TabsOk m P) (h0 : 1 ≤ m.ts.length) (hst : 0 ≤ j.st ∧ j.st ≤ 5000)
  (hw : LW false (B2 (A1q b j :: E5 P :: C9 m)) w (A1q b j :: E5 P :: C9 m) w) :
  Fn PR B6 250 #[.pointer (some ⟨b, 0, none⟩), .pointer (some ⟨m.b, 0, none⟩)] w (Rn (B2 (A1q b j :: E5 P :: C9 m)) w (fun (d : WoX) u => u = L9 (S3 j m.ws).2.2 ∧ (m.ux d).ws = (S3 j m.ws).2.1 ∧ d.ts = m.ts) fun d => A1q b (S3 j m.ws).1 :: E5 P :: C9 (m.ux d)) := by
 refine A7q (TW.goH (κ := false) ?_ hw)
 unfold A1F
 obtain ⟨h1, h2, h3, h4, h5, h6⟩ := hx
 have htl : m.ws.tabs.length = m.ts.length := by simp [WoH.ws]
 generalize hS : B2 (A1q b j :: E5 P :: C9 m) = S at *
 obtain ⟨k, hk⟩ : ∃ k : Nat, j.st = k := ⟨j.st.toNat, by omega⟩
 have dv : j.st.tdiv (m.ts.length : Nat) = ((k / m.ts.length : Nat) : Int) := by rw [hk]; rfl
 have md : j.st.tmod (m.ts.length : Nat) = ((k % m.ts.length : Nat) : Int) := by rw [hk]; rfl
 have em : j.st % (m.ts.length : Nat) = ((k % m.ts.length : Nat) : Int) := by rw [hk]; rfl
 have hlt : k % m.ts.length < m.ts.length := Nat.mod_lt _ (by omega)
 have nz : ¬ ((m.ts.length : Nat) : Int) = 0 := by omega
 have q0 : k / m.ts.length = 0 ↔ k < m.ts.length := by rw [Nat.div_eq_zero_iff]; omega
 have q1 : k / m.ts.length = 1 ↔ (m.ts.length ≤ k ∧ k < 2 * m.ts.length) := by
  rw [Nat.div_eq_iff (by omega)]; omega
 have hqb : k / m.ts.length ≤ 5000 := Nat.le_trans (Nat.div_le_self _ _) (by omega)
 unfold S3
 simp only [htl, em]
 generalize k % m.ts.length = i at *
 generalize k / m.ts.length = q at *
 have wq : IntKind.i64.wrap ((q : Nat) : Int) = ((q : Nat) : Int) := T2 (by omega) (by omega)
 simp only [C9, A1q, D5, H3, M8, WoH.ux]
 by_cases d0 : j.st < (m.ts.length : Nat)
 ·simp only [if_pos d0]
  have e0 : q = 0 := q0.2 (by omega)
  subst e0
  refine T4 (e := 55) (k := 1) (v := m.tv) (q := m.ts.length) (xs := m.ts.map (·.1)) (by (repeat constructor)) fun ta tc hta => ?_
  rw [hta]
  (have zz:=trivial;repeat((first|clear zz|with_reducible first|refine A3 ?_|refine A5 fun _=>?_|refine A4 fun _=>?_);try simp(disch:=first|omega|assumption|((repeat(first|exact A1|exact uH|apply A2|apply uT));first|done|fail)|(simp;first|done|omega|fail))[B6W, y4, dv, md, wq, nz]))
  refine D0 (Hc := D2 m.bc m.cn m.cv m.ov m.cells m.own) A2G (fun w' _ hs => B7F w' m.bc m.cn m.cv m.ov m.cells m.own (i : Nat) j.who h5 hs) (by unfold D2; (repeat' constructor)) ?_
  rintro n' v ⟨r, rfl⟩
  simp only [D2, List.cons_append, List.nil_append]
  (have zz:=trivial;repeat((first|clear zz|with_reducible first|refine A3 ?_|refine A5 fun _=>?_|refine A4 fun _=>?_);try simp(disch:=first|omega|assumption|((repeat(first|exact A1|exact uH|apply A2|apply uT));first|done|fail)|(simp;first|done|omega|fail))[dv, md, wq]))
  refine B1 { m.dx with cn := n', own := Q4 m.own (i : Nat) j.who, tv := .slice ta m.ts.length tc } ⟨rfl, by simp only [WoH.ws, WoH.dx], rfl⟩ ?_
  simp only [WoH.dx]
  (repeat' constructor)
 simp only [if_neg d0]
 have n0 : ¬ q = 0 := fun h => by have := q0.1 h; omega
 by_cases d1 : j.st < 2 * (m.ts.length : Nat)
 ·simp only [if_pos d1]
  have e1 : q = 1 := q1.2 (by omega)
  subst e1
  obtain ⟨⟨tv0, tl⟩, hx0⟩ : ∃ x, m.ts[i]? = some x := ⟨_, List.getElem?_eq_getElem hlt⟩
  have hxm := List.mem_of_getElem? hx0
  have g0 : (m.ts.map (·.1))[i]? = some tv0 := by rw [List.getElem?_map, hx0]; rfl
  have gg : m.ts[i]'hlt = (tv0, tl) := (List.getElem?_eq_some_iff.1 hx0).2
  have hti : A0W m.ws (i : Nat) = tl := by simp [A0W, WoH.ws, List.getD_eq_getElem?_getD, hx0]
  rw [hti]
  refine l2 (e := 55) (k := 1) (v := m.tv) (q := m.ts.length) (xs := m.ts.map (·.1)) (by (repeat constructor)) (by omega) fun tg tc hta => ?_
  rw [hta]
  (have zz:=trivial;repeat((first|clear zz|with_reducible first|refine A3 ?_|refine A5 fun _=>?_|refine A4 fun _=>?_);try simp(disch:=first|omega|assumption|((repeat(first|exact A1|exact uH|apply A2|apply uT));first|done|fail)|(simp;first|done|omega|fail))[B6W, y4, dv, md, wq, nz, hlt, g0, gg]))
  refine C8 s7 (fun w' hw' => A8B w' tv0 tl 1 (h3 _ hxm) (p9 (t := (tv0, tl)) hw' (ts := P) (by (repeat constructor)) (h6 _ hxm))) ?_
  (have zz:=trivial;repeat((first|clear zz|with_reducible first|refine A3 ?_|refine A5 fun _=>?_|refine A4 fun _=>?_);try simp(disch:=first|omega|assumption|((repeat(first|exact A1|exact uH|apply A2|apply uT));first|done|fail)|(simp;first|done|omega|fail))[dv, md, wq]))
  refine B1 { m.dx with tv := .slice (some ⟨tg, 0, none⟩) m.ts.length tc } ⟨rfl, by simp only [WoH.ws, WoH.dx], rfl⟩ ?_
  simp only [WoH.dx]
  (repeat' constructor)
 simp only [if_neg d1]
 have n1 : ¬ q = 1 := fun h => by have := q1.1 h; omega
 have n0' : ¬ ((q : Nat) : Int) = 0 := by omega
 have n1' : ¬ ((q : Nat) : Int) = 1 := by omega
 by_cases d2 : ((i : Nat) : Int) = (m.ts.length : Nat) - 1
 ·simp only [if_pos d2]
  refine T4 (e := 55) (k := 1) (v := m.tv) (q := m.ts.length) (xs := m.ts.map (·.1)) (by (repeat constructor)) fun ta tc hta => ?_
  rw [hta]
  (have zz:=trivial;repeat((first|clear zz|with_reducible first|refine A3 ?_|refine A5 fun _=>?_|refine A4 fun _=>?_);try simp(disch:=first|omega|assumption|((repeat(first|exact A1|exact uH|apply A2|apply uT));first|done|fail)|(simp;first|done|omega|fail))[B6W, y4, dv, md, wq, nz, n0, n1, n0', n1']))
  refine D0 (Hc := D2 m.bc m.cn m.cv m.ov m.cells m.own) j3 (fun w' _ hs => A8K w' m.bc m.cn m.cv m.ov m.cells m.own (i : Nat) j.who h5 hs) (by unfold D2; (repeat' constructor)) ?_
  rintro n' v ⟨r, rfl⟩
  simp only [D2, List.cons_append, List.nil_append]
  (have zz:=trivial;repeat((first|clear zz|with_reducible first|refine A3 ?_|refine A5 fun _=>?_|refine A4 fun _=>?_);try simp(disch:=first|omega|assumption|((repeat(first|exact A1|exact uH|apply A2|apply uT));first|done|fail)|(simp;first|done|omega|fail))[d2, dv, md, wq]))
  refine D0 (Hc := [.pt b (.cells (D5 { j with st := j.st + 1 } []) 104)]) U6 (fun w' _ hs => A4D w' b _ { j with st := j.st + 1 } _ hs) (by unfold D5; (repeat' constructor)) ?_
  rintro _ v rfl
  simp only [List.cons_append, List.nil_append, L9, D5]
  (have zz:=trivial;repeat((first|clear zz|with_reducible first|refine A3 ?_|refine A5 fun _=>?_|refine A4 fun _=>?_);try simp(disch:=first|omega|assumption|((repeat(first|exact A1|exact uH|apply A2|apply uT));first|done|fail)|(simp;first|done|omega|fail))[dv, md, wq]))
  refine B1 { m.dx with cn := n', own := H7 m.own (i : Nat) j.who, tv := .slice ta m.ts.length tc } ⟨rfl, by simp only [WoH.ws, WoH.dx, d2], rfl⟩ ?_
  simp only [WoH.dx, d2]
  (repeat' constructor)
 ·simp only [if_neg d2]
  refine T4 (e := 55) (k := 1) (v := m.tv) (q := m.ts.length) (xs := m.ts.map (·.1)) (by (repeat constructor)) fun ta tc hta => ?_
  rw [hta]
  (have zz:=trivial;repeat((first|clear zz|with_reducible first|refine A3 ?_|refine A5 fun _=>?_|refine A4 fun _=>?_);try simp(disch:=first|omega|assumption|((repeat(first|exact A1|exact uH|apply A2|apply uT));first|done|fail)|(simp;first|done|omega|fail))[B6W, y4, dv, md, wq, nz, n0, n1, n0', n1']))
  refine D0 (Hc := D2 m.bc m.cn m.cv m.ov m.cells m.own) j3 (fun w' _ hs => A8K w' m.bc m.cn m.cv m.ov m.cells m.own (i : Nat) j.who h5 hs) (by unfold D2; (repeat' constructor)) ?_
  rintro n' v ⟨r, rfl⟩
  simp only [D2, List.cons_append, List.nil_append]
  (have zz:=trivial;repeat((first|clear zz|with_reducible first|refine A3 ?_|refine A5 fun _=>?_|refine A4 fun _=>?_);try simp(disch:=first|omega|assumption|((repeat(first|exact A1|exact uH|apply A2|apply uT));first|done|fail)|(simp;first|done|omega|fail))[d2, dv, md, wq]))
  refine B1 { m.dx with cn := n', own := H7 m.own (i : Nat) j.who, tv := .slice ta m.ts.length tc } ⟨rfl, by simp only [WoH.ws, WoH.dx], rfl⟩ ?_
  simp only [WoH.dx]
  (repeat' constructor)
end Go.Proofs.YtpnidmkaobfhiaaGreat
namespace Go.Proofs.YtpnidmkaobfhiaaGreat
open Go
theorem Fn.frame {f : FuncId} {args : Array Value} {w : World} {α : Type} {φ : α → Value → Prop} {Hn : α → List Res} {Hc Hk : List Res} (h : Fn PR B6 f args w (Rn (B2 Hc) w φ Hn)) (hw : LW false (B2 (Hc ++ Hk)) w (Hc ++ Hk) w) :
  Fn PR B6 f args w (Rn (B2 (Hc ++ Hk)) w φ fun a => Hn a ++ Hk) := h.mono fun v w' ⟨a, h1, h2⟩ => ⟨a, h1, hw.part h2⟩
theorem B9s (w : World) (m : WoH) (i : Int) (hb : bl w m.b = some (.cells (M8 m.c (.pointer (some ⟨m.bc, 0, none⟩)) (.pointer (some ⟨m.bs, 0, none⟩)) (.pointer (some ⟨m.bk, 0, none⟩)) m.tv m.pv (.int .i64 m.now)) 74 (0, 0)))
  (hc : bl w m.bc = some (.cells #[.int .i64 m.cn, m.cv, m.ov] 147 (0, 0))) (hv : E2 w m.ov m.own.length (G2 m.own)) :
  Fn PR B6 249 #[.pointer (some ⟨m.b, 0, none⟩), .int .i64 i] w (fun u w' => u = .bool (decide (A0z m.own i < 0)) ∧ C6 [] w w') := by
 refine Fn.pure (B3q (TW.go (κ := false) (S := []) ?_))
 unfold A6A
 have h5 : w.cell? ⟨m.b, 5, none⟩ = some (.pointer (some ⟨m.bc, 0, none⟩)) := by rw [D8 hb]; rfl
 (have zz:=trivial;repeat((first|clear zz|with_reducible first|refine A3 ?_|refine A5 fun _=>?_|refine A4 fun _=>?_);try simp(disch:=first|omega|assumption|((repeat(first|exact A1|exact uH|apply A2|apply uT));first|done|fail)|(simp;first|done|omega|fail))[h5]))
 refine C8 A1E (fun w' hw' => B5b w' m.bc m.cn m.cv m.ov m.own i (hw'.ks.2.1 _ _ (by simp) rfl hc) (hv.ks hw'.ks (by simp))) ?_
 (have zz:=trivial;repeat((first|clear zz|with_reducible first|refine A3 ?_|refine A5 fun _=>?_|refine A4 fun _=>?_);try simp(disch:=first|omega|assumption|((repeat(first|exact A1|exact uH|apply A2|apply uT));first|done|fail)|(simp;first|done|omega|fail))[]))
 exact B0 rfl
structure WoAt (w : World) (m : WoH) : Prop where
 b : bl w m.b = some (.cells (M8 m.c (.pointer (some ⟨m.bc, 0, none⟩)) (.pointer (some ⟨m.bs, 0, none⟩)) (.pointer (some ⟨m.bk, 0, none⟩)) m.tv m.pv (.int .i64 m.now)) 74 (0, 0))
 c : bl w m.bc = some (.cells #[.int .i64 m.cn, m.cv, m.ov] 147 (0, 0))
 v : E2 w m.ov m.own.length (G2 m.own)
theorem WoAt.own {κ : Bool} {S : List Nat} {w0 w : World} {H : List Res} {m : WoH} (hw : LW κ S w0 H w) (h : ∀ r ∈ C9 m, r ∈ H) : WoAt w m :=
 ⟨hw.pt (h _ (by unfold C9 H3; (repeat constructor))), hw.pt (h _ (by unfold C9; (repeat constructor))), P4.own (e := 3) (k := 1) (h _ (by unfold C9; (repeat constructor))) w hw⟩
theorem WoAt.ks {w w' : World} {m : WoH} (h : WoAt w m) (hk : KS false [] w w') : WoAt w' m := ⟨hk.2.1 _ _ (by simp) rfl h.b, hk.2.1 _ _ (by simp) rfl h.c, h.v.ks hk (by simp)⟩
theorem B5P (w : World) (b : Nat) (j : JE) (tv : Value) (m : WoH) (hb : bl w b = some (.cells (D5 j.b [.int .i64 j.shard, .int .i64 (j.place : Nat), tv]) 101 (0, 0))) (hm : WoAt w m) :
  Fn PR B6 248 #[.pointer (some ⟨b, 0, none⟩), .pointer (some ⟨m.b, 0, none⟩)] w (fun u w' => u = .bool ((JV.exp j).waits m.ws) ∧ C6 [] w w') := by
 refine Fn.pure (A41 (TW.go (κ := false) (S := []) ?_))
 unfold A0L
 have h1 : w.cell? ⟨b, 1, none⟩ = some (.int .i64 j.b.st) := by rw [D8 hb]; rfl
 have h6 : w.cell? ⟨b, 6, none⟩ = some (.int .i64 j.shard) := by rw [D8 hb]; rfl
 have ho : m.ws.own = m.own := rfl
 by_cases c1 : j.b.st = 0
 ·(have zz:=trivial;repeat((first|clear zz|with_reducible first|refine A3 ?_|refine A5 fun _=>?_|refine A4 fun _=>?_);try simp(disch:=first|omega|assumption|((repeat(first|exact A1|exact uH|apply A2|apply uT));first|done|fail)|(simp;first|done|omega|fail))[h1, h6, c1]))
  refine C8 A4U (fun w' hw' => let h := hm.ks hw'.ks; B9s w' m j.shard h.b h.c h.v) ?_
  (have zz:=trivial;repeat((first|clear zz|with_reducible first|refine A3 ?_|refine A5 fun _=>?_|refine A4 fun _=>?_);try simp(disch:=first|omega|assumption|((repeat(first|exact A1|exact uH|apply A2|apply uT));first|done|fail)|(simp;first|done|omega|fail))[]))
  exact B0 (by simp [JV.waits, c1, ho])
 ·(have zz:=trivial;repeat((first|clear zz|with_reducible first|refine A3 ?_|refine A5 fun _=>?_|refine A4 fun _=>?_);try simp(disch:=first|omega|assumption|((repeat(first|exact A1|exact uH|apply A2|apply uT));first|done|fail)|(simp;first|done|omega|fail))[h1, h6, c1]))
  exact B0 (by simp [JV.waits, c1])
theorem B5G (w : World) (b : Nat) (j : JB) (m : WoH) (hl : m.ts.length ≤ 1000) (hb : bl w b = some (.cells (D5 j []) 104 (0, 0))) (hm : WoAt w m) (htv : ∃ a c, m.tv = .slice a m.ts.length c) :
  Fn PR B6 251 #[.pointer (some ⟨b, 0, none⟩), .pointer (some ⟨m.b, 0, none⟩)] w (fun u w' => u = .bool ((JV.sta j).waits m.ws) ∧ C6 [] w w') := by
 refine Fn.pure (A6j (TW.go (κ := false) (S := []) ?_))
 unfold A0j
 obtain ⟨a, c, htv⟩ := htv
 have h1 : w.cell? ⟨b, 1, none⟩ = some (.int .i64 j.st) := by rw [D8 hb]; rfl
 have h8 : w.cell? ⟨m.b, 8, none⟩ = some (.slice a m.ts.length c) := by rw [D8 hm.b]; exact congrArg some htv
 have ho : m.ws.own = m.own := rfl
 have htl : m.ws.tabs.length = m.ts.length := by simp [WoH.ws]
 by_cases c1 : j.st < (m.ts.length : Nat)
 ·(have zz:=trivial;repeat((first|clear zz|with_reducible first|refine A3 ?_|refine A5 fun _=>?_|refine A4 fun _=>?_);try simp(disch:=first|omega|assumption|((repeat(first|exact A1|exact uH|apply A2|apply uT));first|done|fail)|(simp;first|done|omega|fail))[h1, h8, c1]))
  refine C8 A4U (fun w' hw' => let h := hm.ks hw'.ks; B9s w' m j.st h.b h.c h.v) ?_
  (have zz:=trivial;repeat((first|clear zz|with_reducible first|refine A3 ?_|refine A5 fun _=>?_|refine A4 fun _=>?_);try simp(disch:=first|omega|assumption|((repeat(first|exact A1|exact uH|apply A2|apply uT));first|done|fail)|(simp;first|done|omega|fail))[c1]))
  exact B0 (by simp [JV.waits, htl, c1, ho])
 ·(have zz:=trivial;repeat((first|clear zz|with_reducible first|refine A3 ?_|refine A5 fun _=>?_|refine A4 fun _=>?_);try simp(disch:=first|omega|assumption|((repeat(first|exact A1|exact uH|apply A2|apply uT));first|done|fail)|(simp;first|done|omega|fail))[h1, h8, c1]))
  exact B0 (by simp [JV.waits, htl, c1])
def C6Q {β : Type} (j : JB) (wt : Bool) (told : y6) (φ : β → Prop) : Option β → Value → Prop
 | none, u => (j.st = -1 ∨ wt = true) ∧ u = L9 (false, false, false)
 | some a, u => (j.st ≠ -1 ∧ wt = false) ∧ u = L9 told ∧ φ a
def C5x {β : Type} (Hc : List Res) (Hn : β → List Res) : Option β → List Res
 | none => Hc
 | some a => Hn a
theorem A84 (w : World) (jb b : Nat) (I : Value) (j : JB) (rest : List Value) (T : TypeId) (wp : Value) (wt : Bool) (told : y6) (fW fS : FuncId) (argsW argsS : Array Value) (hI : I = P6 b ∨ I = A2H b ∨ I = A15 b ∨ I = A18 b)
  (Hc : List Res) {β : Type} (φ : β → Prop) (Hn : β → List Res)
  (hcw : ∀ w, (callMethod I "gangplank/control.waits" [wp].toArray).run PR w = .ok (.enter fW argsW) w) (hcs : ∀ w, (callMethod I "gangplank/control.step" [wp].toArray).run PR w = .ok (.enter fS argsS) w)
  (hpt : Res.pt b (.cells (D5 j rest) T) ∈ Hc)
  (hW : ∀ w', LW false (B2 (H4 jb I :: Hc)) w (H4 jb I :: Hc) w' → Fn PR B6 fW argsW w' (fun v w'' => v = .bool wt ∧ C6 [] w' w''))
  (hSt : j.st ≠ -1 → wt = false → ∀ w', LW false (B2 (H4 jb I :: Hc)) w (Hc ++ [H4 jb I]) w' → LW false (B2 Hc) w' Hc w' → Fn PR B6 fS argsS w' (Rn (B2 Hc) w' (fun a u => u = L9 told ∧ φ a) Hn))
  (hw : LW false (B2 (H4 jb I :: Hc)) w (H4 jb I :: Hc) w) :
  Fn PR B6 17 #[.pointer (some ⟨jb, 0, none⟩), wp] w (Rn (B2 (H4 jb I :: Hc)) w (C6Q j wt told φ) fun y => H4 jb I :: C5x Hc Hn y) := by
 refine A2P (TW.goH (κ := false) ?_ hw)
 unfold r5
 generalize hS : B2 (H4 jb I :: Hc) = S at *
 have hR := fun (w' : World) (hw' : LW false S w (H4 jb I :: Hc) w') =>
  m9 w' jb b I j rest T wp wt fW argsW hI (hw'.pt (List.mem_cons_self ..)) (hw'.pt (List.mem_cons_of_mem _ hpt)) hcw (fun w'' hk => hW w'' (hw'.ext hk))
 generalize hφ : C6Q j wt told φ = Φ
 generalize hHn : (fun y => H4 jb I :: C5x Hc Hn y) = Hn'
 (have zz:=trivial;repeat((first|clear zz|with_reducible first|refine A3 ?_|refine A5 fun _=>?_|refine A4 fun _=>?_);try simp(disch:=first|omega|assumption|((repeat(first|exact A1|exact uH|apply A2|apply uT));first|done|fail)|(simp;first|done|omega|fail))[]))
 rename_i bx
 refine C8 P1 (fun w' hw' => hR w' (hw'.sub (List.sublist_cons_self _ _))) ?_
 by_cases c1 : j.st = -1
 ·(have zz:=trivial;repeat((first|clear zz|with_reducible first|refine A3 ?_|refine A5 fun _=>?_|refine A4 fun _=>?_);try simp(disch:=first|omega|assumption|((repeat(first|exact A1|exact uH|apply A2|apply uT));first|done|fail)|(simp;first|done|omega|fail))[c1]))
  subst hφ hHn
  exact TW.sub (B1 none ⟨Or.inl c1, rfl⟩ (n4 _)) (List.sublist_cons_self _ _)
 cases wt with
 | true =>
  (have zz:=trivial;repeat((first|clear zz|with_reducible first|refine A3 ?_|refine A5 fun _=>?_|refine A4 fun _=>?_);try simp(disch:=first|omega|assumption|((repeat(first|exact A1|exact uH|apply A2|apply uT));first|done|fail)|(simp;first|done|omega|fail))[c1]))
  subst hφ hHn
  exact TW.sub (B1 none ⟨Or.inr rfl, rfl⟩ (n4 _)) (List.sublist_cons_self _ _)
 | false =>
  (have zz:=trivial;repeat((first|clear zz|with_reducible first|refine A3 ?_|refine A5 fun _=>?_|refine A4 fun _=>?_);try simp(disch:=first|omega|assumption|((repeat(first|exact A1|exact uH|apply A2|apply uT));first|done|fail)|(simp;first|done|omega|fail))[c1]))
  simp only [H4]
  (have zz:=trivial;repeat((first|clear zz|with_reducible first|refine A3 ?_|refine A5 fun _=>?_|refine A4 fun _=>?_);try simp(disch:=first|omega|assumption|((repeat(first|exact A1|exact uH|apply A2|apply uT));first|done|fail)|(simp;first|done|omega|fail))[c1]))
  refine C2L (Hc := Hc) (Hk := [.pt bx (.cells #[.bool false, .bool false, .bool false] 49), H4 jb I]) hcs (fun w' hw' hs => hSt c1 rfl w' (hw'.sub (List.Sublist.append (List.Sublist.refl _) (List.sublist_cons_self _ _))) hs) ?_ ?_
  ·have hp : ∀ (A : List Res) (r s : Res), Part A (r :: s :: A) [r, s] := fun A r s => by
    induction A with
    | nil => exact Part.nil
    | cons s A ih => exact Part.cons (.there (.there .here)) ih
   exact hp Hc _ _
  rintro a v ⟨rfl, hv⟩
  refine TW.perm ?_ List.perm_append_comm
  simp only [List.cons_append, List.nil_append, L9]
  (have zz:=trivial;repeat((first|clear zz|with_reducible first|refine A3 ?_|refine A5 fun _=>?_|refine A4 fun _=>?_);try simp(disch:=first|omega|assumption|((repeat(first|exact A1|exact uH|apply A2|apply uT));first|done|fail)|(simp;first|done|omega|fail))[]))
  subst hφ hHn
  exact TW.sub (B1 (some a) ⟨⟨c1, rfl⟩, rfl, hv⟩ (n4 _)) (List.sublist_cons_self _ _)
end Go.Proofs.YtpnidmkaobfhiaaGreat
namespace Go.Proofs.YtpnidmkaobfhiaaGreat
open Go
def B2w (now d : Int) : Int := if 0 ≤ d ∧ d ≤ 1000000 ∧ now + d ≤ 1000000000 then now + d else now
theorem B7r {now d : Int} (h : 0 ≤ now ∧ now ≤ 1000000000) : 0 ≤ B2w now d ∧ B2w now d ≤ 1000000000 := by unfold B2w; split <;> omega
end Go.Proofs.YtpnidmkaobfhiaaGreat
namespace Go.Proofs.YtpnidmkaobfhiaaGreat
open Go
structure ActV where
 k : Int
 n : Int
 pool : List F2
 pa : Option Addr
 pc : Nat
def ActV.pv (a : ActV) : Value := .slice a.pa a.pool.length a.pc
def ActV.val (a : ActV) : Value := .agg #[.int .i64 a.k, .int .i64 a.n, a.pv]
structure WoG where
 cn : Int
 cells : List Int
 own : List Int
 tv : Value
 pv : Value
 ls : List SlH
 keep : List (Int × Int)
 ts : List (Value × List EnV)
 pl : List Nat
 now : Int
def WoH.ug (m : WoH) (d : WoG) : WoH := { m with cn := d.cn, cells := d.cells, own := d.own, tv := d.tv, pv := d.pv, ls := d.ls, keep := d.keep, ts := d.ts, pl := d.pl, now := d.now }
def WoH.dg (m : WoH) : WoG := ⟨m.cn, m.cells, m.own, m.tv, m.pv, m.ls, m.keep, m.ts, m.pl, m.now⟩
structure XS where
 c : CfgV
 ep : Int
 cur : Int
 pins : List Int
 locks : List Int
 sl : List Y9
 keep : List (Int × Int)
 tabs : List (List EnV)
 pl : List Nat
 now : Int
def XH.xs (x : XH) : XS := ⟨x.c, x.ep, x.cur, x.pins, x.locks, x.sl, x.keep, x.ts.map (·.2), x.pl, x.now⟩
def j4 (a : ActV) (x : WS) (y : XS) : WS :=
 if a.k = 1 then { x with cells := M5 x.cells 0 (IntKind.i64.wrap (D3 x.cells 0 + 1)) }
 else if a.k = 2 then if (0 ≤ a.n ∧ a.n < y.c.sh) ∧ y.locks.getD a.n.toNat 0 < 0 then { x with own := Q4 x.own a.n 99 } else x
 else if a.k = 3 then if (0 ≤ a.n ∧ a.n < y.c.sh) ∧ y.locks.getD a.n.toNat 0 = 99 then { x with own := H7 x.own a.n 99 } else x
 else if a.k = 4 then { x with sl := l3 (Q3 x.sl a.n .bld) a.n a.pool }
 else if a.k = 5 then { x with sl := Q3 x.sl a.n .no }
 else if a.k = 6 then if -1 ≤ a.n ∧ a.n < y.c.sl then { x with cells := M5 x.cells 1 (a.n + 1) } else x
 else if a.k = 7 then { x with now := B2w x.now a.n }
 else x
def A1y (a : ActV) (y : XS) : XS :=
 if a.k = 1 then { y with ep := y.ep + 1 }
 else if a.k = 2 then if (0 ≤ a.n ∧ a.n < y.c.sh) ∧ y.locks.getD a.n.toNat 0 < 0 then { y with locks := y.locks.set a.n.toNat 99 } else y
 else if a.k = 3 then if (0 ≤ a.n ∧ a.n < y.c.sh) ∧ y.locks.getD a.n.toNat 0 = 99 then { y with locks := y.locks.set a.n.toNat (-1) } else y
 else if a.k = 4 then { y with sl := if isI y.sl.length a.n then A5P (A7T y.sl a.n) a.n a.pool (a.pa, a.pool.length, a.pc) else y.sl }
 else if a.k = 5 then { y with sl := B8f y.sl a.n }
 else if a.k = 6 then if -1 ≤ a.n ∧ a.n < y.c.sl then { y with cur := a.n + 1 } else y
 else if a.k = 7 then { y with now := B2w y.now a.n }
 else y
theorem C7Q {S : List Nat} {w0 w' : World} {Hc Hk : List Res} {P : World → Prop} (h : ∀ w1, KS false S w0 w1 → P w1) (hw' : LW false S w0 (Hc ++ Hk) w') : ∀ w'', KS false (B2 Hc) w' w'' → P w'' := fun w'' hk => by
 refine h _ (hw'.ks.then hk fun x hx => ?_)
 obtain ⟨r, hr, hxr⟩ := G8.1 hx
 exact (hw'.own r (List.mem_append_left _ hr) x hxr).1
end Go.Proofs.YtpnidmkaobfhiaaGreat
namespace Go.Proofs.YtpnidmkaobfhiaaGreat
open Go
structure GI (N E : Nat) (j : JW) (x : WS) : Prop where
 ok : WsOk x
 n : 1 ≤ N ∧ N ≤ 16
 sh : x.c.sh = (N : Nat)
 tl : x.tabs.length = N
 te : ∀ t ∈ x.tabs, TabOk x.c.cp.toNat t
 pl : x.places.length = N
 ow : x.own.length = N
 jt : TabOk 0 j.table ∨ TabOk x.c.cp.toNat j.table
 ep : 0 ≤ D3 x.cells 0 ∧ D3 x.cells 0 ≤ E
 cur : 0 ≤ D3 x.cells 1 ∧ D3 x.cells 1 ≤ 500
 now : 0 ≤ x.now ∧ x.now ≤ 1000000000
 text : j.text.size ≤ 100
 key : j.key.size < 2 ^ 60
 shard : 0 ≤ j.shard ∧ j.shard < N
 slot : -1 ≤ j.slot ∧ j.slot ≤ 500
 st : 0 ≤ j.st ∧ j.st ≤ 10
 jep : 0 ≤ j.ep ∧ j.ep ≤ E
 jt2 : 6 ≤ j.st → j.st < 10 → TabOk x.c.cp.toNat j.table
theorem GI.stage {N E : Nat} {j : JW} {x : WS} (h : GI N E j x) (k : Nat) (hk : k < 10) (hs : j.st = (k : Nat)) : GI N E (D7 k { j with st := j.st + 1 } x).1 (D7 k { j with st := j.st + 1 } x).2.1 := by
 have hst : 0 ≤ j.st + 1 ∧ j.st + 1 ≤ 10 := by omega
 have hcase : k = 0 ∨ k = 1 ∨ k = 2 ∨ k = 3 ∨ k = 4 ∨ k = 5 ∨ k = 6 ∨ k = 7 ∨ k = 8 ∨ k = 9 := by omega
 have hn := h.n
 have hcur := h.cur
 rcases hcase with rfl | rfl | rfl | rfl | rfl | rfl | rfl | rfl | rfl | rfl
 ·show GI N E (jw0 _ x).1 (jw0 _ x).2.1
  unfold jw0
  by_cases c1 : G7 x.c j.who < 0
  ·rw [if_pos c1]; exact { h with st := by simp [JW.refuse], jt2 := fun _ (h6 : (10 : Int) < 10) => by omega }
  ·rw [if_neg c1]
   by_cases c2 : (C7 j.text).2.2 = 0
   ·rw [if_neg (by simpa using c2)]
    have h3 := h.sh
    have : M9 (s6 (C7 j.text).1) x.c.sh < N := by
     unfold M9; rw [if_neg (by omega), h3, Int.toNat_natCast]; exact Nat.mod_lt _ (by omega)
    exact { h with st := hst, key := A5j _, jep := h.ep, jt2 := fun (h6 : 6 ≤ j.st + 1) _ => by omega, shard := ⟨Int.natCast_nonneg _, by show ((M9 (s6 (C7 j.text).1) x.c.sh : Nat) : Int) < N; omega⟩ }
   ·rw [if_pos c2]; exact { h with st := by simp [JW.refuse], jt2 := fun _ (h6 : (10 : Int) < 10) => by omega }
 ·have e0 : D3 (M5 x.cells (G7 x.c j.who) (IntKind.i64.wrap (j.ep + 1))) 0 = D3 x.cells 0 := y8 _ _ _ _ _ (Or.inl rfl)
  have e1 : D3 (M5 x.cells (G7 x.c j.who) (IntKind.i64.wrap (j.ep + 1))) 1 = D3 x.cells 1 := y8 _ _ _ _ _ (Or.inr rfl)
  exact { h with st := hst, jt2 := fun (h6 : 6 ≤ j.st + 1) _ => by omega, ok := ⟨h.ok.wk, by simp only [D7, jw1, c7]; exact h.ok.cells, h.ok.own, h.ok.sl, h.ok.keep⟩, ep := by simp only [D7, jw1]; rw [e0]; exact h.ep, cur := by simp only [D7, jw1]; rw [e1]; exact h.cur }
 ·show GI N E (jw2 _ x).1 (jw2 _ x).2.1
  unfold jw2
  by_cases c1 : D3 x.cells 0 = j.ep
  ·rw [if_pos c1]; exact { h with st := hst, jt2 := fun (h6 : 6 ≤ j.st + 1) _ => by omega }
  ·rw [if_neg c1]; exact { h with st := by simp, jep := h.ep, jt2 := fun (h6 : (6 : Int) ≤ 1) _ => by omega }
 ·exact { h with st := hst, jt2 := fun (h6 : 6 ≤ j.st + 1) _ => by omega, ok := ⟨h.ok.wk, h.ok.cells, by simp only [D7, jw3, A1G]; exact h.ok.own, h.ok.sl, h.ok.keep⟩, ow := by simp only [D7, jw3, A1G]; exact h.ow }
 ·have e : IntKind.i64.wrap (D3 x.cells 1 - 1) = D3 x.cells 1 - 1 := T2 (by omega) (by omega)
  exact { h with st := hst, jt2 := fun (h6 : 6 ≤ j.st + 1) _ => by omega, slot := by show -1 ≤ IntKind.i64.wrap (D3 x.cells 1 - 1) ∧ IntKind.i64.wrap (D3 x.cells 1 - 1) ≤ 500; rw [e]; omega }
 ·have hsd := h.shard
  have htl := h.tl
  have key : TabOk x.c.cp.toNat (x.tabs.getD j.shard.toNat []) := by
   rw [List.getD_eq_getElem?_getD, List.getElem?_eq_getElem (by omega)]
   exact h.te _ (List.getElem_mem _)
  exact { h with st := hst, jt := Or.inr key, jt2 := fun _ _ => key }
 ·exact { h with st := hst, jt := h.jt.imp (fun g => (A37 g h.key).1) (fun g => (A37 g h.key).1), jt2 := fun _ _ => (A37 (h.jt2 (by omega) (by omega)) h.key).1 }
 ·have key := h.jt2 (by omega) (by omega)
  refine { h with st := hst, tl := by simp only [D7, jw7, List.length_set]; exact h.tl, te := fun t ht => ?_, ok := ⟨h.ok.wk, h.ok.cells, h.ok.own, h.ok.sl, h.ok.keep⟩, jt2 := fun _ _ => key }
  rcases List.mem_or_eq_of_mem_set (show t ∈ x.tabs.set j.shard.toNat j.table from ht) with ht | rfl
  ·exact h.te t ht
  ·exact key
 ·exact { h with st := hst, jt2 := fun _ _ => h.jt2 (by omega) (by omega), ok := ⟨h.ok.wk, h.ok.cells, by simp only [D7, jw8, r4]; exact h.ok.own, h.ok.sl, h.ok.keep⟩, ow := by simp only [D7, jw8, r4]; exact h.ow }
 ·have e0 : D3 (M5 x.cells (G7 x.c j.who) 0) 0 = D3 x.cells 0 := y8 _ _ _ _ _ (Or.inl rfl)
  have e1 : D3 (M5 x.cells (G7 x.c j.who) 0) 1 = D3 x.cells 1 := y8 _ _ _ _ _ (Or.inr rfl)
  exact { h with st := hst, jt2 := fun _ (h6 : j.st + 1 < 10) => by omega, ok := ⟨h.ok.wk, by simp only [D7, jw9, c7]; exact h.ok.cells, h.ok.own, h.ok.sl, h.ok.keep⟩, ep := by simp only [D7, jw9]; rw [e0]; exact h.ep, cur := by simp only [D7, jw9]; rw [e1]; exact h.cur }
theorem GI.step {N E : Nat} {j : JW} {x : WS} (h : GI N E j x) : GI N E (j.step x).1 (j.step x).2.1 := by
 cases hr : j.ready x with
 | false => rw [B40 hr]; exact h
 | true =>
  have hs := h.st
  have hl := B2J hr
  rw [B19 hr]
  exact h.stage _ (by omega) (by omega)
theorem B1G (l : List Int) (i k v : Int) : D3 (M5 l i v) k = if i = k ∧ 0 ≤ i ∧ i < l.length then v else D3 l k := by
 by_cases c : i = k
 ·subst c
  rw [b8]
  by_cases d : 0 ≤ i ∧ i < l.length
  ·rw [if_pos d, if_pos ⟨rfl, d⟩]
  ·rw [if_neg d, if_neg (by omega)]
   unfold D3; rw [if_neg d]
 ·rw [Q6 _ _ c, if_neg (by omega)]
theorem GI.hap {N E : Nat} {j : JW} {x : WS} (h : GI N E j x) (hE : E ≤ 1000) (a : ActV) (y : XS) (hc : y.c = x.c) (hcs : x.c.sl ≤ 8) : GI N (E + 1) j (j4 a x y) := by
 have hep := h.ep
 have hcl := h.ok.cells
 have hwk := h.ok.wk
 have up : GI N (E + 1) j x := { h with ep := by omega, jep := by have := h.jep; omega }
 unfold j4
 split
 ·have e0 : D3 (M5 x.cells 0 (IntKind.i64.wrap (D3 x.cells 0 + 1))) 0 = D3 x.cells 0 + 1 := by
   rw [b8, if_pos (by omega)]; exact T2 (by omega) (by omega)
  have e1 : D3 (M5 x.cells 0 (IntKind.i64.wrap (D3 x.cells 0 + 1))) 1 = D3 x.cells 1 := Q6 _ _ (by omega)
  exact { up with ep := by simp only; rw [e0]; omega, cur := by simp only; rw [e1]; exact h.cur, ok := ⟨h.ok.wk, by simp only [c7]; exact hcl, h.ok.own, h.ok.sl, h.ok.keep⟩ }
 split
 ·split
  ·exact { up with ok := ⟨h.ok.wk, h.ok.cells, by simp only [A1G]; exact h.ok.own, h.ok.sl, h.ok.keep⟩, ow := by simp only [A1G]; exact h.ow }
  ·exact up
 split
 ·split
  ·exact { up with ok := ⟨h.ok.wk, h.ok.cells, by simp only [r4]; exact h.ok.own, h.ok.sl, h.ok.keep⟩, ow := by simp only [r4]; exact h.ow }
  ·exact up
 split
 ·exact { up with ok := ⟨h.ok.wk, h.ok.cells, h.ok.own, by simp only [A3V, W9]; exact h.ok.sl, h.ok.keep⟩ }
 split
 ·exact { up with ok := ⟨h.ok.wk, h.ok.cells, h.ok.own, by simp only [W9]; exact h.ok.sl, h.ok.keep⟩ }
 split
 ·split
  ·rename_i hn
   rw [hc] at hn
   have e1 : D3 (M5 x.cells 1 (a.n + 1)) 1 = a.n + 1 := by rw [b8, if_pos (by omega)]
   have e0 : D3 (M5 x.cells 1 (a.n + 1)) 0 = D3 x.cells 0 := Q6 _ _ (by omega)
   exact { up with ep := by simp only; rw [e0]; exact up.ep, cur := by simp only; rw [e1]; omega, ok := ⟨h.ok.wk, by simp only [c7]; exact hcl, h.ok.own, h.ok.sl, h.ok.keep⟩ }
  ·exact up
 split
 ·exact { up with now := B7r h.now, ok := ⟨h.ok.wk, h.ok.cells, h.ok.own, h.ok.sl, h.ok.keep⟩ }
 ·exact up
end Go.Proofs.YtpnidmkaobfhiaaGreat
namespace Go.Proofs.YtpnidmkaobfhiaaGreat
open Go
structure PinJ (N E : Nat) (who pd e : Int) (j : JW) (x : WS) (y : XS) : Prop where
 g : GI N E j x
 hwho : j.who = who
 w0 : 0 ≤ who ∧ who ≤ 60
 lk : y.locks = x.own
 yc : y.c = x.c
 ec : D3 x.cells 0 = e
 free : ∀ i, i < N → x.own.getD i 0 < 0 → x.own.getD i 0 = -1
 held : 4 ≤ j.st → j.st ≤ 8 → ∀ i : Nat, i < N → (x.own.getD i 0 = who ↔ (i : Int) = j.shard)
 none : ¬ (4 ≤ j.st ∧ j.st ≤ 8) → ∀ i, i < N → x.own.getD i 0 ≠ who
 off : G7 x.c who < 0 → j.st = 0 ∨ j.st = 10
 p0 : 0 ≤ G7 x.c who → (j.st = 0 ∨ j.st = 10) → D3 x.cells (G7 x.c who) = 0
 p2 : 2 ≤ j.st → j.st ≤ 9 → D3 x.cells (G7 x.c who) = j.ep + 1
 pd0 : j.st ≤ 2 → pd = 0
 pd3 : 3 ≤ j.st → j.st ≤ 9 → pd = j.ep + 1
def pdN (pd e : Int) (j : JW) : Int := if j.st = 3 ∧ pd = 0 then e + 1 else pd
theorem f7 {pd e : Int} {j : JW} (h : j.st ≠ 3 ∨ pd ≠ 0) : pdN pd e j = pd := by unfold pdN; rw [if_neg (by omega)]
theorem K1 {l : List Int} {i k : Nat} {v : Int} (hi : i < l.length) : (l.set i v).getD k 0 = if i = k then v else l.getD k 0 := by
 rw [List.getD_eq_getElem?_getD, List.getElem?_set]
 by_cases c : i = k
 ·subst c; rw [if_pos rfl, if_pos hi, if_pos rfl]; rfl
 ·rw [if_neg c, if_neg c, ← List.getD_eq_getElem?_getD]
theorem PinJ.stage {N E : Nat} {who pd e : Int} {j : JW} {x : WS} {y : XS} (h : PinJ N E who pd e j x y) (hE : E ≤ 1000) (k : Nat) (hk : k < 10) (hs : j.st = (k : Nat)) (hr : j.ready x = true) :
  PinJ N E who (pdN pd e (D7 k { j with st := j.st + 1 } x).1) e (D7 k { j with st := j.st + 1 } x).1 (D7 k { j with st := j.st + 1 } x).2.1 { y with locks := (D7 k { j with st := j.st + 1 } x).2.1.own } := by
 have hw := h.hwho
 subst hw
 have hw : j.who = j.who := rfl
 have hg := h.g.stage k hk hs
 have hcase : k = 0 ∨ k = 1 ∨ k = 2 ∨ k = 3 ∨ k = 4 ∨ k = 5 ∨ k = 6 ∨ k = 7 ∨ k = 8 ∨ k = 9 := by omega
 have hn := h.g.n
 have hwk := h.g.ok.wk
 have hcl := h.g.ok.cells
 have hsd := h.g.shard
 have how := h.g.ow
 have hjep := h.g.jep
 have hw0 := h.w0
 have hpr : 0 ≤ G7 x.c j.who → 2 ≤ G7 x.c j.who ∧ G7 x.c j.who < x.cells.length := by unfold G7; intro h1; split at h1 <;> split <;> omega
 have hoff := h.off
 have hno := h.none
 have hhe := h.held
 rcases hcase with rfl | rfl | rfl | rfl | rfl | rfl | rfl | rfl | rfl | rfl
 ·have hno' := hno (by omega)
  have hpd := h.pd0 (by omega)
  have hp0 := fun g => h.p0 g (Or.inl (by omega))
  rw [show D7 0 { j with st := j.st + 1 } x = jw0 { j with st := j.st + 1 } x from rfl] at hg ⊢
  unfold jw0 at hg ⊢
  simp only at hg ⊢
  by_cases c1 : G7 x.c j.who < 0
  ·rw [if_pos c1] at hg ⊢
   rw [f7 (Or.inl (by simp [JW.refuse]))]
   exact ⟨hg, hw, h.w0, rfl, h.yc, h.ec, h.free, fun _ (h8 : (10 : Int) ≤ 8) => by omega, fun _ => hno', fun _ => Or.inr rfl, fun g _ => hp0 g, fun _ (h9 : (10 : Int) ≤ 9) => by omega, fun (h2 : (10 : Int) ≤ 2) => by omega, fun _ (h9 : (10 : Int) ≤ 9) => by omega⟩
  rw [if_neg c1] at hg ⊢
  by_cases c2 : (C7 j.text).2.2 = 0
  case neg =>
   rw [if_pos c2] at hg ⊢
   rw [f7 (Or.inl (by simp [JW.refuse]))]
   exact ⟨hg, hw, h.w0, rfl, h.yc, h.ec, h.free, fun _ (h8 : (10 : Int) ≤ 8) => by omega, fun _ => hno', fun _ => Or.inr rfl, fun g _ => hp0 g, fun _ (h9 : (10 : Int) ≤ 9) => by omega, fun (h2 : (10 : Int) ≤ 2) => by omega, fun _ (h9 : (10 : Int) ≤ 9) => by omega⟩
  rw [if_neg (by simpa using c2)] at hg ⊢
  rw [f7 (Or.inl (by simp only [JW.rd]; omega))]
  exact ⟨hg, hw, h.w0, rfl, h.yc, h.ec, h.free, fun (h4 : 4 ≤ j.st + 1) _ => by omega, fun _ => hno', fun g => absurd g c1, fun g (h1 : j.st + 1 = 0 ∨ j.st + 1 = 10) => by omega, fun (h2 : 2 ≤ j.st + 1) _ => by omega, fun _ => hpd, fun (h3 : 3 ≤ j.st + 1) _ => by omega⟩
 ·have hno' := hno (by omega)
  have hpd := h.pd0 (by omega)
  have hp : 0 ≤ G7 x.c j.who := by have := hoff; omega
  have hp' := hpr hp
  have e0 : D3 (M5 x.cells (G7 x.c j.who) (j.ep + 1)) 0 = D3 x.cells 0 := by rw [B1G, if_neg (by omega)]
  have e1 : D3 (M5 x.cells (G7 x.c j.who) (j.ep + 1)) (G7 x.c j.who) = j.ep + 1 := by rw [B1G, if_pos (by omega)]
  rw [show D7 1 { j with st := j.st + 1 } x = ({ j with st := j.st + 1 }, { x with cells := M5 x.cells (G7 x.c j.who) (IntKind.i64.wrap (j.ep + 1)) }, noT) from rfl, T2 (by omega) (by omega)] at hg ⊢
  rw [f7 (Or.inl (show j.st + 1 ≠ 3 by omega))]
  exact ⟨hg, hw, h.w0, rfl, h.yc, by simp only; rw [e0]; exact h.ec, h.free, fun (h4 : 4 ≤ j.st + 1) _ => by omega, fun _ => hno', fun g => by simp only at g; omega, fun g (h1 : j.st + 1 = 0 ∨ j.st + 1 = 10) => by omega, fun _ _ => e1, fun _ => hpd, fun (h3 : 3 ≤ j.st + 1) _ => by omega⟩
 ·have hno' := hno (by omega)
  have hpd := h.pd0 (by omega)
  have hp2 := h.p2 (by omega) (by omega)
  have hec := h.ec
  rw [show D7 2 { j with st := j.st + 1 } x = jw2 { j with st := j.st + 1 } x from rfl] at hg ⊢
  unfold jw2 at hg ⊢
  simp only at hg ⊢
  by_cases c1 : D3 x.cells 0 = j.ep
  ·rw [if_pos c1] at hg ⊢
   have e : pdN pd e { j with st := j.st + 1 } = j.ep + 1 := by unfold pdN; rw [if_pos ⟨show j.st + 1 = 3 by omega, hpd⟩]; omega
   simp only [e]
   exact ⟨hg, hw, h.w0, rfl, h.yc, h.ec, h.free, fun (h4 : 4 ≤ j.st + 1) _ => by omega, fun _ => hno', fun g => by have := hoff g; omega, fun g (h1 : j.st + 1 = 0 ∨ j.st + 1 = 10) => by omega, fun _ _ => hp2, fun (h2 : j.st + 1 ≤ 2) => by omega, fun _ _ => rfl⟩
  ·rw [if_neg c1] at hg ⊢
   rw [f7 (Or.inl (show (1 : Int) ≠ 3 by omega))]
   exact ⟨hg, hw, h.w0, rfl, h.yc, h.ec, h.free, fun (h4 : (4 : Int) ≤ 1) _ => by omega, fun _ => hno', fun g => by have := hoff g; omega, fun g (h1 : (1 : Int) = 0 ∨ (1 : Int) = 10) => by omega, fun (h2 : (2 : Int) ≤ 1) _ => by omega, fun _ => hpd, fun (h3 : (3 : Int) ≤ 1) _ => by omega⟩
 ·have hpd := h.pd3 (by omega) (by omega)
  have hp2 := h.p2 (by omega) (by omega)
  have hno' := hno (by omega)
  obtain ⟨s, hs2⟩ : ∃ s : Nat, j.shard = s := ⟨j.shard.toNat, by omega⟩
  have hsN : s < N := by omega
  have hf : x.own.getD s 0 = -1 := by
   refine h.free s hsN ?_
   unfold JW.ready at hr
   rw [hs, hs2, A4x (by omega)] at hr
   simpa using hr
  have hlo : Q4 x.own j.shard j.who = x.own.set s j.who := by
   unfold Q4; rw [if_pos (by omega), hs2, W2 (by omega), if_pos hf]
  rw [show D7 3 { j with st := j.st + 1 } x = ({ j with st := j.st + 1 }, { x with own := Q4 x.own j.shard j.who }, noT) from rfl, hlo] at hg ⊢
  rw [f7 (Or.inl (show j.st + 1 ≠ 3 by omega))]
  refine ⟨hg, hw, h.w0, rfl, h.yc, h.ec, fun i hi => ?_, fun _ _ i hi => ?_, fun (hx : ¬ (4 ≤ j.st + 1 ∧ j.st + 1 ≤ 8)) => by omega, fun g => by have := hoff g; omega, fun g (h1 : j.st + 1 = 0 ∨ j.st + 1 = 10) => by omega, fun _ _ => hp2, fun (h2 : j.st + 1 ≤ 2) => by omega, fun _ _ => hpd⟩
  ·simp only
   rw [K1 (by omega)]
   split
   ·omega
   ·exact h.free i hi
  ·simp only
   rw [K1 (by omega), hs2]
   split
   ·rename_i hq; simp [hq]
   ·rename_i hq
    have := hno' i hi
    constructor
    ·intro g; exact absurd g this
    ·intro g; omega
 ·have hpd := h.pd3 (by omega) (by omega)
  have hp2 := h.p2 (by omega) (by omega)
  have hh := hhe (by omega) (by omega)
  rw [f7 (Or.inl (show j.st + 1 ≠ 3 by omega))]
  exact ⟨hg, hw, h.w0, rfl, h.yc, h.ec, h.free, fun _ _ => hh, fun (hx : ¬ (4 ≤ j.st + 1 ∧ j.st + 1 ≤ 8)) => by omega, fun g => by have := hoff g; omega, fun g (h1 : j.st + 1 = 0 ∨ j.st + 1 = 10) => by omega, fun _ _ => hp2, fun (h2 : j.st + 1 ≤ 2) => by omega, fun _ _ => hpd⟩
 ·have hpd := h.pd3 (by omega) (by omega)
  have hp2 := h.p2 (by omega) (by omega)
  have hh := hhe (by omega) (by omega)
  rw [f7 (Or.inl (show j.st + 1 ≠ 3 by omega))]
  exact ⟨hg, hw, h.w0, rfl, h.yc, h.ec, h.free, fun _ _ => hh, fun (hx : ¬ (4 ≤ j.st + 1 ∧ j.st + 1 ≤ 8)) => by omega, fun g => by have := hoff g; omega, fun g (h1 : j.st + 1 = 0 ∨ j.st + 1 = 10) => by omega, fun _ _ => hp2, fun (h2 : j.st + 1 ≤ 2) => by omega, fun _ _ => hpd⟩
 ·have hpd := h.pd3 (by omega) (by omega)
  have hp2 := h.p2 (by omega) (by omega)
  have hh := hhe (by omega) (by omega)
  rw [f7 (Or.inl (show j.st + 1 ≠ 3 by omega))]
  exact ⟨hg, hw, h.w0, rfl, h.yc, h.ec, h.free, fun _ _ => hh, fun (hx : ¬ (4 ≤ j.st + 1 ∧ j.st + 1 ≤ 8)) => by omega, fun g => by have := hoff g; omega, fun g (h1 : j.st + 1 = 0 ∨ j.st + 1 = 10) => by omega, fun _ _ => hp2, fun (h2 : j.st + 1 ≤ 2) => by omega, fun _ _ => hpd⟩
 ·have hpd := h.pd3 (by omega) (by omega)
  have hp2 := h.p2 (by omega) (by omega)
  have hh := hhe (by omega) (by omega)
  rw [f7 (Or.inl (show j.st + 1 ≠ 3 by omega))]
  exact ⟨hg, hw, h.w0, rfl, h.yc, h.ec, h.free, fun _ _ => hh, fun (hx : ¬ (4 ≤ j.st + 1 ∧ j.st + 1 ≤ 8)) => by omega, fun g => by have := hoff g; omega, fun g (h1 : j.st + 1 = 0 ∨ j.st + 1 = 10) => by omega, fun _ _ => hp2, fun (h2 : j.st + 1 ≤ 2) => by omega, fun _ _ => hpd⟩
 ·have hpd := h.pd3 (by omega) (by omega)
  have hp2 := h.p2 (by omega) (by omega)
  have hh := hhe (by omega) (by omega)
  obtain ⟨s, hs2⟩ : ∃ s : Nat, j.shard = s := ⟨j.shard.toNat, by omega⟩
  have hsN : s < N := by omega
  have hf : x.own.getD s 0 = j.who := (hh s hsN).2 hs2.symm
  have hlo : H7 x.own j.shard j.who = x.own.set s (-1) := by
   unfold H7; rw [if_pos (by omega), hs2, W2 (by omega), if_pos hf]
  rw [show D7 8 { j with st := j.st + 1 } x = ({ j with st := j.st + 1 }, { x with own := H7 x.own j.shard j.who }, noT) from rfl, hlo] at hg ⊢
  rw [f7 (Or.inl (show j.st + 1 ≠ 3 by omega))]
  refine ⟨hg, hw, h.w0, rfl, h.yc, h.ec, fun i hi => ?_, fun _ (h8 : j.st + 1 ≤ 8) => by omega, fun _ i hi => ?_, fun g => by have := hoff g; omega, fun g (h1 : j.st + 1 = 0 ∨ j.st + 1 = 10) => by omega, fun _ _ => hp2, fun (h2 : j.st + 1 ≤ 2) => by omega, fun _ _ => hpd⟩
  ·simp only
   rw [K1 (by omega)]
   split
   ·intro; rfl
   ·exact h.free i hi
  ·simp only
   rw [K1 (by omega)]
   split
   ·omega
   ·rename_i hq
    intro g
    have := (hh i hi).1 g
    omega
 ·have hpd := h.pd3 (by omega) (by omega)
  have hno' := hno (by omega)
  have e0 : D3 (M5 x.cells (G7 x.c j.who) 0) 0 = D3 x.cells 0 := y8 _ _ _ _ _ (Or.inl rfl)
  rw [show D7 9 { j with st := j.st + 1 } x = ({ j with st := j.st + 1 }, { x with cells := M5 x.cells (G7 x.c j.who) 0 }, false, true, false) from rfl] at hg ⊢
  rw [f7 (Or.inl (show j.st + 1 ≠ 3 by omega))]
  exact ⟨hg, hw, h.w0, rfl, h.yc, by simp only; rw [e0]; exact h.ec, h.free, fun _ (h8 : j.st + 1 ≤ 8) => by omega, fun _ => hno', fun _ => Or.inr (show j.st + 1 = 10 by omega), fun g _ => by simp only; rw [b8, if_pos (by have := hpr g; omega)], fun _ (h9 : j.st + 1 ≤ 9) => by omega, fun (h2 : j.st + 1 ≤ 2) => by omega, fun _ (h9 : j.st + 1 ≤ 9) => by omega⟩
theorem PinJ.step {N E : Nat} {who pd e : Int} {j : JW} {x : WS} {y : XS} (h : PinJ N E who pd e j x y) (hE : E ≤ 1000) : PinJ N E who (pdN pd e (j.step x).1) e (j.step x).1 (j.step x).2.1 { y with locks := (j.step x).2.1.own } := by
 cases hr : j.ready x with
 | false =>
  rw [B40 hr]
  have e1 : pdN pd e j = pd := by
   by_cases c : j.st = 3
   ·have h1 := h.pd3 (by omega) (by omega)
    have h2 := h.g.jep
    exact f7 (Or.inr (by omega))
   ·exact f7 (Or.inl c)
  simp only [e1]
  exact ⟨h.g, h.hwho, h.w0, rfl, h.yc, h.ec, h.free, h.held, h.none, h.off, h.p0, h.p2, h.pd0, h.pd3⟩
 | true =>
  have hs := h.g.st
  have hl := B2J hr
  rw [B19 hr]
  exact h.stage hE _ (by omega) (by omega) hr
theorem PinJ.put {N E E' : Nat} {who pd e e' : Int} {j : JW} {x x' : WS} {y y' : XS} (h : PinJ N E who pd e j x y) (hg : GI N E' j x') (hc : x'.c = x.c) (hy : y'.c = x.c) (hl : y'.locks = x'.own) (he : D3 x'.cells 0 = e')
  (hp : 0 ≤ G7 x.c who → D3 x'.cells (G7 x.c who) = D3 x.cells (G7 x.c who))
  (ho : ∀ i, i < N → x'.own.getD i 0 = x.own.getD i 0 ∨ (x.own.getD i 0 ≠ who ∧ x'.own.getD i 0 ≠ who ∧ (x'.own.getD i 0 < 0 → x'.own.getD i 0 = -1))) : PinJ N E' who pd e' j x' y' := by
 have hoff := h.off
 have hw0 := h.w0
 refine ⟨hg, h.hwho, h.w0, hl, by rw [hy, hc], he, fun i hi hf => ?_, fun h4 h8 i hi => ?_, fun hx i hi => ?_, by rw [hc]; exact h.off, by rw [hc]; exact fun g g2 => by rw [hp g]; exact h.p0 g g2, by rw [hc]; exact fun g g2 => by rw [hp (by omega)]; exact h.p2 g g2, h.pd0, h.pd3⟩
 ·rcases ho i hi with ho | ho
  ·rw [ho] at hf ⊢; exact h.free i hi hf
  ·exact ho.2.2 hf
 ·have := h.held h4 h8 i hi
  rcases ho i hi with ho | ho
  ·rw [ho]; exact this
  ·constructor
   ·intro g; exact absurd g ho.2.1
   ·intro g; exact absurd (this.2 g) ho.1
 ·have := h.none hx i hi
  rcases ho i hi with ho | ho
  ·rw [ho]; exact this
  ·exact ho.2.1
theorem C82 (a : ActV) (y : XS) : (A1y a y).c = y.c := by
 unfold A1y
 repeat' split
 all_goals rfl
theorem PinJ.hap {N E : Nat} {who pd e : Int} {j : JW} {x : WS} {y : XS} (h : PinJ N E who pd e j x y) (hE : E ≤ 1000) (a : ActV) (hcs : x.c.sl ≤ 8) :
  PinJ N (E + 1) who pd (if a.k = 1 then e + 1 else e) j (j4 a x y) { A1y a y with locks := (j4 a x y).own } := by
 have hg := h.g.hap hE a y h.yc hcs
 have hyc := h.yc
 have hlk := h.lk
 have hsh := h.g.sh
 have how := h.g.ow
 have hw0 := h.w0
 have hwk := h.g.ok.wk
 have hcl := h.g.ok.cells
 have hep := h.g.ep
 have hec := h.ec
 have hpr : 0 ≤ G7 x.c who → 2 ≤ G7 x.c who ∧ G7 x.c who < x.cells.length := by unfold G7; intro h1; split at h1 <;> split <;> omega
 have hy : ({ A1y a y with locks := (j4 a x y).own } : XS).c = x.c := by show (A1y a y).c = x.c; rw [C82, hyc]
 have hu : GI N (E + 1) j x := { h.g with ep := by omega, jep := by have := h.g.jep; omega }
 generalize hX : A1y a y = y' at *
 have same : ∀ i, i < N → x.own.getD i 0 = x.own.getD i 0 ∨ (x.own.getD i 0 ≠ who ∧ x.own.getD i 0 ≠ who ∧ (x.own.getD i 0 < 0 → x.own.getD i 0 = -1)) := fun i _ => Or.inl rfl
 unfold j4 at hg hy ⊢
 by_cases k1 : a.k = 1
 ·rw [if_pos k1] at hg hy ⊢
  rw [if_pos k1]
  have e0 : D3 (M5 x.cells 0 (IntKind.i64.wrap (D3 x.cells 0 + 1))) 0 = D3 x.cells 0 + 1 := by
   rw [b8, if_pos (by omega)]; exact T2 (by omega) (by omega)
  exact h.put hg rfl hy rfl (by simp only; rw [e0, hec]) (fun g => Q6 _ _ (by have := hpr g; omega)) same
 rw [if_neg k1] at hg hy ⊢
 rw [if_neg k1]
 by_cases k2 : a.k = 2
 ·rw [if_pos k2] at hg hy ⊢
  by_cases c : (0 ≤ a.n ∧ a.n < y.c.sh) ∧ y.locks.getD a.n.toNat 0 < 0
  case neg => rw [if_neg c] at hg hy ⊢; exact h.put hg rfl hy rfl hec (fun _ => rfl) same
  rw [if_pos c] at hg hy ⊢
  obtain ⟨n, hn⟩ : ∃ n : Nat, a.n = n := ⟨a.n.toNat, by omega⟩
  rw [hn, hyc, hsh, hlk, Int.toNat_natCast] at c
  have hnN : n < N := by omega
  have hf := h.free n hnN c.2
  have hlo : Q4 x.own a.n 99 = x.own.set n 99 := by
   unfold Q4; rw [if_pos (by omega), hn, W2 (by omega), if_pos hf]
  rw [hlo] at hg hy ⊢
  refine h.put hg rfl hy rfl hec (fun _ => rfl) fun i hi => ?_
  simp only
  rw [K1 (by omega)]
  by_cases d : n = i
  ·subst d; rw [if_pos rfl, hf]; right; omega
  ·rw [if_neg d]; exact Or.inl rfl
 rw [if_neg k2] at hg hy ⊢
 by_cases k3 : a.k = 3
 ·rw [if_pos k3] at hg hy ⊢
  by_cases c : (0 ≤ a.n ∧ a.n < y.c.sh) ∧ y.locks.getD a.n.toNat 0 = 99
  case neg => rw [if_neg c] at hg hy ⊢; exact h.put hg rfl hy rfl hec (fun _ => rfl) same
  rw [if_pos c] at hg hy ⊢
  obtain ⟨n, hn⟩ : ∃ n : Nat, a.n = n := ⟨a.n.toNat, by omega⟩
  rw [hn, hyc, hsh, hlk, Int.toNat_natCast] at c
  have hnN : n < N := by omega
  have hlo : H7 x.own a.n 99 = x.own.set n (-1) := by
   unfold H7; rw [if_pos (by omega), hn, W2 (by omega), if_pos c.2]
  rw [hlo] at hg hy ⊢
  refine h.put hg rfl hy rfl hec (fun _ => rfl) fun i hi => ?_
  simp only
  rw [K1 (by omega)]
  by_cases d : n = i
  ·subst d; rw [if_pos rfl, c.2]; right; omega
  ·rw [if_neg d]; exact Or.inl rfl
 rw [if_neg k3] at hg hy ⊢
 by_cases k4 : a.k = 4
 ·rw [if_pos k4] at hg hy ⊢; exact h.put hg rfl hy rfl hec (fun _ => rfl) same
 rw [if_neg k4] at hg hy ⊢
 by_cases k5 : a.k = 5
 ·rw [if_pos k5] at hg hy ⊢; exact h.put hg rfl hy rfl hec (fun _ => rfl) same
 rw [if_neg k5] at hg hy ⊢
 by_cases k6 : a.k = 6
 ·rw [if_pos k6] at hg hy ⊢
  by_cases c : -1 ≤ a.n ∧ a.n < y.c.sl
  case neg => rw [if_neg c] at hg hy ⊢; exact h.put hg rfl hy rfl hec (fun _ => rfl) same
  rw [if_pos c] at hg hy ⊢
  exact h.put hg rfl hy rfl (by simp only; rw [Q6 _ _ (by omega)]; exact hec) (fun g => Q6 _ _ (by have := hpr g; omega)) same
 rw [if_neg k6] at hg hy ⊢
 by_cases k7 : a.k = 7
 ·rw [if_pos k7] at hg hy ⊢; exact h.put hg rfl hy rfl hec (fun _ => rfl) same
 rw [if_neg k7] at hg hy ⊢; exact h.put hg rfl hy rfl hec (fun _ => rfl) same
theorem B0W : TabOk 0 ([] : List EnV) := ⟨rfl, by omega, fun x hx => by simp at hx, by decide +kernel⟩
theorem GI.new {c : CfgV} (hok : N1 c = true) (who : Int) (text : ByteArray) (ht : text.size ≤ 100) : GI c.sh.toNat 0 (A1j who text) (L0 c) := by
 have hw := B79 hok
 simp only [N1, Z8, Bool.and_eq_true, decide_eq_true_eq] at hok
 have e0 : D3 (L0 c).cells 0 = 0 := A1Z _ _
 have e1 : D3 (L0 c).cells 1 = 0 := A1Z _ _
 refine ⟨hw, by omega, by show c.sh = _; omega, by simp [L0], fun t h => ?_, by simp [L0], by simp [L0], Or.inl B0W, by rw [e0]; omega, by rw [e1]; omega, by simp [L0], ht, by simp [A1j, Z1], by simp only [A1j]; omega, by simp [A1j], by simp [A1j], by simp [A1j], fun h => by simp [A1j] at h⟩
 rw [(List.mem_replicate.1 (show t ∈ List.replicate c.sh.toNat (newE c.cp.toNat) from h)).2]
 exact TabOk.new (n := c.cp.toNat) (by omega)
structure XI (E : Nat) (y : XS) : Prop where
 sh : 1 ≤ y.c.sh ∧ y.c.sh ≤ 16
 csl : y.c.sl ≤ 8
 now : 0 ≤ y.now ∧ y.now ≤ 1000000000
 locks : (y.locks.length : Int) = y.c.sh
 sl : y.sl.length ≤ 8
 ep : 0 ≤ y.ep ∧ y.ep ≤ E
theorem C3V (l : List Y9) (i : Int) (p : List F2) (x : Option Addr × Nat × Nat) : (A5P l i p x).length = l.length := by unfold A5P; split; exact B0m _ _ _; rfl
theorem XI.hap {E : Nat} {y : XS} (h : XI E y) (a : ActV) : XI (E + 1) (A1y a y) := by
 have hep := h.ep
 have up : XI (E + 1) y := { h with ep := by omega }
 unfold A1y
 split
 ·exact { up with ep := by simp only; omega }
 split
 ·split
  ·exact { up with locks := by simp only [List.length_set]; exact h.locks }
  ·exact up
 split
 ·split
  ·exact { up with locks := by simp only [List.length_set]; exact h.locks }
  ·exact up
 split
 ·refine { up with sl := ?_ }
  simp only
  split
  ·rw [C3V, show (A7T y.sl a.n).length = y.sl.length from B0m _ _ _]; exact h.sl
  ·exact h.sl
 split
 ·exact { up with sl := by simp only; rw [show (B8f y.sl a.n).length = y.sl.length from B0m _ _ _]; exact h.sl }
 split
 ·split
  ·exact { up with }
  ·exact up
 split
 ·exact { up with now := B7r h.now }
 ·exact up
theorem XI.lk {E : Nat} {y : XS} (h : XI E y) {l : List Int} (hl : (l.length : Int) = y.c.sh) : XI E { y with locks := l } := { h with locks := hl }
end Go.Proofs.YtpnidmkaobfhiaaGreat
namespace Go.Proofs.YtpnidmkaobfhiaaGreat
open Go
structure XRel (x : WS) (y : XS) : Prop where
 c : y.c = x.c
 ep : y.ep = D3 x.cells 0
 cur : y.cur = D3 x.cells 1
 pl : (y.pins.length : Int) = x.c.wk + 1
 pins : ∀ i : Nat, 1 ≤ i → (i : Int) ≤ x.c.wk → y.pins.getD i 0 = D3 x.cells (1 + i)
 locks : y.locks = x.own
 sl : rsV y.sl = x.sl
 keep : y.keep = x.keep
 tabs : y.tabs = x.tabs
 places : y.pl = x.places
 now : y.now = x.now
def V2 (x : WS) : Prop := ∀ i : Nat, i < x.own.length → x.own.getD i 0 < 0 → x.own.getD i 0 = -1
theorem B4P (l : List Y9) (i : Int) (r : Y9) : rsV (A4B l i r) = Q3 (rsV l) i r.1 := by
 unfold A4B Q3 rsV
 rw [List.length_map]
 by_cases c : 0 ≤ i ∧ i < l.length
 ·rw [if_pos c, if_pos c, List.map_set]
 ·rw [if_neg c, if_neg c]
theorem C4q (l : List Y9) (i : Int) (p : List F2) (q : Option Addr × Nat × Nat) : rsV (A5P l i p q) = l3 (rsV l) i p := by
 unfold A5P flR C8Z l3
 cases h : N3 (rsV l) i with
 | no => simp
 | rdy p => simp
 | bld =>
  by_cases c : L8 p = 0
  ·simp [c, B4P]
  ·simp [c]
theorem C6d (l : List Y9) (i : Int) (p : List F2) (q : Option Addr × Nat × Nat) : rsV (if isI l.length i then A5P (A7T l i) i p q else l) = l3 (Q3 (rsV l) i .bld) i p := by
 cases h : isI l.length i with
 | true => rw [if_pos rfl, C4q]; unfold A7T; rw [B4P]
 | false =>
  rw [if_neg (by simp)]
  have hn : ¬ (0 ≤ i ∧ i < (rsV l).length) := by
   intro g
   rw [show (rsV l).length = l.length from List.length_map _] at g
   simp [isI] at h; omega
  unfold l3 N3 Q3
  rw [if_neg hn, if_neg hn]
theorem XRel.hap {x : WS} {y : XS} (h : XRel x y) (hok : WsOk x) (hf : V2 x) (hep : 0 ≤ D3 x.cells 0 ∧ D3 x.cells 0 ≤ 1000000) (a : ActV) (hsh : (x.own.length : Int) = x.c.sh) : XRel (j4 a x y) (A1y a y) ∧ V2 (j4 a x y) := by
 have hcl := hok.cells
 have hwk := hok.wk
 unfold j4 A1y
 by_cases k1 : a.k = 1
 ·rw [if_pos k1, if_pos k1]
  have e0 : D3 (M5 x.cells 0 (IntKind.i64.wrap (D3 x.cells 0 + 1))) 0 = D3 x.cells 0 + 1 := by
   rw [b8, if_pos (by omega)]; exact T2 (by omega) (by omega)
  exact ⟨{ h with ep := by simp only; rw [e0, h.ep], cur := by simp only; rw [Q6 _ _ (by omega)]; exact h.cur, pins := fun i h1 h2 => by simp only; rw [Q6 _ _ (by omega)]; exact h.pins i h1 h2 }, hf⟩
 rw [if_neg k1, if_neg k1]
 by_cases k2 : a.k = 2
 ·rw [if_pos k2, if_pos k2]
  by_cases c : (0 ≤ a.n ∧ a.n < y.c.sh) ∧ y.locks.getD a.n.toNat 0 < 0
  case neg => rw [if_neg c, if_neg c]; exact ⟨h, hf⟩
  rw [if_pos c, if_pos c]
  obtain ⟨n, hn⟩ : ∃ n : Nat, a.n = n := ⟨a.n.toNat, by omega⟩
  rw [hn, h.c, h.locks, Int.toNat_natCast] at c
  have hnl : n < x.own.length := by omega
  have hlo : Q4 x.own a.n 99 = x.own.set n 99 := by
   unfold Q4; rw [if_pos (by omega), hn, W2 hnl, if_pos (hf n hnl c.2)]
  refine ⟨{ h with locks := by simp only; rw [hlo, hn, Int.toNat_natCast, h.locks] }, fun i hi g => ?_⟩
  simp only [hlo, List.length_set] at hi g ⊢
  rw [K1 (by omega)] at g ⊢
  by_cases d : n = i
  ·rw [if_pos d] at g; omega
  ·rw [if_neg d] at g ⊢; exact hf i hi g
 rw [if_neg k2, if_neg k2]
 by_cases k3 : a.k = 3
 ·rw [if_pos k3, if_pos k3]
  by_cases c : (0 ≤ a.n ∧ a.n < y.c.sh) ∧ y.locks.getD a.n.toNat 0 = 99
  case neg => rw [if_neg c, if_neg c]; exact ⟨h, hf⟩
  rw [if_pos c, if_pos c]
  obtain ⟨n, hn⟩ : ∃ n : Nat, a.n = n := ⟨a.n.toNat, by omega⟩
  rw [hn, h.c, h.locks, Int.toNat_natCast] at c
  have hnl : n < x.own.length := by omega
  have hlo : H7 x.own a.n 99 = x.own.set n (-1) := by
   unfold H7; rw [if_pos (by omega), hn, W2 hnl, if_pos c.2]
  refine ⟨{ h with locks := by simp only; rw [hlo, hn, Int.toNat_natCast, h.locks] }, fun i hi g => ?_⟩
  simp only [hlo, List.length_set] at hi g ⊢
  rw [K1 (by omega)] at g ⊢
  by_cases d : n = i
  ·rw [if_pos d]
  ·rw [if_neg d] at g ⊢; exact hf i hi g
 rw [if_neg k3, if_neg k3]
 by_cases k4 : a.k = 4
 ·rw [if_pos k4, if_pos k4]
  exact ⟨{ h with sl := by simp only; rw [C6d, h.sl] }, hf⟩
 rw [if_neg k4, if_neg k4]
 by_cases k5 : a.k = 5
 ·rw [if_pos k5, if_pos k5]
  exact ⟨{ h with sl := by simp only; unfold B8f; rw [B4P, h.sl]; rfl }, hf⟩
 rw [if_neg k5, if_neg k5]
 by_cases k6 : a.k = 6
 ·rw [if_pos k6, if_pos k6]
  by_cases c : -1 ≤ a.n ∧ a.n < y.c.sl
  case neg => rw [if_neg c, if_neg c]; exact ⟨h, hf⟩
  rw [if_pos c, if_pos c]
  exact ⟨{ h with ep := by simp only; rw [Q6 _ _ (by omega)]; exact h.ep, cur := by simp only; rw [b8, if_pos (by omega)], pins := fun i h1 h2 => by simp only; rw [Q6 _ _ (by omega)]; exact h.pins i h1 h2 }, hf⟩
 rw [if_neg k6, if_neg k6]
 by_cases k7 : a.k = 7
 ·rw [if_pos k7, if_pos k7]
  exact ⟨{ h with now := by simp only; rw [h.now] }, hf⟩
 rw [if_neg k7, if_neg k7]
 exact ⟨h, hf⟩
def stX (q : Nat) (j : JW) (y : XS) : XS :=
 match q with
 | 1 => { y with pins := y.pins.set j.who.toNat (j.ep + 1) }
 | 3 => { y with locks := y.locks.set j.shard.toNat j.who }
 | 7 => { y with tabs := y.tabs.set j.shard.toNat j.table }
 | 8 => { y with locks := y.locks.set j.shard.toNat (-1) }
 | 9 => { y with pins := y.pins.set j.who.toNat 0 }
 | _ => y
structure JobX (N : Nat) (j : JW) (x : WS) : Prop where
 pin : 1 ≤ j.st → j.st < 10 → 1 ≤ j.who ∧ j.who ≤ x.c.wk
 own : 4 ≤ j.st → j.st ≤ 8 → x.own.getD j.shard.toNat 0 = j.who
theorem XRel.stage {N E : Nat} {j : JW} {x : WS} {y : XS} (h : XRel x y) (hf : V2 x) (hg : GI N E j x) (hE : E ≤ 1000) (hj : JobX N j x) (q : Nat) (hq : q < 10) (hs : j.st = (q : Nat)) (hr : j.ready x = true) :
  XRel (D7 q { j with st := j.st + 1 } x).2.1 (stX q j y) ∧ V2 (D7 q { j with st := j.st + 1 } x).2.1 ∧ JobX N (D7 q { j with st := j.st + 1 } x).1 (D7 q { j with st := j.st + 1 } x).2.1 := by
 have hcase : q = 0 ∨ q = 1 ∨ q = 2 ∨ q = 3 ∨ q = 4 ∨ q = 5 ∨ q = 6 ∨ q = 7 ∨ q = 8 ∨ q = 9 := by omega
 have hcl := hg.ok.cells
 have hwk := hg.ok.wk
 have how := hg.ow
 have hsd := hg.shard
 have hje := hg.jep
 have hpl := h.pl
 have hn := hg.n
 have hpin := hj.pin
 have hown := hj.own
 obtain ⟨sd, hsd2⟩ : ∃ n : Nat, j.shard = n := ⟨j.shard.toNat, by omega⟩
 rcases hcase with rfl | rfl | rfl | rfl | rfl | rfl | rfl | rfl | rfl | rfl
 ·show XRel (jw0 _ x).2.1 y ∧ V2 (jw0 _ x).2.1 ∧ JobX N (jw0 _ x).1 (jw0 _ x).2.1
  unfold jw0
  by_cases c1 : G7 x.c j.who < 0
  ·rw [if_pos c1]; exact ⟨h, hf, fun _ (g : (10 : Int) < 10) => by omega, fun _ (g : (10 : Int) ≤ 8) => by omega⟩
  rw [if_neg c1]
  by_cases c2 : (C7 j.text).2.2 = 0
  ·rw [if_neg (by simpa using c2)]
   refine ⟨h, hf, fun _ _ => ?_, fun (g : 4 ≤ j.st + 1) => by omega⟩
   simp only [JW.rd]
   unfold G7 at c1; split at c1 <;> omega
  ·rw [if_pos c2]; exact ⟨h, hf, fun _ (g : (10 : Int) < 10) => by omega, fun _ (g : (10 : Int) ≤ 8) => by omega⟩
 ·have hp := hpin (by omega) (by omega)
  obtain ⟨w, hw⟩ : ∃ n : Nat, j.who = n := ⟨j.who.toNat, by omega⟩
  have hpi : G7 x.c j.who = 1 + (w : Nat) := by unfold G7; rw [if_neg (by omega), hw]
  rw [show D7 1 { j with st := j.st + 1 } x = ({ j with st := j.st + 1 }, { x with cells := M5 x.cells (G7 x.c j.who) (IntKind.i64.wrap (j.ep + 1)) }, noT) from rfl, T2 (by omega) (by omega), hpi]
  refine ⟨{ h with ep := by simp only [stX]; rw [Q6 _ _ (by omega)]; exact h.ep, cur := by simp only [stX]; rw [Q6 _ _ (by omega)]; exact h.cur, pl := by simp only [stX, List.length_set]; exact h.pl, pins := fun i h1 h2 => ?_ }, hf, fun _ _ => hp, fun (g : 4 ≤ j.st + 1) => by omega⟩
  simp only [stX, hw, Int.toNat_natCast]
  rw [K1 (by omega), B1G]
  by_cases d : w = i
  ·rw [if_pos d, if_pos (by omega)]
  ·rw [if_neg d, if_neg (by omega)]; exact h.pins i h1 h2
 ·have hp := hpin (by omega) (by omega)
  show XRel (jw2 _ x).2.1 y ∧ V2 (jw2 _ x).2.1 ∧ JobX N (jw2 _ x).1 (jw2 _ x).2.1
  unfold jw2
  split
  ·exact ⟨h, hf, fun _ _ => hp, fun (g : 4 ≤ j.st + 1) => by omega⟩
  ·exact ⟨h, hf, fun _ _ => hp, fun (g : (4 : Int) ≤ 1) => by omega⟩
 ·have hp := hpin (by omega) (by omega)
  have hnl : sd < x.own.length := by omega
  have hfr : x.own.getD sd 0 = -1 := by
   refine hf sd hnl ?_
   unfold JW.ready at hr
   rw [hs, hsd2, A4x hnl] at hr
   simpa using hr
  have hlo : Q4 x.own j.shard j.who = x.own.set sd j.who := by
   unfold Q4; rw [if_pos (by omega), hsd2, W2 hnl, if_pos hfr]
  rw [show D7 3 { j with st := j.st + 1 } x = ({ j with st := j.st + 1 }, { x with own := Q4 x.own j.shard j.who }, noT) from rfl, hlo]
  refine ⟨{ h with locks := by simp only [stX, hsd2, Int.toNat_natCast]; rw [h.locks] }, fun i hi g => ?_, fun _ _ => hp, fun _ _ => ?_⟩
  ·simp only [List.length_set] at hi g ⊢
   rw [K1 (by omega)] at g ⊢
   by_cases d : sd = i
   ·rw [if_pos d] at g; omega
   ·rw [if_neg d] at g ⊢; exact hf i hi g
  ·simp only [hsd2, Int.toNat_natCast]
   rw [K1 (by omega), if_pos rfl]
 ·have hp := hpin (by omega) (by omega)
  have ho := hown (by omega) (by omega)
  exact ⟨h, hf, fun _ _ => hp, fun _ _ => ho⟩
 ·have hp := hpin (by omega) (by omega)
  have ho := hown (by omega) (by omega)
  exact ⟨h, hf, fun _ _ => hp, fun _ _ => ho⟩
 ·have hp := hpin (by omega) (by omega)
  have ho := hown (by omega) (by omega)
  exact ⟨h, hf, fun _ _ => hp, fun _ _ => ho⟩
 ·have hp := hpin (by omega) (by omega)
  have ho := hown (by omega) (by omega)
  exact ⟨{ h with tabs := by show y.tabs.set _ _ = x.tabs.set _ _; rw [h.tabs] }, hf, fun _ _ => hp, fun _ _ => ho⟩
 ·have hp := hpin (by omega) (by omega)
  have ho := hown (by omega) (by omega)
  have hnl : sd < x.own.length := by omega
  rw [hsd2, Int.toNat_natCast] at ho
  have hlo : H7 x.own j.shard j.who = x.own.set sd (-1) := by
   unfold H7; rw [if_pos (by omega), hsd2, W2 hnl, if_pos ho]
  rw [show D7 8 { j with st := j.st + 1 } x = ({ j with st := j.st + 1 }, { x with own := H7 x.own j.shard j.who }, noT) from rfl, hlo]
  refine ⟨{ h with locks := by simp only [stX, hsd2, Int.toNat_natCast]; rw [h.locks] }, fun i hi g => ?_, fun _ _ => hp, fun _ (g : j.st + 1 ≤ 8) => by omega⟩
  simp only [List.length_set] at hi g ⊢
  rw [K1 (by omega)] at g ⊢
  by_cases d : sd = i
  ·rw [if_pos d]
  ·rw [if_neg d] at g ⊢; exact hf i hi g
 ·have hp := hpin (by omega) (by omega)
  obtain ⟨w, hw⟩ : ∃ n : Nat, j.who = n := ⟨j.who.toNat, by omega⟩
  have hpi : G7 x.c j.who = 1 + (w : Nat) := by unfold G7; rw [if_neg (by omega), hw]
  rw [show D7 9 { j with st := j.st + 1 } x = ({ j with st := j.st + 1 }, { x with cells := M5 x.cells (G7 x.c j.who) 0 }, false, true, false) from rfl, hpi]
  refine ⟨{ h with ep := by simp only [stX]; rw [Q6 _ _ (by omega)]; exact h.ep, cur := by simp only [stX]; rw [Q6 _ _ (by omega)]; exact h.cur, pl := by simp only [stX, List.length_set]; exact h.pl, pins := fun i h1 h2 => ?_ }, hf, fun _ (g : j.st + 1 < 10) => by omega, fun _ (g : j.st + 1 ≤ 8) => by omega⟩
  simp only [stX, hw, Int.toNat_natCast]
  rw [K1 (by omega), B1G]
  by_cases d : w = i
  ·rw [if_pos d, if_pos (by omega)]
  ·rw [if_neg d, if_neg (by omega)]; exact h.pins i h1 h2
theorem JobX.hap {N : Nat} {j : JW} {x : WS} {y : XS} (h : JobX N j x) (hr : XRel x y) (hf : V2 x) (hwk : x.c.wk ≤ 64) (a : ActV) (hsh : (x.own.length : Int) = x.c.sh) (hsd : 0 ≤ j.shard ∧ j.shard < x.c.sh) : JobX N j (j4 a x y) := by
 have hpin := h.pin
 have hown := h.own
 obtain ⟨sd, hsd2⟩ : ∃ n : Nat, j.shard = n := ⟨j.shard.toNat, by omega⟩
 unfold j4
 by_cases k1 : a.k = 1
 ·rw [if_pos k1]; exact ⟨hpin, hown⟩
 rw [if_neg k1]
 by_cases k2 : a.k = 2
 ·rw [if_pos k2]
  by_cases c : (0 ≤ a.n ∧ a.n < y.c.sh) ∧ y.locks.getD a.n.toNat 0 < 0
  case neg => rw [if_neg c]; exact h
  rw [if_pos c]
  obtain ⟨n, hn⟩ : ∃ n : Nat, a.n = n := ⟨a.n.toNat, by omega⟩
  rw [hn, hr.c, hr.locks, Int.toNat_natCast] at c
  have hnl : n < x.own.length := by omega
  have hlo : Q4 x.own a.n 99 = x.own.set n 99 := by
   unfold Q4; rw [if_pos (by omega), hn, W2 hnl, if_pos (hf n hnl c.2)]
  refine ⟨hpin, fun g1 g2 => ?_⟩
  have hp := hpin (by omega) (by omega)
  have ho := hown g1 g2
  rw [hsd2, Int.toNat_natCast] at ho ⊢
  simp only [hlo]
  rw [K1 (by omega)]
  by_cases d : n = sd
  ·subst d; omega
  ·rw [if_neg d]; exact ho
 rw [if_neg k2]
 by_cases k3 : a.k = 3
 ·rw [if_pos k3]
  by_cases c : (0 ≤ a.n ∧ a.n < y.c.sh) ∧ y.locks.getD a.n.toNat 0 = 99
  case neg => rw [if_neg c]; exact h
  rw [if_pos c]
  obtain ⟨n, hn⟩ : ∃ n : Nat, a.n = n := ⟨a.n.toNat, by omega⟩
  rw [hn, hr.c, hr.locks, Int.toNat_natCast] at c
  have hnl : n < x.own.length := by omega
  have hlo : H7 x.own a.n 99 = x.own.set n (-1) := by
   unfold H7; rw [if_pos (by omega), hn, W2 hnl, if_pos c.2]
  refine ⟨hpin, fun g1 g2 => ?_⟩
  have hp := hpin (by omega) (by omega)
  have ho := hown g1 g2
  rw [hsd2, Int.toNat_natCast] at ho ⊢
  simp only [hlo]
  rw [K1 (by omega)]
  by_cases d : n = sd
  ·subst d; omega
  ·rw [if_neg d]; exact ho
 rw [if_neg k3]
 by_cases k4 : a.k = 4
 ·rw [if_pos k4]; exact ⟨hpin, hown⟩
 rw [if_neg k4]
 by_cases k5 : a.k = 5
 ·rw [if_pos k5]; exact ⟨hpin, hown⟩
 rw [if_neg k5]
 by_cases k6 : a.k = 6
 ·rw [if_pos k6]; split
  ·exact ⟨hpin, hown⟩
  ·exact h
 rw [if_neg k6]
 by_cases k7 : a.k = 7
 ·rw [if_pos k7]; exact ⟨hpin, hown⟩
 rw [if_neg k7]; exact h
theorem XRel.new {c : CfgV} (hok : N1 c = true) {y : XS} (h1 : y.c = c) (h2 : y.ep = 0) (h3 : y.cur = 0) (h4 : y.pins = List.replicate (c.wk.toNat + 1) 0) (h5 : y.locks = List.replicate c.sh.toNat (-1)) (h6 : y.sl = List.replicate c.sl.toNat noR) (h7 : y.keep = List.replicate c.sl.toNat (0, 0))
  (h8 : y.tabs = List.replicate c.sh.toNat (newE c.cp.toNat)) (h9 : y.pl = List.replicate c.sh.toNat 0) (h10 : y.now = 0) : XRel (L0 c) y ∧ V2 (L0 c) := by
 simp only [N1, Z8, Bool.and_eq_true, decide_eq_true_eq] at hok
 refine ⟨⟨h1, by rw [h2]; exact (A1Z _ _).symm, by rw [h3]; exact (A1Z _ _).symm, by rw [h4, List.length_replicate]; show _ = c.wk + 1; omega, fun i _ g => ?_, h5, by rw [h6]; simp [L0, rsV, noR], h7, h8, h9, h10⟩, fun i hi _ => ?_⟩
 ·rw [h4]
  have g : (i : Int) ≤ c.wk := g
  rw [show D3 (L0 c).cells (1 + i) = 0 from A1Z _ _, List.getD_eq_getElem?_getD, List.getElem?_replicate_of_lt (by omega)]; rfl
 ·have hi : i < c.sh.toNat := by simpa [L0] using hi
  show (List.replicate c.sh.toNat (-1 : Int)).getD i 0 = -1
  rw [List.getD_eq_getElem?_getD, List.getElem?_replicate_of_lt hi]; rfl
theorem JobX.new (N : Nat) (who : Int) (text : ByteArray) (x : WS) : JobX N (A1j who text) x := ⟨fun h => by simp [A1j] at h, fun h => by simp [A1j] at h⟩
end Go.Proofs.YtpnidmkaobfhiaaGreat
namespace Go.Proofs.YtpnidmkaobfhiaaGreat
open Go
abbrev WI (N E : Nat) (x : WS) : Prop := GI N E (A1j 0 ByteArray.empty) x
theorem WI.up2 {N E : Nat} {x : WS} (h : WI N E x) : WI N (E + 1) x := { h with ep := by have := h.ep; omega, jep := by have := h.jep; omega }
structure KpI (x : WS) : Prop where
 len : x.keep.length = x.sl.length
 z : ∀ y ∈ x.keep, y.1 = 0 → y.2 = 0
def holds (o : List Int) (i : Nat) (who : Int) : Prop := o.getD i 0 = who ∨ (who = 99 ∧ o.getD i 0 = -1)
def JvI (N : Nat) (x : WS) : JV → Prop
 | .upd j => (-1 ≤ j.b.st ∧ j.b.st ≤ x.c.wk + 4) ∧ (j.pins.length : Int) ≤ x.c.wk ∧ (0 ≤ j.b.st → (j.pins.length : Int) ≤ j.b.st) ∧ (-1 ≤ j.slot ∧ j.slot ≤ 8) ∧ (0 ≤ j.old ∧ j.old ≤ 500)
 | .exp j => 0 ≤ j.b.who ∧ (-1 ≤ j.b.st ∧ j.b.st ≤ 3) ∧ (TabOk 0 j.table ∨ TabOk x.c.cp.toNat j.table) ∧ (2 ≤ j.b.st → TabOk x.c.cp.toNat j.table) ∧ (1 ≤ j.b.st → (0 ≤ j.shard ∧ j.shard < N) ∧ holds x.own j.shard.toNat j.b.who)
 | .sta b => 0 ≤ b.who ∧ (-1 ≤ b.st ∧ b.st < 3 * (N : Int)) ∧ ∀ i : Nat, i < N → (i : Int) < b.st → b.st ≤ 2 * (N : Int) + i → holds x.own i b.who
 | .non b => b.st = 0 ∨ b.st = -1
structure CI (N E : Nat) (j : JV) (x : WS) : Prop where
 w : WI N E x
 j : JvI N x j
 f : V2 x
 k : KpI x
 cp : 1 ≤ x.c.cp
theorem A2E {o : List Int} {i : Nat} {who : Int} (hi : i < o.length) (hw : 0 ≤ who) (h : holds o i who) : H7 o (i : Nat) who = o.set i (-1) := by
 unfold H7
 rw [if_pos hw, W2 hi]
 rcases h with h | ⟨rfl, h⟩
 ·rw [if_pos h]
 ·rw [if_neg (by omega)]
  refine A09 (by rw [List.length_set]) fun j hj => ?_
  rw [K1 hi]
  by_cases c : i = j
  ·rw [if_pos c, ← c, h]
  ·rw [if_neg c]
theorem A5c {o : List Int} {i : Nat} {who : Int} (hi : i < o.length) (hw : 0 ≤ who) (h : o.getD i 0 = -1) : Q4 o (i : Nat) who = o.set i who := by
 unfold Q4; rw [if_pos hw, W2 hi, if_pos h]
theorem V2.set2 {o : List Int} {i : Nat} {v : Int} (h : ∀ i : Nat, i < o.length → o.getD i 0 < 0 → o.getD i 0 = -1) (hi : i < o.length) (hv : -1 ≤ v) : ∀ k : Nat, k < (o.set i v).length → (o.set i v).getD k 0 < 0 → (o.set i v).getD k 0 = -1 := fun k hk g => by
 rw [List.length_set] at hk
 rw [K1 hi] at g ⊢
 by_cases d : i = k
 ·rw [if_pos d] at g ⊢; omega
 ·rw [if_neg d] at g ⊢; exact h k hk g
theorem A5K {o : List Int} {i k : Nat} {who v : Int} (hi : i < o.length) (h : holds o k who) (hne : i ≠ k) : holds (o.set i v) k who := by
 unfold holds at h ⊢; rw [K1 hi, if_neg hne]; exact h
theorem B90 {l : List (Int × Int)} {i a : Int} {s : Int × Int} (h : ∀ y ∈ l, y.1 = 0 → y.2 = 0) (hs : s.1 = 0 → s.2 = 0) : ∀ y ∈ A2x l i a s, y.1 = 0 → y.2 = 0 := fun y hy => by
 unfold A2x at hy
 split at hy
 ·rcases List.mem_or_eq_of_mem_set hy with hy | rfl
  ·exact h y hy
  ·exact hs
 ·exact h y hy
theorem C5m {l : List (Int × Int)} (h : ∀ y ∈ l, y.1 = 0 → y.2 = 0) : ∀ y ∈ M1 l, y.1 = 0 → y.2 = 0 := fun y hy => by
 unfold M1 at hy
 split at hy
 ·exact h y hy
 ·rcases List.mem_or_eq_of_mem_set hy with hy | rfl
  ·exact h y hy
  ·intro g; simp at g
theorem C8M {N E : Nat} {j : JU} {x : WS} (h : CI N E (.upd j) x) (hE : E ≤ 1000) (hst : j.b.st ≠ -1) : CI N (E + 1) (.upd (E9 j x).1) (E9 j x).2.1 := by
 obtain ⟨hw, ⟨s1, s2, s3, s4, s5⟩, hf, hk, hcp⟩ := h
 have hwu := hw.up2
 have hwk := hw.ok.wk
 have hcl := hw.ok.cells
 have hep := hw.ep
 have hcu := hw.cur
 have ht := B7q x.keep
 have hks := hw.ok.keep
 have s3' := s3 (by omega)
 unfold E9
 by_cases c1 : j.b.st = 0 ∧ S0 j ≠ 0
 ·rw [if_pos c1]
  exact ⟨hwu, ⟨⟨by simp [JB.refuse], by simp only [JB.refuse]; omega⟩, s2, fun g => absurd g (by simp [JB.refuse]), s4, s5⟩, hf, hk, hcp⟩
 rw [if_neg c1]
 by_cases c2 : j.b.st = 0 ∨ j.b.st - x.c.wk < 0
 ·rw [if_pos c2]
  refine ⟨hwu, ⟨?_, ?_, fun _ => ?_, s4, s5⟩, hf, hk, hcp⟩
  ·simp only [E1]; omega
  ·simp only [List.length_append, List.length_singleton]; omega
  ·simp only [E1, List.length_append, List.length_singleton]; omega
 rw [if_neg c2]
 by_cases d0 : j.b.st - x.c.wk = 0
 ·rw [if_pos d0]
  unfold S4
  by_cases e1 : 0 ≤ S2 x.keep j.pins
  ·rw [if_pos e1]
   exact ⟨{ hwu with ok := ⟨hw.ok.wk, hw.ok.cells, hw.ok.own, by simp only [W9]; exact hw.ok.sl, by simp only [A38, A1W]; exact hw.ok.keep⟩ }, ⟨s1, s2, s3, s4, s5⟩, hf, ⟨by simp only [A38, A1W, W9]; exact hk.len, B90 hk.z fun _ => rfl⟩, hcp⟩
  rw [if_neg e1]
  by_cases e2 : G4 x.keep < 0
  ·rw [if_pos e2]
   exact ⟨hwu, ⟨⟨by simp [JB.refuse], by simp only [JB.refuse]; omega⟩, s2, fun g => absurd g (by simp [JB.refuse]), by simp only; omega, s5⟩, hf, hk, hcp⟩
  rw [if_neg e2]
  exact ⟨{ hwu with ok := ⟨hw.ok.wk, hw.ok.cells, hw.ok.own, by simp only [W9]; exact hw.ok.sl, by simp only [A1n]; exact hw.ok.keep⟩ }, ⟨by simp only; omega, s2, fun _ => by simp only; omega, by simp only; omega, s5⟩, hf, ⟨by simp only [A1n, W9]; exact hk.len, C5m hk.z⟩, hcp⟩
 rw [if_neg d0]
 by_cases d1 : j.b.st - x.c.wk = 1
 ·rw [if_pos d1]
  exact ⟨{ hwu with ok := ⟨hw.ok.wk, hw.ok.cells, hw.ok.own, by simp only [A3V]; exact hw.ok.sl, hw.ok.keep⟩ }, ⟨by simp only [E1]; omega, s2, fun _ => by simp only [E1]; omega, s4, s5⟩, hf, ⟨by simp only [A3V]; exact hk.len, hk.z⟩, hcp⟩
 rw [if_neg d1]
 by_cases d2 : j.b.st - x.c.wk = 2
 ·rw [if_pos d2]
  exact ⟨hwu, ⟨by simp only [E1]; omega, s2, fun _ => by simp only [E1]; omega, s4, by simp only; omega⟩, hf, hk, hcp⟩
 rw [if_neg d2]
 by_cases d3 : j.b.st - x.c.wk = 3
 ·rw [if_pos d3]
  refine ⟨{ hwu with ok := ⟨hw.ok.wk, by simp only [c7]; exact hcl, hw.ok.own, hw.ok.sl, hw.ok.keep⟩, ep := by simp only; rw [Q6 _ _ (by omega)]; omega, cur := by simp only; rw [b8, if_pos (by omega)]; omega }, ⟨by simp only [E1]; omega, s2, fun _ => by simp only [E1]; omega, s4, s5⟩, hf, ⟨hk.len, hk.z⟩, hcp⟩
 rw [if_neg d3]
 unfold A4f
 have e0 : D3 (M5 x.cells 0 (IntKind.i64.wrap (D3 x.cells 0 + 1))) 0 = D3 x.cells 0 + 1 := by
  rw [b8, if_pos (by omega)]; exact T2 (by omega) (by omega)
 have hkl : (if 0 < (E1 j).old then A6W x.keep ((E1 j).old - 1) (IntKind.i64.wrap (D3 x.cells 0 + 1)) else x.keep).length = x.keep.length := by
  split
  ·simp only [A6W, A1W]
  ·rfl
 refine ⟨{ hwu with ok := ⟨hw.ok.wk, by simp only [c7]; exact hcl, hw.ok.own, hw.ok.sl, by simp only; rw [hkl]; exact hks⟩, ep := by simp only; rw [e0]; omega, cur := by simp only; rw [Q6 _ _ (by omega)]; omega }, ⟨⟨by simp, by simp only; omega⟩, s2, fun g => absurd g (by simp), s4, s5⟩, hf, ⟨by simp only; rw [hkl]; exact hk.len, ?_⟩, hcp⟩
 simp only
 split
 ·exact B90 hk.z fun g => absurd g (by simp)
 ·exact hk.z
theorem B6Z {N : Nat} {x : WS} (hl : x.tabs.length = N) {i : Int} : l8 x i = false ↔ ¬ (0 ≤ i ∧ i < N) := by
 unfold l8; rw [hl, Bool.and_eq_false_iff, decide_eq_false_iff_not, decide_eq_false_iff_not]; omega
theorem C2b {j : JE} {x : WS} (hf : V2 x) (hr : (JV.exp j).ready x = true) (d0 : j.b.st = 0) {s : Nat} (hs : j.shard = s) (hl : s < x.own.length) : x.own.getD s 0 = -1 := by
 simp [JV.ready, JV.waits, JV.b, d0, hs] at hr
 rw [A4x hl] at hr
 exact hf s hl hr
theorem C2r {b : JB} {x : WS} {N : Nat} (htl : x.tabs.length = N) (hf : V2 x) (hr : (JV.sta b).ready x = true) {s : Nat} (hs : b.st = s) (hN : s < N) (hl : s < x.own.length) : x.own.getD s 0 = -1 := by
 have h1 : b.st < (x.tabs.length : Int) := by omega
 have h2 : ¬ b.st = -1 := by omega
 simp [JV.ready, JV.waits, JV.b, h1, h2] at hr
 rw [hs, A4x hl] at hr
 exact hf s hl hr
theorem C83 {N E : Nat} {j : JE} {x : WS} (h : CI N E (.exp j) x) (hr : (JV.exp j).ready x = true) : CI N (E + 1) (.exp (L5 j x).1) (L5 j x).2.1 := by
 obtain ⟨hw, ⟨s0, s1, s2, s3, s4⟩, hf, hk, hcp⟩ := h
 have hwu := hw.up2
 have how := hw.ow
 have htl := hw.tl
 have hst : j.b.st ≠ -1 := fun h => by simp [JV.ready, JV.b, h] at hr
 unfold L5
 by_cases c0 : l8 x j.shard = false
 ·rw [if_pos c0]
  exact ⟨hwu, ⟨s0, by simp [JB.refuse], s2, fun g => absurd g (by simp [JB.refuse]), fun g => absurd g (by simp [JB.refuse])⟩, hf, hk, hcp⟩
 rw [if_neg c0]
 have hin : 0 ≤ j.shard ∧ j.shard < N := Decidable.byContradiction fun g => c0 ((B6Z htl).2 g)
 obtain ⟨s, hs⟩ : ∃ s : Nat, j.shard = s := ⟨j.shard.toNat, by omega⟩
 have hsl : s < x.own.length := by omega
 by_cases d0 : j.b.st = 0
 ·rw [if_pos d0]
  have hfr := C2b hf hr d0 hs hsl
  rw [hs, A5c hsl s0 hfr]
  refine ⟨{ hwu with ok := ⟨hw.ok.wk, hw.ok.cells, by simp only [List.length_set]; exact hw.ok.own, hw.ok.sl, hw.ok.keep⟩, ow := by simp only [List.length_set]; exact how }, ⟨s0, by simp only [JE.up]; omega, s2, fun g => absurd g (by simp only [JE.up]; omega), fun _ => ⟨hin, ?_⟩⟩, V2.set2 hf hsl (by omega), ⟨hk.len, hk.z⟩, hcp⟩
  left
  simp only [JE.up, hs, Int.toNat_natCast]
  rw [K1 hsl, if_pos rfl]
 rw [if_neg d0]
 obtain ⟨_, hh⟩ := s4 (by omega)
 rw [hs, Int.toNat_natCast] at hh
 by_cases d1 : j.b.st = 1
 ·rw [if_pos d1]
  have key : TabOk x.c.cp.toNat (A0W x j.shard) := by
   unfold A0W
   rw [hs, Int.toNat_natCast, List.getD_eq_getElem?_getD, List.getElem?_eq_getElem (by omega)]
   exact hw.te _ (List.getElem_mem _)
  have key2 : TabOk x.c.cp.toNat (K9 (A0W x j.shard) (A3G x j.shard) 4 x.now).1 := (B0Q key (by omega)).1
  exact ⟨hwu, ⟨s0, by simp only; omega, Or.inr key2, fun _ => key2, fun _ => ⟨hin, by simp only [hs, Int.toNat_natCast]; exact hh⟩⟩, hf, hk, hcp⟩
 rw [if_neg d1]
 have key := s3 (by omega)
 by_cases d2 : j.b.st = 2
 ·rw [if_pos d2]
  refine ⟨{ hwu with ok := ⟨hw.ok.wk, hw.ok.cells, hw.ok.own, hw.ok.sl, hw.ok.keep⟩, tl := by simp only [List.length_set]; exact htl, pl := by simp only [List.length_set]; exact hw.pl, te := fun t ht => ?_ }, ⟨s0, by simp only [JE.up]; omega, Or.inr key, fun _ => key, fun _ => ⟨hin, by simp only [JE.up, hs, Int.toNat_natCast]; exact hh⟩⟩, hf, ⟨hk.len, hk.z⟩, hcp⟩
  rcases List.mem_or_eq_of_mem_set (show t ∈ x.tabs.set j.shard.toNat j.table from ht) with ht | rfl
  ·exact hw.te t ht
  ·exact key
 rw [if_neg d2]
 rw [hs, A2E hsl s0 hh]
 exact ⟨{ hwu with ok := ⟨hw.ok.wk, hw.ok.cells, by simp only [List.length_set]; exact hw.ok.own, hw.ok.sl, hw.ok.keep⟩, ow := by simp only [List.length_set]; exact how }, ⟨s0, by simp, s2, fun g => absurd g (by simp), fun g => absurd g (by simp)⟩, V2.set2 hf hsl (by omega), ⟨hk.len, hk.z⟩, hcp⟩
theorem C8e {N E : Nat} {b : JB} {x : WS} (h : CI N E (.sta b) x) (hr : (JV.sta b).ready x = true) : CI N (E + 1) (.sta (S3 b x).1) (S3 b x).2.1 := by
 obtain ⟨hw, ⟨s0, s1, s2⟩, hf, hk, hcp⟩ := h
 have hwu := hw.up2
 have how := hw.ow
 have htl := hw.tl
 have hst : b.st ≠ -1 := fun h => by simp [JV.ready, JV.b, h] at hr
 obtain ⟨k, hk0⟩ : ∃ k : Nat, b.st = k := ⟨b.st.toNat, by omega⟩
 have em : b.st % (N : Int) = ((k % N : Nat) : Int) := by rw [hk0]; rfl
 unfold S3
 simp only [htl, em]
 by_cases c0 : k < N
 ·have hmod : k % N = k := Nat.mod_eq_of_lt c0
  have hkl : k < x.own.length := by omega
  rw [if_pos (show b.st < (N : Int) by omega), hmod]
  have hfr := C2r htl hf hr hk0 c0 hkl
  rw [A5c hkl s0 hfr]
  refine ⟨{ hwu with ok := ⟨hw.ok.wk, hw.ok.cells, by simp only [List.length_set]; exact hw.ok.own, hw.ok.sl, hw.ok.keep⟩, ow := by simp only [List.length_set]; exact how }, ⟨s0, by simp only; omega, fun i hi h1 h2 => ?_⟩, V2.set2 hf hkl (by omega), ⟨hk.len, hk.z⟩, hcp⟩
  simp only at h1 h2 ⊢
  by_cases c : k = i
  ·subst c; left; rw [K1 hkl, if_pos rfl]
  ·exact A5K hkl (s2 i hi (by omega) (by omega)) c
 rw [if_neg (show ¬ b.st < (N : Int) by omega)]
 by_cases c1 : k < 2 * N
 ·rw [if_pos (show b.st < 2 * (N : Int) by omega)]
  exact ⟨hwu, ⟨s0, by simp only; omega, fun i hi h1 h2 => s2 i hi (by omega) (by simp only at h2; omega)⟩, hf, hk, hcp⟩
 rw [if_neg (show ¬ b.st < 2 * (N : Int) by omega)]
 obtain ⟨r, rfl⟩ : ∃ r, k = 2 * N + r := ⟨k - 2 * N, by omega⟩
 have hmod : (2 * N + r) % N = r := by rw [show 2 * N + r = r + N * 2 by omega, Nat.add_mul_mod_self_left]; exact Nat.mod_eq_of_lt (by omega)
 have hrl : r < x.own.length := by omega
 rw [hmod, A2E hrl s0 (s2 r (by omega) (by omega) (by omega))]
 have hW : WI N (E + 1) { x with own := x.own.set r (-1) } := { hwu with ok := ⟨hw.ok.wk, hw.ok.cells, by simp only [List.length_set]; exact hw.ok.own, hw.ok.sl, hw.ok.keep⟩, ow := by simp only [List.length_set]; exact how }
 by_cases c2 : ((r : Nat) : Int) = (N : Int) - 1
 ·rw [if_pos c2]
  exact ⟨hW, ⟨s0, by simp only; omega, fun i hi h1 h2 => absurd h1 (by simp only; omega)⟩, V2.set2 hf hrl (by omega), ⟨hk.len, hk.z⟩, hcp⟩
 ·rw [if_neg c2]
  refine ⟨hW, ⟨s0, by simp only; omega, fun i hi h1 h2 => ?_⟩, V2.set2 hf hrl (by omega), ⟨hk.len, hk.z⟩, hcp⟩
  simp only at h1 h2 ⊢
  exact A5K hrl (s2 i hi (by omega) (by omega)) (by omega)
theorem CI.up {N E : Nat} {j : JV} {x : WS} (h : CI N E j x) : CI N (E + 1) j x := ⟨h.w.up2, h.j, h.f, h.k, h.cp⟩
theorem A1H {j : JV} {x : WS} (h : j.ready x = true) : j.step x = j.step0 x := if_pos h
theorem A4g {j : JV} {x : WS} (h : j.ready x = false) : j.step x = (j, x, false, false, false) := if_neg (by rw [h]; decide)
theorem C2E {j : JV} {x : WS} (h : j.ready x = true) : j.b.st ≠ -1 := fun g => by simp [JV.ready, g] at h
theorem CI.step {N E : Nat} {j : JV} {x : WS} (h : CI N E j x) (hE : E ≤ 1000) : CI N (E + 1) (j.step x).1 (j.step x).2.1 := by
 cases hr : j.ready x with
 | false => rw [A4g hr]; exact h.up
 | true =>
  rw [A1H hr]
  have hst := C2E hr
  cases j with
  | upd j => exact C8M h hE hst
  | exp j => exact C83 h hr
  | sta b => exact C8e h hr
  | non b => exact ⟨h.w.up2, Or.inr rfl, h.f, h.k, h.cp⟩
theorem A7A (a : ActV) (x : WS) (y : XS) : (j4 a x y).c = x.c := by
 unfold j4
 repeat' split
 all_goals rfl
theorem B5A (a : ActV) (x : WS) (y : XS) : (j4 a x y).keep = x.keep := by
 unfold j4
 repeat' split
 all_goals rfl
theorem C63 (a : ActV) (x : WS) (y : XS) : (j4 a x y).sl.length = x.sl.length := by
 unfold j4
 repeat' split
 all_goals simp only [W9, A3V]
theorem B5a {x : WS} {y : XS} {who : Int} {i : Nat} (hr : XRel x y) (hf : V2 x) (hsh : (x.own.length : Int) = x.c.sh) (a : ActV) (hw : 0 ≤ who) (h : holds x.own i who) : holds (j4 a x y).own i who := by
 unfold j4
 by_cases k1 : a.k = 1
 ·rw [if_pos k1]; exact h
 rw [if_neg k1]
 by_cases k2 : a.k = 2
 ·rw [if_pos k2]
  by_cases c : (0 ≤ a.n ∧ a.n < y.c.sh) ∧ y.locks.getD a.n.toNat 0 < 0
  case neg => rw [if_neg c]; exact h
  rw [if_pos c]
  obtain ⟨n, hn⟩ : ∃ n : Nat, a.n = n := ⟨a.n.toNat, by omega⟩
  rw [hn, hr.c, hr.locks, Int.toNat_natCast] at c
  have hnl : n < x.own.length := by omega
  simp only [hn]
  rw [A5c hnl (by omega) (hf n hnl c.2)]
  by_cases d : n = i
  ·subst d
   rcases h with h | ⟨h1, h2⟩
   ·omega
   ·left; rw [K1 hnl, if_pos rfl, h1]
  ·exact A5K hnl h d
 rw [if_neg k2]
 by_cases k3 : a.k = 3
 ·rw [if_pos k3]
  by_cases c : (0 ≤ a.n ∧ a.n < y.c.sh) ∧ y.locks.getD a.n.toNat 0 = 99
  case neg => rw [if_neg c]; exact h
  rw [if_pos c]
  obtain ⟨n, hn⟩ : ∃ n : Nat, a.n = n := ⟨a.n.toNat, by omega⟩
  rw [hn, hr.c, hr.locks, Int.toNat_natCast] at c
  have hnl : n < x.own.length := by omega
  simp only [hn]
  rw [A2E hnl (by omega) (Or.inl c.2)]
  by_cases d : n = i
  ·subst d
   rcases h with h | ⟨h1, h2⟩
   ·right; exact ⟨by omega, by rw [K1 hnl, if_pos rfl]⟩
   ·omega
  ·exact A5K hnl h d
 rw [if_neg k3]
 repeat' split
 all_goals exact h
theorem CI.hap {N E : Nat} {j : JV} {x : WS} {y : XS} (h : CI N E j x) (hE : E ≤ 1000) (hr : XRel x y) (a : ActV) (hcs : x.c.sl ≤ 8) : CI N (E + 1) j (j4 a x y) := by
 obtain ⟨hw, hj, hf, hk, hcp⟩ := h
 have hep := hw.ep
 have hsh : (x.own.length : Int) = x.c.sh := by rw [hw.ow, hw.sh]
 refine ⟨GI.hap hw hE a y hr.c hcs, ?_, (hr.hap hw.ok hf ⟨hep.1, by omega⟩ a hsh).2, ⟨by rw [B5A, C63]; exact hk.len, by rw [B5A]; exact hk.z⟩, by rw [A7A]; exact hcp⟩
 cases j with
 | upd j => obtain ⟨s1, s2, s3, s4, s5⟩ := hj; exact ⟨by rw [A7A]; exact s1, by rw [A7A]; exact s2, s3, s4, s5⟩
 | exp j => obtain ⟨s0, s1, s2, s3, s4⟩ := hj; exact ⟨s0, s1, by rw [A7A]; exact s2, by rw [A7A]; exact s3, fun g => ⟨(s4 g).1, B5a hr hf hsh a s0 (s4 g).2⟩⟩
 | sta b => obtain ⟨s0, s1, s2⟩ := hj; exact ⟨s0, s1, fun i hi h1 h2 => B5a hr hf hsh a s0 (s2 i hi h1 h2)⟩
 | non b => exact hj
end Go.Proofs.YtpnidmkaobfhiaaGreat
namespace Go.Proofs.YtpnidmkaobfhiaaGreat
open Go
def B1L (who : Int) (op : OpV) : JV :=
 if op.kind = 1 then .upd (G3 who op.pool) else if op.kind = 2 then .exp ⟨⟨who, 0, S7⟩, op.shard, 0, []⟩ else if op.kind = 3 then .sta ⟨who, 0, S7⟩ else .non ⟨who, 0, S7⟩
theorem C4a {N : Nat} {who : Int} : stO N who (G6 N) 0 = G6 N := A09 (by rw [Q0]; simp [G6]) fun j hj => by
 rw [Q0] at hj
 rw [u5 hj, if_neg (by omega)]
theorem C73 {N : Nat} {who : Int} : stO N who (G6 N) (3 * N) = G6 N := A09 (by rw [Q0]; simp [G6]) fun j hj => by
 rw [Q0] at hj
 rw [u5 hj, if_neg (by omega)]
theorem C41 {N k : Nat} {who : Int} (hw : 0 ≤ who) (hk : k < N) : Q4 (stO N who (G6 N) k) (k : Nat) who = stO N who (G6 N) (k + 1) := by
 unfold Q4
 rw [if_pos hw, W2 (by rw [Q0]; exact hk), if_pos (by rw [u5 hk, if_neg (by omega)]; exact x8 hk)]
 refine A09 (by rw [List.length_set, Q0, Q0]) fun j hj => ?_
 rw [List.length_set, Q0] at hj
 rw [A8G (by rw [Q0]; exact hj), u5 hj, u5 hj]
 by_cases c : k = j
 ·rw [if_pos c, if_pos (by omega)]
 ·rw [if_neg c]
  by_cases c2 : j < k
  ·rw [if_pos (by omega), if_pos (by omega)]
  ·rw [if_neg (by omega), if_neg (by omega)]
theorem C4C {N k : Nat} {who : Int} (h1 : N ≤ k) (h2 : k < 2 * N) : stO N who (G6 N) k = stO N who (G6 N) (k + 1) := A09 (by rw [Q0, Q0]) fun j hj => by
 rw [Q0] at hj
 rw [u5 hj, u5 hj, if_pos (by omega), if_pos (by omega)]
theorem C1H {N r : Nat} {who : Int} (hw : 0 ≤ who) (hr : r < N) : H7 (stO N who (G6 N) (2 * N + r)) (r : Nat) who = stO N who (G6 N) (2 * N + r + 1) := by
 unfold H7
 rw [if_pos hw, W2 (by rw [Q0]; omega), if_pos (by rw [u5 (by omega), if_pos (by omega)])]
 refine A09 (by rw [List.length_set, Q0, Q0]) fun j hj => ?_
 rw [List.length_set, Q0] at hj
 rw [A8G (by rw [Q0]; exact hj), u5 hj, u5 hj]
 by_cases c : r = j
 ·rw [if_pos c, if_neg (by omega), x8 (by omega)]
 ·rw [if_neg c]
  by_cases c2 : r ≤ j
  ·rw [if_pos (by omega), if_pos (by omega)]
  ·rw [if_neg (by omega), if_neg (by omega)]
def A2p (ts : List (List EnV)) (m : Nat) : Nat := ((ts.take m).map fun t => P8 t 1).sum
theorem B5d {ts : List (List EnV)} {m : Nat} (h : m < ts.length) : A2p ts (m + 1) = A2p ts m + P8 (ts.getD m []) 1 := by
 unfold A2p
 rw [List.take_add_one, List.getElem?_eq_getElem h, List.getD_eq_getElem?_getD, List.getElem?_eq_getElem h, List.map_append, List.sum_append]
 simp only [Option.toList, List.map_cons, List.map_nil, List.sum_cons, List.sum_nil, Option.getD_some, Nat.add_zero]
theorem B98 {ts : List (List EnV)} (h : ∀ t ∈ ts, t.length ≤ 64) (m : Nat) : A2p ts m ≤ m * 64 := by
 induction m with
 | zero => simp [A2p]
 | succ m ih =>
  by_cases c : m < ts.length
  ·rw [B5d c]
   have h1 := h _ (List.getElem_mem c)
   have h2 : P8 (ts.getD m []) 1 ≤ 64 := by
    rw [List.getD_eq_getElem?_getD, List.getElem?_eq_getElem c]
    exact Nat.le_trans List.countP_le_length h1
   omega
  ·have : A2p ts (m + 1) = A2p ts m := by unfold A2p; rw [List.take_of_length_le (by omega), List.take_of_length_le (by omega)]
   omega
structure ClW (N : Nat) (c : CfgV) (x : WS) (s : MoS) : Prop where
 q : CurI x
 z : ∀ i : Nat, D3 x.cells ((i : Nat) + 2) = 0
 cc : x.c = c
 own : x.own = G6 N
 now : x.now = 0
 pool : (K6 x = 0 ∧ s.pool = []) ∨ (1 ≤ K6 x ∧ N3 x.sl (K6 x - 1) = .rdy s.pool)
 sc : s.c = c
 tabs : x.tabs = s.tabs.map (·.1)
 pls : x.places = s.tabs.map (·.2)
 tl : x.tabs.length = N
 few : ∀ t ∈ x.tabs, t.length ≤ 64
structure CalR (N : Nat) (c : CfgV) (x : WS) (s : MoS) (R : RunV) (D : MoS × AnsV) : Prop where
 st : R.j.b.st = -1
 tk : R.tk = 1
 bad : R.bad = 0
 ans : R.j.b.ans = D.2
 w : ClW N c R.x D.1
 ep : 0 ≤ D3 R.x.cells 0 ∧ D3 R.x.cells 0 ≤ D3 x.cells 0 + 1
theorem B9j {N : Nat} {c : CfgV} {x : WS} {s : MoS} {j j' : JV} {e : Int} (h : ClW N c x s) (hep : 0 ≤ D3 x.cells 0) (hr : j.ready x = true) (hs : j.step0 x = (j', x, true, true, false)) (h1 : j'.b.st = -1) (h2 : j'.b.ans = ⟨e, 0, false, 0⟩) : CalR N c x s (T0 200 ⟨j, x, 0, 0, 0⟩) (s, ⟨e, 0, false, 0⟩) := by
 have e1 : RunV.next ⟨j, x, 0, 0, 0⟩ = ⟨j', x, 1, 1, 0⟩ := by unfold RunV.next; simp only [hs]; rfl
 have hg : U2 1 ⟨j, x, 0, 0, 0⟩ ⟨j', x, 1, 1, 0⟩ := ⟨hr, e1⟩
 rw [hg.ends (by omega) h1]
 exact ⟨h1, rfl, rfl, h2, h, ⟨hep, by simp only; omega⟩⟩
theorem C7S {N : Nat} {c : CfgV} {x : WS} {s : MoS} (h : ClW N c x s) (hep : 0 ≤ D3 x.cells 0 ∧ D3 x.cells 0 ≤ 1000) (p : List F2) : CalR N c x s (T0 200 ⟨.upd (G3 0 p), x, 0, 0, 0⟩) (A8k s p) := by
 unfold A8k
 by_cases hc : L8 p = 0
 ·rw [if_pos hc]
  have ht := h.q.free h.z
  obtain ⟨k1, k2, k3, k4, k5, k6, k7⟩ := h.q.after p ht
  rw [C4W hc h.q.ok.wk h.q.kl h.q.ok.keep ht]
  have he : D3 (H8 x p).cells 0 = D3 x.cells 0 + 1 := by
   rw [C4Z h.q.ok]; unfold epW; exact T2 (by omega) (by omega)
  exact ⟨rfl, rfl, rfl, rfl, ⟨k1, fun i => by rw [C2S]; exact h.z i, h.cc, h.own, h.now, Or.inr ⟨k3, k4⟩, h.sc, h.tabs, h.pls, h.tl, h.few⟩, by simp only; rw [he]; omega⟩
 ·rw [if_neg hc, C7e hc]
  exact ⟨rfl, rfl, rfl, rfl, h, by simp only; omega⟩
theorem C7Y {N : Nat} {c : CfgV} {x : WS} {s : MoS} (h : ClW N c x s) (hep : 0 ≤ D3 x.cells 0) {who : Int} (hw : 0 ≤ who) (i : Int) (hcp : 1 ≤ c.cp) (hto : ∀ t ∈ x.tabs, TabOk c.cp.toNat t) : CalR N c x s (T0 200 ⟨.exp ⟨⟨who, 0, S7⟩, i, 0, []⟩, x, 0, 0, 0⟩) (A4m s i 0) := by
 have hsl : s.tabs.length = N := by have := congrArg List.length h.tabs; rw [List.length_map, h.tl] at this; omega
 unfold A4m
 rw [hsl]
 by_cases hout : i < 0 ∨ (N : Int) ≤ i
 ·rw [if_pos hout]
  have hin : l8 x i = false := (B6Z h.tl).2 (by omega)
  refine B9j h hep ?_ (j' := .exp { (⟨⟨who, 0, S7⟩, i, 0, []⟩ : JE) with b := (⟨who, 0, S7⟩ : JB).refuse 1 }) ?_ rfl rfl
  ·have : A0z x.own i = -1 := by unfold A0z; rw [if_neg (by rw [h.own]; simp [G6]; omega)]
   simp [JV.ready, JV.waits, JV.b, this]
  ·simp only [JV.step0]
   unfold L5
   rw [if_pos hin]
 ·rw [if_neg hout]
  obtain ⟨k, rfl⟩ : ∃ k : Nat, i = k := ⟨i.toNat, by omega⟩
  have hkN : k < N := by omega
  have hin : ¬ l8 x (k : Nat) = false := fun g => (B6Z h.tl).1 g (by omega)
  obtain ⟨hq, hz, hcc, hown, hnow, hpool, hsc, htabs, hpls, htl, hfew⟩ := h
  have hfl : (G6 N).length = N := by simp [G6]
  obtain ⟨D, hD⟩ : ∃ D, D = K9 (s.tabs.getD k ([], 0)).1 (s.tabs.getD k ([], 0)).2 4 0 := ⟨_, rfl⟩
  have hks : k < s.tabs.length := by omega
  have et : A0W x (k : Nat) = (s.tabs.getD k ([], 0)).1 := by
   unfold A0W; rw [htabs, Int.toNat_natCast, List.getD_eq_getElem?_getD, List.getElem?_map, List.getD_eq_getElem?_getD, List.getElem?_eq_getElem hks]; rfl
  have ep : A3G x (k : Nat) = (s.tabs.getD k ([], 0)).2 := by
   unfold A3G; rw [hpls, Int.toNat_natCast, List.getD_eq_getElem?_getD, List.getElem?_map, List.getD_eq_getElem?_getD, List.getElem?_eq_getElem hks]; rfl
  have hDk : TabOk c.cp.toNat D.1 := by
   have : A0W x (k : Nat) ∈ x.tabs := by
    unfold A0W; rw [Int.toNat_natCast, List.getD_eq_getElem?_getD, List.getElem?_eq_getElem (by omega)]; exact List.getElem_mem _
   rw [hD, ← et]; exact (B0Q (hto _ this) (by omega)).1
  have hD2 : K9 (A0W x (k : Nat)) (A3G x (k : Nat)) 4 x.now = D := by rw [et, ep, hnow, hD]
  simp only [Int.toNat_natCast]
  rw [← hD]
  have g1 : U2 1 ⟨.exp ⟨⟨who, 0, S7⟩, (k : Nat), 0, []⟩, x, 0, 0, 0⟩ ⟨.exp ⟨⟨who, 1, S7⟩, (k : Nat), 0, []⟩, { x with own := (G6 N).set k who }, 1, 0, 0⟩ := by
   refine ⟨?_, ?_⟩
   ·have : A0z x.own (k : Nat) = -1 := by rw [hown, A4x (by omega)]; exact x8 hkN
    simp [JV.ready, JV.waits, JV.b, this]
   ·have hlo : Q4 x.own (k : Nat) who = (G6 N).set k who := by rw [hown]; exact A5c (by omega) hw (x8 hkN)
    unfold RunV.next
    simp only [JV.step0]
    unfold L5
    simp only
    rw [if_neg hin, if_pos trivial, hlo]
    rfl
  have g2 : U2 1 ⟨.exp ⟨⟨who, 1, S7⟩, (k : Nat), 0, []⟩, { x with own := (G6 N).set k who }, 1, 0, 0⟩ ⟨.exp ⟨⟨who, 2, ⟨0, 0, false, (D.2.2 : Nat)⟩⟩, (k : Nat), D.2.1, D.1⟩, { x with own := (G6 N).set k who }, 2, 1, 0⟩ := by
   refine ⟨by simp [JV.ready, JV.waits, JV.b], ?_⟩
   have hin' : ¬ l8 { x with own := (G6 N).set k who } (k : Nat) = false := hin
   have hD3 : K9 (A0W { x with own := (G6 N).set k who } (k : Nat)) (A3G { x with own := (G6 N).set k who } (k : Nat)) 4 x.now = D := hD2
   unfold RunV.next
   simp only [JV.step0]
   unfold L5
   simp only
   rw [if_neg hin', if_neg (by omega), if_pos trivial, hD3]
   rfl
  have g3 : U2 1 ⟨.exp ⟨⟨who, 2, ⟨0, 0, false, (D.2.2 : Nat)⟩⟩, (k : Nat), D.2.1, D.1⟩, { x with own := (G6 N).set k who }, 2, 1, 0⟩ ⟨.exp ⟨⟨who, 3, ⟨0, 0, false, (D.2.2 : Nat)⟩⟩, (k : Nat), D.2.1, D.1⟩, { x with own := (G6 N).set k who, tabs := x.tabs.set k D.1, places := x.places.set k D.2.1 }, 3, 1, 0⟩ := by
   refine ⟨by simp [JV.ready, JV.waits, JV.b], ?_⟩
   have hin' : ¬ l8 { x with own := (G6 N).set k who } (k : Nat) = false := hin
   unfold RunV.next
   simp only [JV.step0]
   unfold L5
   simp only
   rw [if_neg hin', if_neg (by omega), if_neg (by omega), if_pos trivial]
   rfl
  have hback : ((G6 N).set k who).set k (-1) = G6 N := by
   rw [List.set_set]
   refine A09 (by rw [List.length_set]) fun j hj => ?_
   rw [List.length_set] at hj
   rw [A8G hj]
   by_cases d : k = j
   ·rw [if_pos d, x8 (by omega)]
   ·rw [if_neg d]
  have g4 : U2 1 ⟨.exp ⟨⟨who, 3, ⟨0, 0, false, (D.2.2 : Nat)⟩⟩, (k : Nat), D.2.1, D.1⟩, { x with own := (G6 N).set k who, tabs := x.tabs.set k D.1, places := x.places.set k D.2.1 }, 3, 1, 0⟩ ⟨.exp ⟨⟨who, -1, ⟨0, 0, false, (D.2.2 : Nat)⟩⟩, (k : Nat), D.2.1, D.1⟩, { x with own := G6 N, tabs := x.tabs.set k D.1, places := x.places.set k D.2.1 }, 4, 1, 0⟩ := by
   refine ⟨by simp [JV.ready, JV.waits, JV.b], ?_⟩
   have hin' : ¬ l8 { x with own := (G6 N).set k who, tabs := x.tabs.set k D.1, places := x.places.set k D.2.1 } (k : Nat) = false := by
    intro g
    have := (B6Z (N := N) (x := { x with own := (G6 N).set k who, tabs := x.tabs.set k D.1, places := x.places.set k D.2.1 }) (by simp only [List.length_set]; exact htl)).1 g
    omega
   have hun : H7 ((G6 N).set k who) (k : Nat) who = G6 N := by
    rw [A2E (by rw [List.length_set]; omega) hw (Or.inl (by rw [A8G (by omega), if_pos rfl]))]; exact hback
   unfold RunV.next
   simp only [JV.step0]
   unfold L5
   simp only
   rw [if_neg hin', if_neg (by omega), if_neg (by omega), if_neg (by omega), hun]
   rfl
  rw [(((g1.trans g2).trans g3).trans g4).ends (by omega) rfl]
  have hnow2 : x.now = 0 := hnow
  refine ⟨rfl, rfl, rfl, rfl, ⟨⟨⟨hq.ok.wk, hq.ok.cells, by simp only; rw [hfl]; have := hq.ok.own; rw [hown, hfl] at this; exact this, hq.ok.sl, hq.ok.keep⟩, hq.kl, hq.two, hq.cur, hq.at1, hq.at2⟩, hz, hcc, rfl, hnow, hpool, hsc, ?_, ?_, by simp only [List.length_set]; exact htl, fun t ht => ?_⟩, ⟨hep, by simp only; omega⟩⟩
  ·simp only [List.map_set]; rw [htabs]
  ·simp only [List.map_set]; rw [hpls]
  ·rcases List.mem_or_eq_of_mem_set (show t ∈ x.tabs.set k D.1 from ht) with ht | rfl
   ·exact hfew t ht
   ·rw [hDk.len]; exact hDk.few
theorem B7a {N : Nat} {x : WS} (hN : 1 ≤ N ∧ N ≤ 16) (htl : x.tabs.length = N) (hown : x.own = G6 N) (hfew : ∀ t ∈ x.tabs, t.length ≤ 64) {who : Int} (hw : 0 ≤ who) : ∀ k : Nat, k ≤ 3 * N →
  U2 k ⟨.sta ⟨who, 0, S7⟩, x, 0, 0, 0⟩ ⟨.sta ⟨who, if k = 3 * N then -1 else (k : Nat), ⟨0, 0, false, (A2p x.tabs (min (k - N) N) : Nat)⟩⟩, { x with own := stO N who (G6 N) k }, k, if N ≤ k then 1 else 0, 0⟩
 | 0, _ => by
  rw [C4a, ← hown, if_neg (by omega), if_neg (by omega), show min (0 - N) N = 0 by omega]
  show (_ : RunV) = _
  rfl
 | k + 1, hk => by
  refine (B7a hN htl hown hfew hw k (by omega)).trans ?_
  rw [if_neg (show ¬ k = 3 * N by omega)]
  have htl2 : ({ x with own := stO N who (G6 N) k } : WS).tabs.length = N := htl
  have em : ((k : Nat) : Int) % (N : Nat) = ((k % N : Nat) : Int) := rfl
  have hc1 := B98 hfew (min (k - N) N)
  by_cases c0 : k < N
  ·have hmod : k % N = k := Nat.mod_eq_of_lt c0
   have hlt : ((k : Nat) : Int) < (N : Nat) := by omega
   refine ⟨?_, ?_⟩
   ·have : A0z (stO N who (G6 N) k) (k : Nat) = -1 := by rw [A4x (by rw [Q0]; exact c0), u5 c0, if_neg (by omega)]; exact x8 c0
    have h2 : ¬ ((k : Nat) : Int) = -1 := by omega
    simp [JV.ready, JV.waits, JV.b, this, h2]
   ·unfold RunV.next
    simp only [JV.step0]
    unfold S3
    simp only [htl]
    rw [em, hmod, if_pos hlt, C41 hw c0, show min (k - N) N = 0 by omega, show min (k + 1 - N) N = 0 by omega, if_neg (show ¬ k + 1 = 3 * N by omega), if_neg (show ¬ N ≤ k by omega)]
    show (_ : RunV) = _
    by_cases c1 : k + 1 = N
    ·rw [if_pos (by omega), decide_eq_true (by omega)]; rfl
    ·rw [if_neg (by omega), decide_eq_false (by omega)]; rfl
  by_cases c1 : k < 2 * N
  ·obtain ⟨q, rfl⟩ : ∃ q, k = q + N := ⟨k - N, by omega⟩
   have hmod : (q + N) % N = q := by rw [Nat.add_mod_right]; exact Nat.mod_eq_of_lt (by omega)
   have h2 : ¬ (((q + N : Nat)) : Int) = -1 := by omega
   have h3 : ¬ (((q + N : Nat)) : Int) < (N : Nat) := by omega
   refine ⟨by simp only [JV.ready, JV.waits, JV.b, htl, decide_eq_false h2, decide_eq_false h3]; rfl, ?_⟩
   unfold RunV.next
   simp only [JV.step0]
   unfold S3
   simp only [htl]
   have hcs := B5d (ts := x.tabs) (m := q) (by omega)
   have htI : A0W { x with own := stO N who (G6 N) (q + N) } (q : Nat) = x.tabs.getD q [] := rfl
   have hc2 := B98 hfew (q + 1)
   rw [em, hmod, if_neg h3, if_pos (show (((q + N : Nat)) : Int) < 2 * (N : Nat) by omega), htI, show min (q + N - N) N = q by omega, show min (q + N + 1 - N) N = q + 1 by omega, hcs, if_neg (show ¬ q + N + 1 = 3 * N by omega), if_pos (show N ≤ q + N by omega), if_pos (show N ≤ q + N + 1 by omega), ← C4C (by omega) c1, T2 (by omega) (by omega)]
   show (_ : RunV) = _
   simp only [show (((q + N : Nat)) : Int) + 1 = ((q + N + 1 : Nat) : Int) by omega, show ((A2p x.tabs q : Nat) : Int) + ((P8 (x.tabs.getD q []) 1 : Nat) : Int) = ((A2p x.tabs q + P8 (x.tabs.getD q []) 1 : Nat) : Int) by omega]
   rfl
  obtain ⟨q, rfl⟩ : ∃ q, k = 2 * N + q := ⟨k - 2 * N, by omega⟩
  have hmod : (2 * N + q) % N = q := by rw [show 2 * N + q = q + N * 2 by omega, Nat.add_mul_mod_self_left]; exact Nat.mod_eq_of_lt (by omega)
  have h2 : ¬ (((2 * N + q : Nat)) : Int) = -1 := by omega
  have h3 : ¬ (((2 * N + q : Nat)) : Int) < (N : Nat) := by omega
  refine ⟨by simp only [JV.ready, JV.waits, JV.b, htl, decide_eq_false h2, decide_eq_false h3]; rfl, ?_⟩
  unfold RunV.next
  simp only [JV.step0]
  unfold S3
  simp only [htl]
  rw [em, hmod, if_neg h3, if_neg (show ¬ (((2 * N + q : Nat)) : Int) < 2 * (N : Nat) by omega), show min (2 * N + q - N) N = N by omega, show min (2 * N + q + 1 - N) N = N by omega, if_pos (show N ≤ 2 * N + q by omega), if_pos (show N ≤ 2 * N + q + 1 by omega), C1H hw (by omega)]
  show (_ : RunV) = _
  by_cases c2 : q + 1 = N
  ·rw [if_pos (show ((q : Nat) : Int) = (N : Nat) - 1 by omega), if_pos (show 2 * N + q + 1 = 3 * N by omega)]; rfl
  ·rw [if_neg (show ¬ ((q : Nat) : Int) = (N : Nat) - 1 by omega), if_neg (show ¬ 2 * N + q + 1 = 3 * N by omega)]
   simp only [show (((2 * N + q : Nat)) : Int) + 1 = ((2 * N + q + 1 : Nat) : Int) by omega]
   rfl
theorem C7u {N : Nat} {c : CfgV} {x : WS} {s : MoS} (h : ClW N c x s) (hN : 1 ≤ N ∧ N ≤ 16) (hep : 0 ≤ D3 x.cells 0) {who : Int} (hw : 0 ≤ who) : CalR N c x s (T0 200 ⟨.sta ⟨who, 0, S7⟩, x, 0, 0, 0⟩) (B02 s) := by
 have hg := B7a hN h.tl h.own h.few hw (3 * N) (Nat.le_refl _)
 rw [if_pos rfl, if_pos (by omega), show min (3 * N - N) N = N by omega, C73, ← h.own] at hg
 rw [hg.ends (by omega) rfl]
 have hlv : A2p x.tabs N = y7 s.tabs := by
  unfold A2p y7
  rw [List.take_of_length_le (by rw [h.tl]; exact Nat.le_refl _), h.tabs, List.map_map]
  rfl
 exact ⟨rfl, rfl, rfl, by simp only [JV.b]; rw [hlv]; rfl, h, ⟨hep, by simp only; omega⟩⟩
theorem C67 {N : Nat} {c : CfgV} {x : WS} {s : MoS} (h : ClW N c x s) (hN : 1 ≤ N ∧ N ≤ 16) (hep : 0 ≤ D3 x.cells 0 ∧ D3 x.cells 0 ≤ 1000) {who : Int} (hw : 0 ≤ who) (hcp : 1 ≤ c.cp) (hto : ∀ t ∈ x.tabs, TabOk c.cp.toNat t) (o : OpV) (hk : ¬ o.kind = 0) (hk1 : o.kind = 1 → who = 0) :
  CalR N c x s (T0 200 ⟨B1L who o, x, 0, 0, 0⟩) (m7 s o 0) := by
 unfold B1L
 by_cases k1 : o.kind = 1
 ·rw [if_pos k1, C9H _ _ _ k1, hk1 k1]; exact C7S h hep o.pool
 rw [if_neg k1]
 by_cases k2 : o.kind = 2
 ·rw [if_pos k2, C8N _ _ _ k2]; exact C7Y h hep.1 hw o.shard hcp hto
 rw [if_neg k2]
 by_cases k3 : o.kind = 3
 ·rw [if_pos k3, C6v _ _ _ k3]; exact C7u h hN hep.1 hw
 rw [if_neg k3, C6e _ _ _ (by omega)]
 exact B9j h hep.1 (by simp [JV.ready, JV.waits, JV.b]) (j' := .non ((⟨who, 0, S7⟩ : JB).refuse 1)) rfl rfl rfl
end Go.Proofs.YtpnidmkaobfhiaaGreat
namespace Go.Proofs.YtpnidmkaobfhiaaGreat
open Go
def A3l (b : Nat) (j : JB) : Res := .pt b (.cells (D5 j []) 106)
theorem C5C (w : World) (b : Nat) (j : JB) (v : Value) (P : V0) (m : WoH) (hw : LW false (B2 (A3l b j :: E5 P :: C9 m)) w (A3l b j :: E5 P :: C9 m) w) :
  Fn PR B6 252 #[.pointer (some ⟨b, 0, none⟩), v] w (Rn (B2 (A3l b j :: E5 P :: C9 m)) w (fun (_ : Unit) u => u = L9 (true, true, false) ∧ True) fun _ => A3l b (j.refuse 1) :: E5 P :: C9 m) := by
 refine A8d (TW.goH (κ := false) ?_ hw)
 unfold A1w
 (have zz:=trivial;repeat((first|clear zz|with_reducible first|refine A3 ?_|refine A5 fun _=>?_|refine A4 fun _=>?_);try simp(disch:=first|omega|assumption|((repeat(first|exact A1|exact uH|apply A2|apply uT));first|done|fail)|(simp;first|done|omega|fail))[]))
 rename_i bt
 refine D0 (Hc := [A3l b j]) (Hk := .pt bt (.cells #[.bool false, .bool false, .bool false] 49) :: E5 P :: C9 m) Q5 (fun w' _ hs => A2K w' b _ j [] 1 hs) (by (repeat' constructor)) ?_
 rintro _ v rfl
 simp only [List.cons_append, List.nil_append, L9]
 (have zz:=trivial;repeat((first|clear zz|with_reducible first|refine A3 ?_|refine A5 fun _=>?_|refine A4 fun _=>?_);try simp(disch:=first|omega|assumption|((repeat(first|exact A1|exact uH|apply A2|apply uT));first|done|fail)|(simp;first|done|omega|fail))[]))
 refine TW.sub (B1 () (by simp) (n4 _)) (List.Sublist.cons_cons _ (List.sublist_cons_self _ _))
inductive CJ where
 | upd (j : JU) (pv qv : Value)
 | exp (j : JE) (tv : Value)
 | sta (j : JB)
 | non (j : JB)
def CJ.v : CJ → JV
 | .upd j _ _ => .upd j
 | .exp j _ => .exp j
 | .sta j => .sta j
 | .non j => .non j
def CJ.I (b : Nat) : CJ → Value
 | .upd _ _ _ => P6 b
 | .exp _ _ => A2H b
 | .sta _ => A15 b
 | .non _ => A18 b
abbrev CA := CJ × WoG × V0
def V9 (m : WoH) (a : CA) : WS := (m.ug a.2.1).ws
def cjO (b : Nat) : CJ → List Res
 | .upd j pv qv => [L7 b j pv qv, N4 j qv]
 | .exp j tv => [r8 b j tv]
 | .sta j => [A1q b j]
 | .non j => [A3l b j]
def s8 (jb b : Nat) (m : WoH) : CA → List Res
 | (.upd j pv qv, d, P) => (H4 jb (P6 b) :: L7 b j pv qv :: N4 j qv :: C9 (m.ug d)) ++ [E5 P]
 | (.exp j tv, d, P) => H4 jb (A2H b) :: r8 b j tv :: E5 P :: C9 (m.ug d)
 | (.sta j, d, P) => H4 jb (A15 b) :: A1q b j :: E5 P :: C9 (m.ug d)
 | (.non j, d, P) => H4 jb (A18 b) :: A3l b j :: E5 P :: C9 (m.ug d)
theorem A4K (jb b : Nat) (m : WoH) (a : CA) : (s8 jb b m a).Perm (C9 (m.ug a.2.1) ++ (H4 jb (a.1.I b) :: (cjO b a.1 ++ [E5 a.2.2]))) := by
 obtain ⟨j, d, P⟩ := a
 cases j with
 | upd j pv qv =>
  simp only [s8, cjO, CJ.I, List.cons_append, List.nil_append]
  exact (List.perm_append_comm (l₁ := [H4 jb (P6 b), L7 b j pv qv, N4 j qv]) (l₂ := C9 (m.ug d))).append_right [E5 P] |>.trans (by simp)
 | exp j tv => exact List.perm_append_comm (l₁ := [H4 jb (A2H b), r8 b j tv, E5 P]) (l₂ := C9 (m.ug d))
 | sta j => exact List.perm_append_comm (l₁ := [H4 jb (A15 b), A1q b j, E5 P]) (l₂ := C9 (m.ug d))
 | non j => exact List.perm_append_comm (l₁ := [H4 jb (A18 b), A3l b j, E5 P]) (l₂ := C9 (m.ug d))
def cjT : CJ → V0 → Prop
 | .exp j tv, P => (tv, j.table) ∈ P
 | _, _ => True
structure CjC (cp : Nat) (a : CA) : Prop where
 tab : ∀ t ∈ a.2.2, TabOk 0 t.2 ∨ TabOk cp t.2
 sub : A07 a.2.1.ts a.2.2
 tb : cjT a.1 a.2.2
def CJ.RdP (w : World) : CJ → Prop
 | .upd j pv _ => j.pool.length ≤ 1000 ∧ E2 w pv j.pool.length (j.pool.flatMap E8)
 | _ => True
def CJ.pl : CJ → Option (List F2 × Value)
 | .upd j pv _ => some (j.pool, pv)
 | _ => none
theorem CJ.RdP.of {w : World} {a a' : CJ} (h : a.RdP w) (e : a'.pl = a.pl) : a'.RdP w := by
 cases a <;> cases a' <;> simp only [CJ.pl, Option.some.injEq, Prod.mk.injEq, reduceCtorEq] at e <;> first | trivial | skip
 obtain ⟨e1, e2⟩ := e
 subst e2
 exact ⟨by rw [e1]; exact h.1, by rw [e1]; exact h.2⟩
theorem CjC.ok {N E : Nat} {m : WoH} {a : CA} {cp : Nat} (h : CjC cp a) (hg : WI N E (V9 m a)) : TabsOk (m.ug a.2.1) a.2.2 := by
 obtain ⟨j, d, P⟩ := a
 have hts : d.ts.length = N := by have := hg.tl; simpa [V9, WoH.ws, WoH.ug] using this
 have hn := hg.n
 have hpl : d.pl.length = N := hg.pl
 have how : d.own.length = N := hg.ow
 have key : ∀ t : List EnV, TabOk 0 t ∨ TabOk cp t → N8 t ∧ t.length ≤ 64 := fun t ht => by
  rcases ht with ht | ht
  ·exact ⟨ht.keys, by rw [ht.len]; omega⟩
  ·exact ⟨ht.keys, by rw [ht.len]; exact ht.few⟩
 refine ⟨by show d.ts.length ≤ _; omega, by show d.pl.length = d.ts.length; omega, fun t ht => ?_, fun t ht => (key _ (h.tab _ (h.sub _ ht))).1, by show d.own.length ≤ _; omega, h.sub⟩
 have := (key _ (h.tab _ (h.sub _ ht))).2; omega
theorem C6L {jb b : Nat} {m : WoH} {a : CA} {H : List Res} (hm : ∀ r ∈ s8 jb b m a, r ∈ H) : ∀ r ∈ C9 (m.ug a.2.1), r ∈ H := fun r hr => hm r ((A4K jb b m a).mem_iff.2 (List.mem_append_left _ hr))
theorem B7J {jb b : Nat} {m : WoH} {a : CA} {H : List Res} (hm : ∀ r ∈ s8 jb b m a, r ∈ H) : H4 jb (a.1.I b) ∈ H := hm _ ((A4K jb b m a).mem_iff.2 (List.mem_append_right _ (List.mem_cons_self ..)))
theorem B6u {jb b : Nat} {m : WoH} {a : CA} {H : List Res} (hm : ∀ r ∈ s8 jb b m a, r ∈ H) : ∀ r ∈ cjO b a.1, r ∈ H := fun r hr => hm r ((A4K jb b m a).mem_iff.2 (List.mem_append_right _ (List.mem_cons_of_mem _ (List.mem_append_left _ hr))))
theorem D0F {κ : Bool} {S : List Nat} {w0 w : World} {jb b : Nat} {m : WoH} {a : CA} {H : List Res} (hm : ∀ r ∈ s8 jb b m a, r ∈ H) (hw : LW κ S w0 H w) : ∃ x c, (m.ug a.2.1).tv = .slice x (m.ug a.2.1).ts.length c := by
 have := hw.hold (.own 55 1 (m.ug a.2.1).tv (m.ug a.2.1).ts.length ((m.ug a.2.1).ts.map (·.1))) (C6L hm _ (by unfold C9; (repeat constructor)))
 exact S8.form this
theorem B9f (b : Nat) (a : CJ) : ∃ rest T, Res.pt b (.cells (D5 a.v.b rest) T) ∈ cjO b a ∧ (a.I b = P6 b ∨ a.I b = A2H b ∨ a.I b = A15 b ∨ a.I b = A18 b) := by
 cases a with
 | upd j pv qv => exact ⟨_, _, List.mem_cons_self .., Or.inl rfl⟩
 | exp j tv => exact ⟨_, _, List.mem_cons_self .., Or.inr (Or.inl rfl)⟩
 | sta j => exact ⟨_, _, List.mem_cons_self .., Or.inr (Or.inr (Or.inl rfl))⟩
 | non j => exact ⟨_, _, List.mem_cons_self .., Or.inr (Or.inr (Or.inr rfl))⟩
theorem C0m {N E : Nat} {κ : Bool} {S : List Nat} (w w' : World) (jb b : Nat) (m : WoH) (a : CA) {H : List Res} (hm0 : ∀ r ∈ s8 jb b m a, r ∈ H) (hg : WI N E (V9 m a)) (hw : LW κ S w H w') :
  Fn PR B6 15 #[.pointer (some ⟨jb, 0, none⟩), .pointer (some ⟨m.b, 0, none⟩)] w' (fun u w'' => u = .bool (a.1.v.ready (V9 m a)) ∧ C6 [] w' w'') := by
 have hwo : WoAt w' (m.ug a.2.1) := WoAt.own hw (C6L hm0)
 have htv := D0F hm0 hw
 have hn := hg.n
 have hj := hw.pt (b := jb) (o := .cells #[a.1.I b] 98 (0, 0)) (B7J hm0)
 have hts : a.2.1.ts.length = N := by have := hg.tl; simpa [V9, WoH.ws, WoH.ug] using this
 have hm : ∀ r ∈ cjO b a.1, r ∈ H := B6u hm0
 clear hm0
 obtain ⟨j, d, P⟩ := a
 cases j with
 | upd j pv qv =>
  have hb : bl w' b = some (.cells (D5 j.b [pv, qv, .int .i64 j.slot, .int .i64 j.old]) 94 (0, 0)) := hw.pt (hm _ (List.mem_cons_self ..))
  exact m9 w' jb b (P6 b) j.b _ _ (.pointer (some ⟨m.b, 0, none⟩)) false _ _ (Or.inl rfl) hj hb (fun w => u0 w b _) (fun w'' _ => A5N w'' _ _)
 | exp j tv =>
  have hb : bl w' b = some (.cells (D5 j.b [.int .i64 j.shard, .int .i64 (j.place : Nat), tv]) 101 (0, 0)) := hw.pt (hm _ (List.mem_cons_self ..))
  exact m9 w' jb b (A2H b) j.b _ _ (.pointer (some ⟨m.b, 0, none⟩)) ((JV.exp j).waits (m.ug d).ws) _ _ (Or.inr (Or.inl rfl)) hj hb (fun w => A5S w b _) (fun w'' hk => B5P w'' b j tv (m.ug d) (hk.2.1 _ _ (by simp) rfl hb) (hwo.ks hk))
 | sta j =>
  have hb : bl w' b = some (.cells (D5 j []) 104 (0, 0)) := hw.pt (hm _ (List.mem_cons_self ..))
  exact m9 w' jb b (A15 b) j _ _ (.pointer (some ⟨m.b, 0, none⟩)) ((JV.sta j).waits (m.ug d).ws) _ _ (Or.inr (Or.inr (Or.inl rfl))) hj hb (fun w => A5r w b _) (fun w'' hk => B5G w'' b j (m.ug d) (by show d.ts.length ≤ 1000; simp only at hts; omega) (hk.2.1 _ _ (by simp) rfl hb) (hwo.ks hk) htv)
 | non j =>
  have hb : bl w' b = some (.cells (D5 j []) 106 (0, 0)) := hw.pt (hm _ (List.mem_cons_self ..))
  exact m9 w' jb b (A18 b) j _ _ (.pointer (some ⟨m.b, 0, none⟩)) false _ _ (Or.inr (Or.inr (Or.inr rfl))) hj hb (fun w => A56 w b _) (fun w'' _ => B48 w'' _ _)
theorem C1B {κ : Bool} {S : List Nat} (w w' : World) (jb b : Nat) (m : WoH) (a : CA) {H : List Res} (hm0 : ∀ r ∈ s8 jb b m a, r ∈ H) (hw : LW κ S w H w') :
  Fn PR B6 19 #[.pointer (some ⟨jb, 0, none⟩)] w' (fun u w'' => u = .int .i64 a.1.v.b.st ∧ C6 [] w' w'') := by
 obtain ⟨rest, T, h1, h2⟩ := B9f b a.1
 exact A95 w' jb b (a.1.I b) a.1.v.b rest T h2 (hw.pt (B7J hm0)) (hw.pt (B6u hm0 _ h1))
theorem B9N {κ : Bool} {S : List Nat} (w w' : World) (jb b : Nat) (m : WoH) (a : CA) {H : List Res} (hm0 : ∀ r ∈ s8 jb b m a, r ∈ H) (hw : LW κ S w H w') :
  Fn PR B6 20 #[.pointer (some ⟨jb, 0, none⟩)] w' (fun u w'' => u = a.1.v.b.ans.val ∧ C6 [] w' w'') := by
 obtain ⟨rest, T, h1, h2⟩ := B9f b a.1
 exact A8T w' jb b (a.1.I b) a.1.v.b rest T h2 (hw.pt (B7J hm0)) (hw.pt (B6u hm0 _ h1))
def WoG.uu (d : WoG) (z : WoD) : WoG := { d with cn := z.cn, cells := z.cells, ls := z.ls, keep := z.keep }
def WoG.ul (d : WoG) (z : WoX) : WoG := { d with cn := z.cn, own := z.own, tv := z.tv, pv := z.pv, ts := z.ts, pl := z.pl }
structure CjN (cp : Nat) (m : WoH) (a a' : CA) : Prop where
 v : a'.1.v = (a.1.v.step (V9 m a)).1
 x : V9 m a' = (a.1.v.step (V9 m a)).2.1
 c : CjC cp a'
 i : ∀ b, a'.1.I b = a.1.I b
 sub : A07 a.2.2 a'.2.2
 p : a'.1.pl = a.1.pl
set_option maxHeartbeats 1000000 in
theorem C10 {N E : Nat} (w' : World) (jb b : Nat) (m : WoH) (a : CA) (cp : Nat) (hc : CjC cp a) (hE : E ≤ 1000) (hg : CI N E a.1.v (V9 m a)) (hcp : (V9 m a).c.cp.toNat = cp) (hv : ∀ w'', KS false (B2 (s8 jb b m a)) w' w'' → a.1.RdP w'') (hw : LW false (B2 (s8 jb b m a)) w' (s8 jb b m a) w') :
  Fn PR B6 17 #[.pointer (some ⟨jb, 0, none⟩), .pointer (some ⟨m.b, 0, none⟩)] w' (Rn (B2 (s8 jb b m a)) w' (fun (a' : CA) u => u = L9 (a.1.v.step (V9 m a)).2.2 ∧ CjN cp m a a') (s8 jb b m)) := by
 have hok := hc.ok hg.w
 have hn := hg.w.n
 have hwk := hg.w.ok.wk
 have hg' := hg.step hE
 obtain ⟨j, d, P⟩ := a
 have hts : d.ts.length = N := by have := hg.w.tl; simpa [V9, WoH.ws, WoH.ug] using this
 have hcx : ∀ x : WS, x.c = (m.ug d).c → x.c.cp.toNat = cp := fun x e => by rw [e]; exact hcp
 cases j with
 | upd j pv qv =>
  obtain ⟨s1, s2, s3, s4, s5⟩ := hg.j
  have s1' : -1 ≤ j.b.st ∧ j.b.st ≤ (m.ug d).ws.c.wk + 4 := s1
  have s2' : (j.pins.length : Int) ≤ (m.ug d).ws.c.wk := s2
  have hwk' : 1 ≤ (m.ug d).ws.c.wk ∧ (m.ug d).ws.c.wk ≤ 64 := hwk
  have hv0 := (hv w' (KS.refl ..)).1
  have h := (B5l w' jb b j pv qv (m.ug d) hg.w.ok (by omega) hv0 (by omega) (by omega) (by omega)
   (fun w'' hk => (hv w'' (hk.mono (fun x hx => by obtain ⟨r, hr, hxr⟩ := G8.1 hx; exact G8.2 ⟨r, List.mem_append_left _ hr, hxr⟩))).2) (hw.sub (List.sublist_append_left _ _)).self).frame hw
  have hst : (JV.upd j).step (m.ug d).ws = (.upd (A2r j (m.ug d).ws).1, (A2r j (m.ug d).ws).2) := by
   by_cases c : j.b.st = -1
   ·unfold A2r; rw [if_pos c]; exact A4g (by simp [JV.ready, JV.b, c])
   ·unfold A2r; rw [if_neg c]; exact A1H (by simp [JV.ready, JV.waits, JV.b, c])
  refine h.mono fun u w'' hr => ?_
  obtain ⟨y, ⟨h1, h2⟩, h3⟩ := hr
  refine ⟨(.upd (A2r j (m.ug d).ws).1 pv y.1, d.uu y.2, P), ⟨?_, ?_, ?_, ⟨hc.tab, hc.sub, trivial⟩, fun _ => rfl, fun t ht => ht, ?_⟩, h3⟩
  ·show u = L9 ((JV.upd j).step (m.ug d).ws).2.2
   rw [hst]; exact h1
  ·show JV.upd (A2r j (m.ug d).ws).1 = ((JV.upd j).step (m.ug d).ws).1
   rw [hst]
  ·show ((m.ug d).up y.2).ws = ((JV.upd j).step (m.ug d).ws).2.1
   rw [hst]; exact h2
  ·simp only [CJ.pl]
   unfold A2r
   split
   ·rfl
   ·rw [A9v]
 | exp j tv =>
  have hs1 : -1 ≤ j.b.st ∧ j.b.st ≤ 3 := hg.j.2.1
  have h := A84 w' jb b (A2H b) j.b [.int .i64 j.shard, .int .i64 (j.place : Nat), tv] 101 (.pointer (some ⟨m.b, 0, none⟩)) ((JV.exp j).waits (m.ug d).ws) (L5 j (m.ug d).ws).2.2 _ _ _ _ (Or.inr (Or.inl rfl))
   (r8 b j tv :: E5 P :: C9 (m.ug d)) (fun y : Value × WoX × V0 => ((m.ug d).ux y.2.1).ws = (L5 j (m.ug d).ws).2.1 ∧ A07 y.2.1.ts y.2.2 ∧ (y.1, (L5 j (m.ug d).ws).1.table) ∈ y.2.2 ∧ B1E P y.2.2 (L5 j (m.ug d).ws).1.table)
   (fun y => r8 b (L5 j (m.ug d).ws).1 y.1 :: E5 y.2.2 :: C9 ((m.ug d).ux y.2.1))
   (fun w => A5S w b _) (fun w => B4Q w b _) (by unfold r8; (repeat constructor))
   (fun w'' hw'' => B5P w'' b j tv (m.ug d) (hw''.pt (by unfold r8; (repeat constructor))) (WoAt.own hw'' fun r hr => List.mem_cons_of_mem _ (List.mem_cons_of_mem _ (List.mem_cons_of_mem _ hr))))
   (fun h1 h2 w'' hw'' hs => C4k w'' b j tv (m.ug d) P hok (by omega) hc.tb hs) hw
  refine h.mono fun u w'' hr => ?_
  obtain ⟨y, h1, h2⟩ := hr
  cases y with
  | none =>
   obtain ⟨h1, h3⟩ := h1
   have hr : (JV.exp j).ready (m.ug d).ws = false := by rcases h1 with h1 | h1 <;> simp [JV.ready, JV.b, h1]
   have hst := A4g hr
   exact ⟨(.exp j tv, d, P), ⟨by show u = L9 ((JV.exp j).step (m.ug d).ws).2.2; rw [hst]; exact h3, by show JV.exp j = ((JV.exp j).step (m.ug d).ws).1; rw [hst], by show (m.ug d).ws = ((JV.exp j).step (m.ug d).ws).2.1; rw [hst], hc, fun _ => rfl, fun t ht => ht, rfl⟩, h2⟩
  | some y =>
   obtain ⟨⟨h1, h3⟩, h4, h5, h6, h7, h8⟩ := h1
   have hr : (JV.exp j).ready (m.ug d).ws = true := by simp [JV.ready, JV.b, h1, h3]
   have hst : (JV.exp j).step (m.ug d).ws = (.exp (L5 j (m.ug d).ws).1, (L5 j (m.ug d).ws).2) := A1H hr
   refine ⟨(.exp (L5 j (m.ug d).ws).1 y.1, d.ul y.2.1, y.2.2), ⟨by show u = L9 ((JV.exp j).step (m.ug d).ws).2.2; rw [hst]; exact h4, by show JV.exp _ = ((JV.exp j).step (m.ug d).ws).1; rw [hst], by show ((m.ug d).ux y.2.1).ws = ((JV.exp j).step (m.ug d).ws).2.1; rw [hst]; exact h5, ⟨fun t ht => ?_, h6, h7⟩, fun _ => rfl, h8.1, rfl⟩, h2⟩
   rcases h8.2 t ht with h | h
   ·exact hc.tab t h
   ·rw [h]
    have hx := hg'.j
    rw [show (CJ.v (CJ.exp j tv)) = JV.exp j from rfl, show V9 m (.exp j tv, d, P) = (m.ug d).ws from rfl, hst] at hx
    have hx := hx.2.2.1
    rw [hcx _ (by rw [← h5]; rfl)] at hx
    exact hx
 | sta j =>
  have hs1 : -1 ≤ j.st ∧ j.st < 3 * (N : Int) := hg.j.2.1
  have h := A84 w' jb b (A15 b) j [] 104 (.pointer (some ⟨m.b, 0, none⟩)) ((JV.sta j).waits (m.ug d).ws) (S3 j (m.ug d).ws).2.2 _ _ _ _ (Or.inr (Or.inr (Or.inl rfl)))
   (A1q b j :: E5 P :: C9 (m.ug d)) (fun y : WoX => ((m.ug d).ux y).ws = (S3 j (m.ug d).ws).2.1 ∧ y.ts = d.ts)
   (fun y => A1q b (S3 j (m.ug d).ws).1 :: E5 P :: C9 ((m.ug d).ux y))
   (fun w => A5r w b _) (fun w => B4z w b _) (by unfold A1q; (repeat constructor))
   (fun w'' hw'' => B5G w'' b j (m.ug d) (by show d.ts.length ≤ 1000; omega) (hw''.pt (by unfold A1q; (repeat constructor))) (WoAt.own hw'' fun r hr => List.mem_cons_of_mem _ (List.mem_cons_of_mem _ (List.mem_cons_of_mem _ hr))) (S8.form (hw''.hold (.own 55 1 (m.ug d).tv (m.ug d).ts.length ((m.ug d).ts.map (·.1))) (by unfold C9; (repeat constructor)))))
   (fun h1 h2 w'' hw'' hs => C5b w'' b j (m.ug d) P hok (by show 1 ≤ d.ts.length; omega) (by omega) hs) hw
  refine h.mono fun u w'' hr => ?_
  obtain ⟨y, h1, h2⟩ := hr
  cases y with
  | none =>
   obtain ⟨h1, h3⟩ := h1
   have hr : (JV.sta j).ready (m.ug d).ws = false := by rcases h1 with h1 | h1 <;> simp [JV.ready, JV.b, h1]
   have hst := A4g hr
   exact ⟨(.sta j, d, P), ⟨by show u = L9 ((JV.sta j).step (m.ug d).ws).2.2; rw [hst]; exact h3, by show JV.sta j = ((JV.sta j).step (m.ug d).ws).1; rw [hst], by show (m.ug d).ws = ((JV.sta j).step (m.ug d).ws).2.1; rw [hst], hc, fun _ => rfl, fun t ht => ht, rfl⟩, h2⟩
  | some y =>
   obtain ⟨⟨h1, h3⟩, h4, h5, h6⟩ := h1
   have hr : (JV.sta j).ready (m.ug d).ws = true := by simp [JV.ready, JV.b, h1, h3]
   have hst : (JV.sta j).step (m.ug d).ws = (.sta (S3 j (m.ug d).ws).1, (S3 j (m.ug d).ws).2) := A1H hr
   exact ⟨(.sta (S3 j (m.ug d).ws).1, d.ul y, P), ⟨by show u = L9 ((JV.sta j).step (m.ug d).ws).2.2; rw [hst]; exact h4, by show JV.sta _ = ((JV.sta j).step (m.ug d).ws).1; rw [hst], by show ((m.ug d).ux y).ws = ((JV.sta j).step (m.ug d).ws).2.1; rw [hst]; exact h5, ⟨hc.tab, fun t ht => hc.sub t (by rw [← h6]; exact ht), trivial⟩, fun _ => rfl, fun t ht => ht, rfl⟩, h2⟩
 | non j =>
  have h := A84 w' jb b (A18 b) j [] 106 (.pointer (some ⟨m.b, 0, none⟩)) false (true, true, false) _ _ _ _ (Or.inr (Or.inr (Or.inr rfl)))
   (A3l b j :: E5 P :: C9 (m.ug d)) (fun _ : Unit => True) (fun y => A3l b (j.refuse 1) :: E5 P :: C9 (m.ug d))
   (fun w => A56 w b _) (fun w => B38 w b _) (by unfold A3l; (repeat constructor))
   (fun w'' hw'' => B48 w'' _ _) (fun h1 h2 w'' hw'' hs => C5C w'' b j _ P (m.ug d) hs) hw
  refine h.mono fun u w'' hr => ?_
  obtain ⟨y, h1, h2⟩ := hr
  cases y with
  | none =>
   obtain ⟨h1, h3⟩ := h1
   have hr : (JV.non j).ready (m.ug d).ws = false := by rcases h1 with h1 | h1; simp [JV.ready, JV.b, h1]; cases h1
   have hst := A4g hr
   exact ⟨(.non j, d, P), ⟨by show u = L9 ((JV.non j).step (m.ug d).ws).2.2; rw [hst]; exact h3, by show JV.non j = ((JV.non j).step (m.ug d).ws).1; rw [hst], by show (m.ug d).ws = ((JV.non j).step (m.ug d).ws).2.1; rw [hst], hc, fun _ => rfl, fun t ht => ht, rfl⟩, h2⟩
  | some y =>
   obtain ⟨⟨h1, h3⟩, h4, _⟩ := h1
   have hr : (JV.non j).ready (m.ug d).ws = true := by simp [JV.ready, JV.waits, JV.b, h1]
   have hst : (JV.non j).step (m.ug d).ws = (.non (j.refuse 1), (m.ug d).ws, true, true, false) := A1H hr
   exact ⟨(.non (j.refuse 1), d, P), ⟨by show u = L9 ((JV.non j).step (m.ug d).ws).2.2; rw [hst]; exact h4, by show JV.non _ = ((JV.non j).step (m.ug d).ws).1; rw [hst], by show (m.ug d).ws = ((JV.non j).step (m.ug d).ws).2.1; rw [hst], ⟨hc.tab, hc.sub, trivial⟩, fun _ => rfl, fun t ht => ht, rfl⟩, h2⟩
end Go.Proofs.YtpnidmkaobfhiaaGreat
namespace Go.Proofs.YtpnidmkaobfhiaaGreat
open Go
end Go.Proofs.YtpnidmkaobfhiaaGreat
namespace Go.Proofs.YtpnidmkaobfhiaaGreat
open Go
end Go.Proofs.YtpnidmkaobfhiaaGreat
namespace Go.Proofs.YtpnidmkaobfhiaaGreat
open Go
end Go.Proofs.YtpnidmkaobfhiaaGreat
namespace Go.Proofs.YtpnidmkaobfhiaaGreat
open Go
end Go.Proofs.YtpnidmkaobfhiaaGreat
namespace Go.Proofs.YtpnidmkaobfhiaaGreat
open Go
section
variable {κ : Bool} {S : List Nat} {w0 : World} {H : List Res} {K0 : WP} {l : List Rd}
end
structure JobR (j : JW) (X : WS) : Prop where
 r : 1 ≤ j.st → j.st < 10 → (C7 j.text).2.2 = 0 ∧ j.key = s6 (C7 j.text).1 ∧ j.shard = ((M9 (s6 (C7 j.text).1) X.c.sh : Nat) : Int) ∧ j.closing = Z3 (C7 j.text).1 (C7 j.text).2.1
def C6B (j : JW) : Value := .agg #[.string j.key, .int .i64 j.shard, .bool j.closing, .int .i64 0]
theorem JobR.flow {j : JW} {X : WS} (h : JobR j X) (h1 : 1 ≤ j.st) (h2 : j.st < 10) : C6D j.text X.c.sh = C6B j := by
 obtain ⟨g1, g2, g3, g4⟩ := h.r h1 h2
 unfold C6D C6B
 rw [if_neg (by simpa using g1), g2, g3, g4]
theorem JobR.stage {N E : Nat} {j : JW} {X : WS} (h : JobR j X) (q : Nat) (hq : q < 10) (hs : j.st = (q : Nat)) : JobR (D7 q { j with st := j.st + 1 } X).1 (D7 q { j with st := j.st + 1 } X).2.1 := by
 have hr := h.r
 have hcase : q = 0 ∨ q = 1 ∨ q = 2 ∨ q = 3 ∨ q = 4 ∨ q = 5 ∨ q = 6 ∨ q = 7 ∨ q = 8 ∨ q = 9 := by omega
 rcases hcase with rfl | rfl | rfl | rfl | rfl | rfl | rfl | rfl | rfl | rfl
 ·show JobR (jw0 _ X).1 (jw0 _ X).2.1
  unfold jw0
  by_cases c1 : G7 X.c j.who < 0
  ·rw [if_pos c1]; exact ⟨fun _ (g : (10 : Int) < 10) => by omega⟩
  rw [if_neg c1]
  by_cases c2 : (C7 j.text).2.2 = 0
  ·rw [if_neg (by simpa using c2)]; exact ⟨fun _ _ => ⟨c2, rfl, rfl, rfl⟩⟩
  ·rw [if_pos c2]; exact ⟨fun _ (g : (10 : Int) < 10) => by omega⟩
 ·exact ⟨fun _ _ => hr (by omega) (by omega)⟩
 ·show JobR (jw2 _ X).1 (jw2 _ X).2.1
  unfold jw2
  split
  ·exact ⟨fun _ _ => hr (by omega) (by omega)⟩
  ·exact ⟨fun _ _ => hr (by omega) (by omega)⟩
 ·exact ⟨fun _ _ => hr (by omega) (by omega)⟩
 ·exact ⟨fun _ _ => hr (by omega) (by omega)⟩
 ·exact ⟨fun _ _ => hr (by omega) (by omega)⟩
 ·exact ⟨fun _ _ => hr (by omega) (by omega)⟩
 ·exact ⟨fun _ _ => hr (by omega) (by omega)⟩
 ·exact ⟨fun _ _ => hr (by omega) (by omega)⟩
 ·exact ⟨fun _ _ => hr (by omega) (by omega)⟩
def Z2 (w : World) (l : List Y9) : Prop := ∀ r ∈ l, ∀ p, r.1 = .rdy p → r.2.2.1 = p.length ∧ p.length ≤ 1000 ∧ E2 w (rsP r) p.length (p.flatMap E8)
end Go.Proofs.YtpnidmkaobfhiaaGreat
namespace Go.Proofs.YtpnidmkaobfhiaaGreat
open Go
structure RJ where
 who : Int
 op : OpV
 pv : Value
 st : Int
 pins : Value
 slot : Int
 old : Int
 tab : Value
 place : Int
 ans : AnsV
def C5z (who : Int) (op : OpV) (pv : Value) : RJ := ⟨who, op, pv, 0, N2, 0, 0, N2, 0, S7⟩
def RJ.refuse (j : RJ) (e : Int) : RJ := { j with st := -1, ans := ⟨e, 0, false, 0⟩ }
end Go.Proofs.YtpnidmkaobfhiaaGreat
namespace Go.Proofs.YtpnidmkaobfhiaaGreat
open Go
end Go.Proofs.YtpnidmkaobfhiaaGreat
namespace Go.Proofs.YtpnidmkaobfhiaaGreat
open Go
end Go.Proofs.YtpnidmkaobfhiaaGreat
namespace Go.Proofs.YtpnidmkaobfhiaaGreat
open Go
end Go.Proofs.YtpnidmkaobfhiaaGreat
namespace Go.Proofs.YtpnidmkaobfhiaaGreat
open Go
end Go.Proofs.YtpnidmkaobfhiaaGreat
namespace Go.Proofs.YtpnidmkaobfhiaaGreat
open Go
end Go.Proofs.YtpnidmkaobfhiaaGreat
namespace Go.Proofs.YtpnidmkaobfhiaaGreat
open Go
end Go.Proofs.YtpnidmkaobfhiaaGreat
namespace Go.Proofs.YtpnidmkaobfhiaaGreat
open Go
end Go.Proofs.YtpnidmkaobfhiaaGreat
namespace Go.Proofs.YtpnidmkaobfhiaaGreat
open Go
def D4f (op : OpV) (j : JV) (r : RJ) (pins : List Int) (P : V0) : Prop := match j with
 | .upd u => op.kind = 1 ∧ op.pool = u.pool ∧ pins = u.pins ∧ (u.b.st ≠ -1 → r.slot = u.slot ∧ r.old = u.old)
 | .exp e => op.kind = 2 ∧ op.shard = e.shard ∧ r.place = (e.place : Nat) ∧ (r.tab, e.table) ∈ P
 | .sta _ => op.kind = 3
 | .non _ => ¬ op.kind = 1 ∧ ¬ op.kind = 2 ∧ ¬ op.kind = 3
structure RelJ (op : OpV) (pv : Value) (j : JV) (r : RJ) (pins : List Int) (P : V0) : Prop where
 ho : r.op = op
 pv : r.pv = pv
 who : r.who = j.b.who
 st : r.st = j.b.st
 ans : r.ans = j.b.ans
 k : D4f op j r pins P
abbrev RQ := RJ × List Int × V0 × XH
structure RqF (op : OpV) (pa : Option Addr) (pc : Nat) (P : V0) (x : XH) (j' : JV) (X' : WS) (y : RQ) : Prop where
 b : y.2.2.2.b = x.b
 r : XRel X' y.2.2.2.xs
 j : RelJ op (.slice pa op.pool.length pc) j' y.1 y.2.1 y.2.2.1
 sub : A07 y.2.2.2.ts y.2.2.1
 mono : A07 P y.2.2.1
 grow : ∀ t ∈ y.2.2.1, t ∈ P ∨ ∃ e, j' = .exp e ∧ t.2 = e.table
 pools : ∀ q ∈ y.2.2.2.sl, q ∈ x.sl ∨ (∀ p, q.1 ≠ .rdy p) ∨ q = (.rdy op.pool, pa, op.pool.length, pc)
end Go.Proofs.YtpnidmkaobfhiaaGreat
namespace Go.Proofs.YtpnidmkaobfhiaaGreat
open Go
def V4 (who : Int) (op : OpV) (pv : Value) : CJ :=
 if op.kind = 1 then .upd (G3 who op.pool) pv N2 else if op.kind = 2 then .exp ⟨⟨who, 0, S7⟩, op.shard, 0, []⟩ N2 else if op.kind = 3 then .sta ⟨who, 0, S7⟩ else .non ⟨who, 0, S7⟩
theorem C7s (w : World) (who : Int) (op : OpV) (pa : Option Addr) (pn pc : Nat) :
  Fn PR B6 10 #[.int .i64 who, op.val (.slice pa pn pc)] w (Rn [] w (fun (x : Nat × Nat) u => u = .pointer (some ⟨x.1, 0, none⟩)) fun x => H4 x.1 ((V4 who op (.slice pa pn pc)).I x.2) :: cjO x.2 (V4 who op (.slice pa pn pc))) := by
 refine A6x (TW.go (κ := false) (S := []) ?_)
 unfold A2s
 obtain ⟨kind, packet, pool, shard⟩ := op
 unfold V4 OpV.val
 by_cases k1 : kind = 1
 ·subst k1
  refine s9 3 1 ?_
  (have zz:=trivial;repeat((first|clear zz|with_reducible first|refine A3 ?_|refine A5 fun _=>?_|refine A4 fun _=>?_);try simp(disch:=first|omega|assumption|((repeat(first|exact A1|exact uH|apply A2|apply uT));first|done|fail)|(simp;first|done|omega|fail))[]))
  rename_i a1 a2 a3 a4
  refine B1 (a4, a3) rfl ?_
  simp only [if_true, CJ.I, cjO, H4, L7, N4, G3, D5, S7, N2, G2, List.map_nil, List.length_nil]
  (repeat' constructor)
 by_cases k2 : kind = 2
 ·subst k2
  (have zz:=trivial;repeat((first|clear zz|with_reducible first|refine A3 ?_|refine A5 fun _=>?_|refine A4 fun _=>?_);try simp(disch:=first|omega|assumption|((repeat(first|exact A1|exact uH|apply A2|apply uT));first|done|fail)|(simp;first|done|omega|fail))[]))
  rename_i a1 a2 a3 a4
  refine B1 (a4, a3) rfl ?_
  simp only [show ¬ ((2 : Int) = 1) by omega, if_false, if_true, CJ.I, cjO, H4, r8, D5, S7, N2]
  (repeat' constructor)
 by_cases k3 : kind = 3
 ·subst k3
  (have zz:=trivial;repeat((first|clear zz|with_reducible first|refine A3 ?_|refine A5 fun _=>?_|refine A4 fun _=>?_);try simp(disch:=first|omega|assumption|((repeat(first|exact A1|exact uH|apply A2|apply uT));first|done|fail)|(simp;first|done|omega|fail))[]))
  rename_i a1 a2 a3 a4
  refine B1 (a4, a3) rfl ?_
  simp only [show ¬ ((3 : Int) = 1) by omega, show ¬ ((3 : Int) = 2) by omega, if_false, if_true, CJ.I, cjO, H4, A1q, D5, S7, N2]
  (repeat' constructor)
 (have zz:=trivial;repeat((first|clear zz|with_reducible first|refine A3 ?_|refine A5 fun _=>?_|refine A4 fun _=>?_);try simp(disch:=first|omega|assumption|((repeat(first|exact A1|exact uH|apply A2|apply uT));first|done|fail)|(simp;first|done|omega|fail))[k1, k2, k3]))
 rename_i a1 a2 a3 a4
 refine B1 (a4, a3) rfl ?_
 simp only [if_neg k1, if_neg k2, if_neg k3, CJ.I, cjO, H4, A3l, D5, S7, N2]
 (repeat' constructor)
theorem B8g (N : Nat) (x : WS) {who : Int} (hw : 0 ≤ who) (op : OpV) (pv : Value) (hwk : 1 ≤ x.c.wk) (hN : 1 ≤ N) : JvI N x (V4 who op pv).v := by
 unfold V4
 split
 ·exact ⟨⟨by simp [G3], by simp [G3] <;> omega⟩, by simp [G3] <;> omega, fun _ => by simp [G3], by simp [G3], by simp [G3]⟩
 split
 ·exact ⟨hw, by simp, Or.inl B0W, fun g => absurd g (by simp), fun g => absurd g (by simp)⟩
 split
 ·exact ⟨hw, by simp <;> omega, fun i _ g => absurd g (by simp <;> omega)⟩
 ·exact Or.inl rfl
theorem C1m {who : Int} {op : OpV} {pv : Value} {P : V0} (hP : (N2, []) ∈ P) : RelJ op pv (V4 who op pv).v (C5z who op pv) [] P := by
 unfold V4
 by_cases k1 : op.kind = 1
 ·rw [if_pos k1]; exact ⟨rfl, rfl, rfl, rfl, rfl, k1, rfl, rfl, fun _ => ⟨rfl, rfl⟩⟩
 rw [if_neg k1]
 by_cases k2 : op.kind = 2
 ·rw [if_pos k2]; exact ⟨rfl, rfl, rfl, rfl, rfl, k2, rfl, rfl, hP⟩
 rw [if_neg k2]
 by_cases k3 : op.kind = 3
 ·rw [if_pos k3]; exact ⟨rfl, rfl, rfl, rfl, rfl, k3⟩
 rw [if_neg k3]
 exact ⟨rfl, rfl, rfl, rfl, rfl, k1, k2, k3⟩
theorem B7N {who : Int} {op : OpV} {pv : Value} {P : V0} (hP : (N2, []) ∈ P) : cjT (V4 who op pv) P := by
 unfold V4
 split
 ·trivial
 split
 ·exact hP
 split
 ·trivial
 ·trivial
theorem B7H {w : World} {who : Int} {op : OpV} {pv : Value} (h1 : op.pool.length ≤ 1000) (h2 : E2 w pv op.pool.length (op.pool.flatMap E8)) : (V4 who op pv).RdP w := by
 unfold V4
 split
 ·exact ⟨h1, h2⟩
 split
 ·trivial
 split
 ·trivial
 ·trivial
end Go.Proofs.YtpnidmkaobfhiaaGreat
namespace Go.Proofs.YtpnidmkaobfhiaaGreat
open Go
def WoH.cnu (m : WoH) (n : Int) : WoH := { m with cn := n }
theorem C6Y {S : List Nat} {w0 : World} {H Hk : List Res} {X : Nat → Prop} {K : Value → WP} (m : WoH) (i : Int) (hcl : m.cells.length ≤ 1024) (hs : Sels (C9 m ++ Hk) H)
  (hK : ∀ n : Int, TW false S w0 (C9 (m.cnu n) ++ Hk) (K (.int .i64 (D3 m.cells i)))) :
  TW false S w0 H (B7 PR X 25 [.pointer (some ⟨m.bc, 0, none⟩), .int .i64 i] K) := by
 refine Sels.tw hs ?_
 simp only [C9, List.cons_append, List.nil_append]
 refine D0 (Hc := D2 m.bc m.cn m.cv m.ov m.cells m.own) Y5 (fun w' _ hs => A8r w' m.bc m.cn m.cv m.ov m.cells m.own i hcl hs) (by unfold D2; (repeat' constructor)) ?_
 rintro n v rfl
 refine Sels.tw (rs := C9 (m.cnu n) ++ Hk) (by simp only [D2, C9, WoH.cnu, List.cons_append, List.nil_append]; repeat (first | exact n4 _ | (apply Sels.cons; · (repeat constructor)))) (hK n)
end Go.Proofs.YtpnidmkaobfhiaaGreat
namespace Go.Proofs.YtpnidmkaobfhiaaGreat
open Go
theorem C7D (who : Int) (op : OpV) (pv : Value) : (V4 who op pv).v = B1L who op := by
 unfold V4 B1L
 split
 ·rfl
 split
 ·rfl
 split
 ·rfl
 ·rfl
structure CrI (N E cp : Nat) (m : WoH) (a0 : CA) (n : Nat) (a : CA) : Prop where
 le : n ≤ 200
 c : CjC cp a
 g : CI N (E + n) a.1.v (V9 m a)
 pl : a.1.pl = a0.1.pl
 i : ∀ b, a.1.I b = a0.1.I b
 sub : A07 a0.2.2 a.2.2
abbrev crV (m : WoH) (a : CA) : JV × WS := (a.1.v, V9 m a)
theorem C6r {N E cp : Nat} (w : World) (jb b : Nat) (m : WoH) (a0 : CA) (hc : CjC cp a0) (hE : E ≤ 500) (hg : CI N E a0.1.v (V9 m a0)) (hcp : (V9 m a0).c.cp.toNat = cp) (hv : ∀ w', KS false (B2 (s8 jb b m a0)) w w' → a0.1.RdP w') (hw : LW false (B2 (s8 jb b m a0)) w (s8 jb b m a0) w) :
  Fn PR B6 23 #[.pointer (some ⟨jb, 0, none⟩), .pointer (some ⟨m.b, 0, none⟩)] w (Rn (B2 (s8 jb b m a0)) w (fun (y : C0p CA) u => u = .tuple #[.int .i64 (y.2.1 : Nat), .int .i64 (y.2.2.1 : Nat), .int .i64 (y.2.2.2 : Nat)] ∧ CrI N E cp m a0 y.2.1 y.1 ∧ Z9 (crV m y.1) y.2.1 y.2.2.1 y.2.2.2 = T0 200 (Z9 (crV m a0) 0 0 0)) fun y => s8 jb b m y.1) := by
 refine C5q w _ _ (s8 jb b m) (CrI N E cp m a0) (crV m) a0 ⟨by omega, hc, hg, rfl, fun _ => rfl, fun _ h => h⟩ ?_ ?_ hw
 ·intro n a w' h hw'
  exact C0m w w' jb b m a (fun r hr => hr) h.g.w hw'
 ·intro n a w' hn h hr hw' hs
  have hcx : (V9 m a).c.cp.toNat = cp := hcp
  refine (C10 w' jb b m a cp h.c (by omega) h.g hcx (fun w'' hk => (hv w'' (hw'.ks.then hk fun x hx => ?_)).of h.pl) hs).mono fun u w'' ⟨a', ⟨h1, h2⟩, h3⟩ => ?_
  ·obtain ⟨r, hr, hxr⟩ := G8.1 hx
   exact (hw'.own r hr x hxr).1
  ·have hst := A1H hr
   have hg' := h.g.step (by omega)
   rw [← h2.v, ← h2.x] at hg'
   refine ⟨a', ⟨?_, ?_, ⟨by omega, h2.c, hg', h2.p.trans h.pl, fun b => (h2.i b).trans (h.i b), fun t ht => h2.sub t (h.sub t ht)⟩⟩, h3⟩
   ·rw [h1, hst]
   ·show (a'.1.v, V9 m a') = _
    rw [h2.v, h2.x, hst]; rfl
theorem C8k {N E cp : Nat} {S : List Nat} {w0 : World} {Hk : List Res} {X : Nat → Prop} {K : Value → WP} (jb b : Nat) (m : WoH) (a0 : CA) (hc : CjC cp a0) (hE : E ≤ 500) (hg : CI N E a0.1.v (V9 m a0)) (hcp : (V9 m a0).c.cp.toNat = cp) (hv : ∀ w', KS false S w0 w' → a0.1.RdP w')
  (hK : ∀ (a : CA) (n tk bad : Nat), CrI N E cp m a0 n a → Z9 (crV m a) n tk bad = T0 200 (Z9 (crV m a0) 0 0 0) → TW false S w0 (s8 jb b m a ++ Hk) (K (.tuple #[.int .i64 (n : Nat), .int .i64 (tk : Nat), .int .i64 (bad : Nat)]))) :
  TW false S w0 (s8 jb b m a0 ++ Hk) (B7 PR X 23 [.pointer (some ⟨jb, 0, none⟩), .pointer (some ⟨m.b, 0, none⟩)] K) := by
 refine D0 (Hc := s8 jb b m a0) (Hk := Hk) A6d (fun w' hw' hs => C6r w' jb b m a0 hc hE hg hcp (C7Q hv hw') hs) (B2Q _ _) ?_
 rintro ⟨a, n, tk, bad⟩ v ⟨rfl, h1, h2⟩
 exact hK a n tk bad h1 h2
abbrev CB := WoG × V0 × MoH
abbrev A03 (bc : Nat) (c : CfgV) : Res := .pt bc (.cells #[.int .i64 c.wk, .int .i64 c.sh, .int .i64 c.cp, .int .i64 c.idle, .int .i64 c.sl] 23)
def cbH (bc : Nat) (c : CfgV) (m : WoH) (y : CB) : List Res := A03 bc c :: E5 y.2.1 :: (C9 (m.ug y.1) ++ D4 y.2.2)
structure CbC (N : Nat) (c : CfgV) (m : WoH) (mb i : Nat) (y : CB) : Prop where
 tab : ∀ t ∈ y.2.1, TabOk 0 t.2 ∨ TabOk c.cp.toNat t.2
 sub : A07 y.1.ts y.2.1
 nil : (N2, []) ∈ y.2.1
 g : WI N i (m.ug y.1).ws
 k : KpI (m.ug y.1).ws
 w : ClW N c (m.ug y.1).ws y.2.2.st
 inv : Inv c y.2.2.st
 b : y.2.2.b = mb
theorem pc1 (J W M : List Res) (q t : Res) : (J ++ (q :: t :: (W ++ M))).Perm ((W ++ (J ++ [t])) ++ (q :: M)) := by
 have e1 : J ++ (q :: t :: (W ++ M)) = J ++ ([q] ++ ([t] ++ (W ++ M))) := by simp
 have e2 : (W ++ (J ++ [t])) ++ (q :: M) = W ++ (J ++ ([t] ++ ([q] ++ M))) := by simp
 rw [e1, e2]
 refine (List.Perm.append_left J ((List.Perm.append_left [q] (List.perm_append_comm_assoc [t] W M)).trans (List.perm_append_comm_assoc [q] W _))).trans ?_
 refine (List.perm_append_comm_assoc J W _).trans (List.Perm.append_left W (List.Perm.append_left J ?_))
 exact List.perm_append_comm_assoc [q] [t] M
theorem pc2 (A M : List Res) (q : Res) : (A ++ (q :: M)).Perm (M ++ (A ++ [q])) := by
 have e1 : A ++ (q :: M) = (A ++ [q]) ++ M := by simp
 rw [e1]
 exact List.perm_append_comm
theorem pc3 (J W M : List Res) (q t : Res) : (M ++ ((W ++ (J ++ [t])) ++ [q])).Perm ((q :: t :: (W ++ M)) ++ J) := by
 have h := (pc1 J W M q t).symm.trans (List.perm_append_comm (l₁ := J))
 refine List.Perm.trans ?_ h
 exact (pc2 (W ++ (J ++ [t])) M q).symm
theorem V2.free {x : WS} {N : Nat} (h : x.own = G6 N) : V2 x := fun i hi _ => by
 have hl : i < N := by rw [h] at hi; simpa [G6] using hi
 rw [h]; exact x8 hl
theorem CbC.next {N i mb n : Nat} {c : CfgV} {m : WoH} {d d' : WoG} {P P' : V0} {mm mm' : MoH} {cj cj' : CJ} {R : RunV} {D : MoS × AnsV} (h : CbC N c m mb i (d, P, mm)) (hcr : CrI N i c.cp.toNat m (cj, d, P) n (cj', d', P')) (hR : CalR N c (m.ug d).ws mm.st R D) (hx : (m.ug d').ws = R.x) (h1 : mm'.st = D.1) (h2 : Inv c mm'.st) (h3 : mm'.b = mb) : CbC N c m mb (i + 1) (d', P', mm') := by
 have hep := hR.ep
 have hep0 := h.g.ep
 rw [← hx] at hep
 simp only at hep hep0
 have hg := hcr.g.w
 have hgw : WI N (i + 1) (m.ug d').ws := { hg with ep := by show 0 ≤ D3 (m.ug d').ws.cells 0 ∧ _; omega, jep := ⟨Int.le_refl _, by show (0 : Int) ≤ ((i + 1 : Nat) : Int); omega⟩ }
 have hw := hR.w
 rw [← hx, ← h1] at hw
 exact ⟨hcr.c.tab, hcr.c.sub, hcr.sub _ h.nil, hgw, hcr.g.k, hw, h2, h3⟩
end Go.Proofs.YtpnidmkaobfhiaaGreat
namespace Go.Proofs.YtpnidmkaobfhiaaGreat
open Go
end Go.Proofs.YtpnidmkaobfhiaaGreat
namespace Go.Proofs.YtpnidmkaobfhiaaGreat
open Go
end Go.Proofs.YtpnidmkaobfhiaaGreat
namespace Go.Proofs.YtpnidmkaobfhiaaGreat
open Go
end Go.Proofs.YtpnidmkaobfhiaaGreat
namespace Go.Proofs.YtpnidmkaobfhiaaGreat
open Go
def D33 (l : List Y9) : Prop := ∀ r ∈ l, ∀ p, r.1 = .rdy p → r.2.2.1 = p.length
end Go.Proofs.YtpnidmkaobfhiaaGreat
namespace Go.Proofs.YtpnidmkaobfhiaaGreat
open Go
theorem Z2.set2 {w : World} {l : List Y9} (h : Z2 w l) (i : Int) (r : Y9) (hr : ∀ p, r.1 = .rdy p → r.2.2.1 = p.length ∧ p.length ≤ 1000 ∧ E2 w (rsP r) p.length (p.flatMap E8)) : Z2 w (A4B l i r) := fun x hx p e => by
 unfold A4B at hx
 split at hx
 ·rcases List.mem_or_eq_of_mem_set hx with hx | rfl
  ·exact h x hx p e
  ·exact hr p e
 ·exact h x hx p e
theorem Z2.hap2 {w : World} {y : XS} (h : Z2 w y.sl) (a : ActV) (ha : a.pool.length ≤ 8) (hv : E2 w a.pv a.pool.length (a.pool.flatMap E8)) : Z2 w (A1y a y).sl := by
 unfold A1y
 split
 ·exact h
 split
 ·split <;> exact h
 split
 ·split <;> exact h
 split
 ·show Z2 w (if isI y.sl.length a.n then A5P (A7T y.sl a.n) a.n a.pool (a.pa, a.pool.length, a.pc) else y.sl)
  split
  ·unfold A5P
   have hb : Z2 w (A7T y.sl a.n) := h.set2 _ _ fun p e => by cases e
   split
   ·exact hb.set2 _ _ fun p e => by
     have : a.pool = p := by simpa using e
     subst this
     exact ⟨rfl, by omega, hv⟩
   ·exact hb
  ·exact h
 split
 ·exact h.set2 _ _ fun p e => by cases e
 split
 ·split <;> exact h
 split
 ·exact h
 ·exact h
end Go.Proofs.YtpnidmkaobfhiaaGreat
namespace Go.Proofs.YtpnidmkaobfhiaaGreat
open Go
abbrev SQ := (Nat × Nat × Nat) × CA × RQ
structure StI (w : World) (m : WoH) (cp N xb i : Nat) (s : SQ) : Prop where
 c : CjC cp s.2.1
 g : CI N i s.2.1.1.v (V9 m s.2.1)
 x : XI i s.2.2.2.2.2.xs
 r : XRel (V9 m s.2.1) s.2.2.2.2.2.xs
 op : ∃ (o : OpV) (pa : Option Addr) (pc : Nat), o.pool.length ≤ 8 ∧ E2 w (.slice pa o.pool.length pc) o.pool.length (o.pool.flatMap E8) ∧ RelJ o (.slice pa o.pool.length pc) s.2.1.1.v s.2.2.1 s.2.2.2.1 s.2.2.2.2.1
 rd : s.2.1.1.RdP w
 sub : A07 s.2.2.2.2.2.ts s.2.2.2.2.1
 tab : ∀ t ∈ s.2.2.2.2.1, TabOk 0 t.2 ∨ TabOk cp t.2
 pools : Z2 w s.2.2.2.2.2.sl
 nP : (N2, []) ∈ s.2.1.2.2
 nX : (N2, []) ∈ s.2.2.2.2.1
 xb : s.2.2.2.2.2.b = xb
theorem C7x {cp : Nat} {t : List EnV} (h : TabOk 0 t ∨ TabOk cp t) : N8 t ∧ t.length ≤ 1000000 := by
 rcases h with h | h
 ·exact ⟨h.keys, by rw [h.len]; omega⟩
 ·exact ⟨h.keys, by have := h.few; rw [h.len]; omega⟩
theorem CJ.RdP.ks {w w' : World} {a : CJ} (h : a.RdP w) (hk : KS false [] w w') : a.RdP w' := by
 cases a with
 | upd j pv qv => exact ⟨h.1, h.2.ks hk (by simp)⟩
 | exp j tv => trivial
 | sta j => trivial
 | non j => trivial
theorem Z2.len {w : World} {l : List Y9} (h : Z2 w l) : D33 l := fun r hr p e => (h r hr p e).1
theorem XRel.xi {N E i : Nat} {X : WS} {y z : XS} (hr : XRel X y) (hg : WI N E X) (hE : E ≤ i) (hz : XI i z) (hc : z.c = X.c) : XI i y := by
 have how : X.own.length = N := hg.ow
 have hsl : y.sl.length ≤ 8 := by have h1 := congrArg List.length hr.sl; have h2 := hg.ok.sl; simp at h1; omega
 have hep := hg.ep
 exact ⟨by rw [hr.c, ← hc]; exact hz.sh, by rw [hr.c, ← hc]; exact hz.csl, by rw [hr.now]; exact hg.now, by rw [hr.locks, hr.c, hg.sh, how], hsl, by rw [hr.ep]; omega⟩
theorem XI.up2 {E : Nat} {y : XS} (h : XI E y) : XI (E + 1) y := { h with ep := by have := h.ep; omega }
theorem StI.step {w : World} {m : WoH} {cp N xb i : Nat} {jb b b2 : Nat} {a a' : CA} {q y : RQ} {o : OpV} {pa : Option Addr} {pc : Nat} (h : StI w m cp N xb i ((jb, b, b2), a, q)) (hi : i ≤ 1000) (ho : o.pool.length ≤ 8) (hrd : E2 w (.slice pa o.pool.length pc) o.pool.length (o.pool.flatMap E8))
  (hN : CjN cp m a a') (hF : RqF o pa pc q.2.2.1 q.2.2.2 (a.1.v.step (V9 m a)).1 (a.1.v.step (V9 m a)).2.1 y) (hcp : (V9 m a).c.cp.toNat = cp) : StI w m cp N xb (i + 1) ((jb, b, b2), a', y) := by
 have hg := h.g.step hi
 rw [← hN.v, ← hN.x] at hg
 have hr := hF.r
 rw [← hN.x] at hr
 have hj := hF.j
 rw [← hN.v] at hj
 have hcx : (V9 m a').c = (V9 m a).c := rfl
 refine ⟨hN.c, hg, hr.xi (E := i + 1) hg.w (Nat.le_refl _) h.x.up2 (by rw [hcx]; exact h.r.c), hr, ⟨o, pa, pc, ho, hrd, hj⟩, h.rd.of hN.p, hF.sub, fun t ht => ?_, fun r hr2 p e => ?_, hN.sub _ h.nP, hF.mono _ h.nX, hF.b.trans h.xb⟩
 ·rcases hF.grow t ht with g | ⟨e, g1, g2⟩
  ·exact h.tab t g
  ·rw [g2]
   have := hg.j
   rw [hN.v, g1] at this
   have := this.2.2.1
   rw [hcx, hcp] at this
   exact this
 ·rcases hF.pools r hr2 with g | g | g
  ·exact h.pools r g p e
  ·exact absurd e (g p)
  ·rw [g] at e ⊢
   have e : o.pool = p := by simpa using e
   subst e
   exact ⟨rfl, by omega, hrd⟩
theorem StI.hap {w : World} {m : WoH} {cp N xb i : Nat} {jb b b2 : Nat} {a a' : CA} {r : RJ} {pins : List Int} {P : V0} {x x' : XH} (h : StI w m cp N xb i ((jb, b, b2), a, r, pins, P, x)) (hi : i ≤ 1000) (ac : ActV) (hcsl : (V9 m a).c.sl ≤ 8) (ha : ac.pool.length ≤ 8) (hv : E2 w ac.pv ac.pool.length (ac.pool.flatMap E8))
  (e1 : a'.1 = a.1) (e2 : V9 m a' = j4 ac (V9 m a) x.xs) (e3 : x'.b = x.b) (e4 : x'.xs = A1y ac x.xs) (e5 : x'.ts = x.ts) (e6 : CjC cp a') (e7 : a'.2.2 = a.2.2) : StI w m cp N xb (i + 1) ((jb, b, b2), a', r, pins, P, x') := by
 have hg : CI N (i + 1) a'.1.v (V9 m a') := by rw [e1, e2]; exact h.g.hap hi h.r ac hcsl
 have how : ((V9 m a).own.length : Int) = (V9 m a).c.sh := by rw [h.g.w.ow, h.g.w.sh]
 have hep := h.g.w.ep
 have hr := (h.r.hap h.g.w.ok h.g.f ⟨hep.1, by omega⟩ ac how).1
 rw [← e2, ← e4] at hr
 have hx : XI (i + 1) x'.xs := by rw [e4]; exact h.x.hap ac
 have hsl : x'.sl = (A1y ac x.xs).sl := by rw [← e4]; rfl
 obtain ⟨o, pa, pc, h1, h2, h3⟩ := h.op
 exact ⟨e6, hg, hx, hr, ⟨o, pa, pc, h1, h2, by rw [e1]; exact h3⟩, by rw [e1]; exact h.rd, by show A07 x'.ts P; rw [e5]; exact h.sub, h.tab, by show Z2 w x'.sl; rw [hsl]; exact Z2.hap2 (y := x.xs) h.pools ac ha hv, by rw [e7]; exact h.nP, h.nX, e3.trans h.xb⟩
theorem StI.job {w : World} {m : WoH} {cp N xb i : Nat} {p p' : Nat × Nat × Nat} {c : CJ} {d : WoG} {P : V0} {r : RJ} {pins : List Int} {PX : V0} {x : XH} (h : StI w m cp N xb i (p, (c, d, P), r, pins, PX, x)) {who : Int} (hwho : 0 ≤ who) {o : OpV} {pa : Option Addr} {pc : Nat} (ho : o.pool.length ≤ 8) (hrd : E2 w (.slice pa o.pool.length pc) o.pool.length (o.pool.flatMap E8)) :
  StI w m cp N xb i (p', (V4 who o (.slice pa o.pool.length pc), d, P), C5z who o (.slice pa o.pool.length pc), [], PX, x) := by
 have hw := h.g.w
 exact ⟨⟨h.c.tab, h.c.sub, B7N h.nP⟩, ⟨hw, B8g N _ hwho o _ hw.ok.wk.1 hw.n.1, h.g.f, h.g.k, h.g.cp⟩, h.x, h.r, ⟨o, pa, pc, ho, hrd, C1m h.nX⟩, B7H (by omega) hrd, h.sub, h.tab, h.pools, h.nP, h.nX, h.xb⟩
def cjn (a : CA) (n : Int) : CA := (a.1, { a.2.1 with cn := n }, a.2.2)
theorem StI.cn {w : World} {m : WoH} {cp N xb i : Nat} {p : Nat × Nat × Nat} {a : CA} {q : RQ} (h : StI w m cp N xb i (p, a, q)) (n : Int) : StI w m cp N xb i (p, cjn a n, q) := ⟨⟨h.c.tab, h.c.sub, h.c.tb⟩, h.g, h.x, h.r, h.op, h.rd, h.sub, h.tab, h.pools, h.nP, h.nX, h.xb⟩
end Go.Proofs.YtpnidmkaobfhiaaGreat
namespace Go.Proofs.YtpnidmkaobfhiaaGreat
open Go
end Go.Proofs.YtpnidmkaobfhiaaGreat
namespace Go.Proofs.YtpnidmkaobfhiaaGreat
open Go
theorem C6s {l : List (OpV × Value)} {n : Int} (h : l5 (l.map (·.1)) n = true) {o : OpV × Value} (ho : o ∈ l) : o.1.pool.length ≤ 8 := by
 unfold l5 at h
 rw [Bool.and_eq_true, List.all_eq_true] at h
 have := h.2 o.1 (List.mem_map_of_mem ho)
 unfold B01 at this
 simp only [Bool.and_eq_true, decide_eq_true_eq] at this
 exact this.2
theorem C5W {l : List (OpV × Value)} {n : Int} (h : l5 (l.map (·.1)) n = true) : (l.length : Int) ≤ n := by
 unfold l5 at h
 rw [Bool.and_eq_true] at h
 simpa using h.1
end Go.Proofs.YtpnidmkaobfhiaaGreat
namespace Go.Proofs.YtpnidmkaobfhiaaGreat
open Go
theorem C9S {K : Value → WP} (a b : Bool) : A0 PR (binOp .eql 4 (.bool a) (.bool b)) K = K (.bool (a == b)) := E7 (fun w => by
 have h : (Op.equal 4 (.bool a) (.bool b)).run PR w = .ok (a == b) w := A2j (e := 9999) ty4 w
 simp [binOp, h]) K
theorem C7p {l : List (OpV × Value)} {n : Int} (h : l5 (l.map (·.1)) n = true) {o : OpV × Value} (ho : o ∈ l) : o.1.packet.size ≤ 100 := by
 unfold l5 at h
 rw [Bool.and_eq_true, List.all_eq_true] at h
 have := h.2 o.1 (List.mem_map_of_mem ho)
 unfold B01 at this
 simp only [Bool.and_eq_true, decide_eq_true_eq] at this
 exact this.1
set_option maxHeartbeats 8000000 in
theorem B3B (w : World) (c : CfgV) (who : Int) (ov : Value) (ops : List (OpV × Value)) (hol : ops.length ≤ 9223372036854775807)
  (hov : E2 w ov ops.length (ops.flatMap A01)) (hos : ∀ o ∈ ops, E2 w o.2 o.1.pool.length (o.1.pool.flatMap E8)) :
  Fn PR B6 4 #[c.val, .int .i64 who, ov] w (fun v w' => v = .bool true ∧ C6 [] w w') := by
 refine Fn.pure (A1z (TW.go (κ := false) (S := []) ?_))
 unfold d4
 have hFewO := fun (w' : World) (H : List Res) (hw' : LW false [] w H w') => C4p w' ov ops 12 hol (hov.ks hw'.ks (by simp)) (fun o ho => by obtain ⟨a, k, e, _⟩ := (hos o ho).form; exact ⟨a, k, e⟩)
 obtain ⟨oa, oc, rfl, hor⟩ := hov.form
 simp only [CfgV.val]
 (have zz:=trivial;repeat((first|clear zz|with_reducible first|refine A3 ?_|refine A5 fun _=>?_|refine A4 fun _=>?_);try simp(disch:=first|omega|assumption|((repeat(first|exact A1|exact uH|apply A2|apply uT));first|done|fail)|(simp;first|done|omega|fail))[]))
 rename_i bc
 refine C8 A4b (fun w' _ => C0b w') ?_
 (have zz:=trivial;repeat((first|clear zz|with_reducible first|refine A3 ?_|refine A5 fun _=>?_|refine A4 fun _=>?_);try simp(disch:=first|omega|assumption|((repeat(first|exact A1|exact uH|apply A2|apply uT));first|done|fail)|(simp;first|done|omega|fail))[]))
 refine C8 A4s (fun w' _ => C5V w' c) ?_
 cases hs : A7Y c with
 | false => (have zz:=trivial;repeat((first|clear zz|with_reducible first|refine A3 ?_|refine A5 fun _=>?_|refine A4 fun _=>?_);try simp(disch:=first|omega|assumption|((repeat(first|exact A1|exact uH|apply A2|apply uT));first|done|fail)|(simp;first|done|omega|fail))[])); exact B0 rfl
 | true =>
 (have zz:=trivial;repeat((first|clear zz|with_reducible first|refine A3 ?_|refine A5 fun _=>?_|refine A4 fun _=>?_);try simp(disch:=first|omega|assumption|((repeat(first|exact A1|exact uH|apply A2|apply uT));first|done|fail)|(simp;first|done|omega|fail))[]))
 refine C8 A6e (fun w' hw' => hFewO w' _ hw') ?_
 clear hFewO
 cases hfo : l5 (ops.map (·.1)) 12 with
 | false => (have zz:=trivial;repeat((first|clear zz|with_reducible first|refine A3 ?_|refine A5 fun _=>?_|refine A4 fun _=>?_);try simp(disch:=first|omega|assumption|((repeat(first|exact A1|exact uH|apply A2|apply uT));first|done|fail)|(simp;first|done|omega|fail))[])); exact B0 rfl
 | true =>
 by_cases hw1 : who < 0
 ·(have zz:=trivial;repeat((first|clear zz|with_reducible first|refine A3 ?_|refine A5 fun _=>?_|refine A4 fun _=>?_);try simp(disch:=first|omega|assumption|((repeat(first|exact A1|exact uH|apply A2|apply uT));first|done|fail)|(simp;first|done|omega|fail))[hw1])); exact B0 rfl
 by_cases hw2 : c.wk < who
 ·(have zz:=trivial;repeat((first|clear zz|with_reducible first|refine A3 ?_|refine A5 fun _=>?_|refine A4 fun _=>?_);try simp(disch:=first|omega|assumption|((repeat(first|exact A1|exact uH|apply A2|apply uT));first|done|fail)|(simp;first|done|omega|fail))[hw1, hw2])); exact B0 rfl
 (have zz:=trivial;repeat((first|clear zz|with_reducible first|refine A3 ?_|refine A5 fun _=>?_|refine A4 fun _=>?_);try simp(disch:=first|omega|assumption|((repeat(first|exact A1|exact uH|apply A2|apply uT));first|done|fail)|(simp;first|done|omega|fail))[hw1, hw2]))
 refine H9 A9D (fun w' hw' => B9k w' c) ?_
 cases hok : N1 c with
 | false =>
  simp only [Bool.false_eq_true, if_false]
  rintro m v rfl
  (have zz:=trivial;repeat((first|clear zz|with_reducible first|refine A3 ?_|refine A5 fun _=>?_|refine A4 fun _=>?_);try simp(disch:=first|omega|assumption|((repeat(first|exact A1|exact uH|apply A2|apply uT));first|done|fail)|(simp;first|done|omega|fail))[]))
  refine C51 (fun _ => ?_) (fun mm h => by rw [hok] at h; cases h)
  (have zz:=trivial;repeat((first|clear zz|with_reducible first|refine A3 ?_|refine A5 fun _=>?_|refine A4 fun _=>?_);try simp(disch:=first|omega|assumption|((repeat(first|exact A1|exact uH|apply A2|apply uT));first|done|fail)|(simp;first|done|omega|fail))[]))
  exact B0 rfl
 | true =>
 simp only [if_true]
 rintro m v ⟨rfl, hmc, hws⟩
 simp only [C9, H3, List.cons_append, List.nil_append]
 (have zz:=trivial;repeat((first|clear zz|with_reducible first|refine A3 ?_|refine A5 fun _=>?_|refine A4 fun _=>?_);try simp(disch:=first|omega|assumption|((repeat(first|exact A1|exact uH|apply A2|apply uT));first|done|fail)|(simp;first|done|omega|fail))[]))
 refine C51 (fun h => by rw [hok] at h; cases h) ?_
 intro mm _ hmst hinv
 simp only [D4, List.cons_append, List.nil_append]
 (have zz:=trivial;repeat((first|clear zz|with_reducible first|refine A3 ?_|refine A5 fun _=>?_|refine A4 fun _=>?_);try simp(disch:=first|omega|assumption|((repeat(first|exact A1|exact uH|apply A2|apply uT));first|done|fail)|(simp;first|done|omega|fail))[]))
 refine C8 A4e (fun w' hw' => C1d w' m (hw'.pt (b := m.b) (by unfold M8; (repeat constructor)))) ?_
 have hok2 := hok
 simp only [N1, Z8, Bool.and_eq_true, decide_eq_true_eq] at hok2
 obtain ⟨N, hN⟩ : ∃ N : Nat, c.sh = N := ⟨c.sh.toNat, by omega⟩
 have hNt : c.sh.toNat = N := by omega
 have hcc : m.c = c := congrArg WS.c hws
 have hg0 := GI.new hok 0 ByteArray.empty (by decide)
 rw [hNt, ← hws] at hg0
 have hk0 : KpI (L0 c) := ⟨by simp [L0], fun y hy => by rw [(List.mem_replicate.1 hy).2]; intro _; rfl⟩
 have hwn := B79 hok
 have hcl0 : ClW N c (L0 c) mm.st := by
  rw [hmst]
  refine ⟨CurI.new hok hwn, fun i => A1Z _ _, rfl, by show List.replicate _ _ = _; rw [hNt]; rfl, rfl, Or.inl ⟨A1Z _ _, rfl⟩, rfl, ?_, ?_, ?_, fun t ht => ?_⟩
  ·simp [L0, A19]
  ·simp [L0, A19]
  ·simp [L0, hNt]
  ·rw [(List.mem_replicate.1 (show t ∈ List.replicate c.sh.toNat (newE c.cp.toNat) from ht)).2, A4l]; omega
 rw [← hws] at hk0 hcl0
 have htabs : ∀ t ∈ m.ts, TabOk c.cp.toNat t.2 := fun t ht => by
  have e1 : m.ts.map (·.2) = List.replicate c.sh.toNat (newE c.cp.toNat) := congrArg WS.tabs hws
  have : t.2 ∈ m.ts.map (·.2) := List.mem_map.2 ⟨t, ht, rfl⟩
  rw [e1] at this
  rw [(List.mem_replicate.1 this).2]; exact TabOk.new (by omega)
 refine s9 155 4 ?_
 refine A5z (r := .slice none 0 0) (l := []) (ts := m.ts) (by (repeat' constructor)) ?_
 obtain ⟨P, hP⟩ : ∃ P, P = m.ts ++ [(N2, [])] := ⟨_, rfl⟩
 rw [show ((.slice none 0 0 : Value), ([] : List EnV)) = (N2, []) from rfl, ← hP]
 have hC0 : CbC N c m mm.b 0 (m.dg, P, mm) := by
  refine ⟨fun t ht => ?_, fun t ht => by rw [hP]; exact List.mem_append_left _ ht, by rw [hP]; exact List.mem_append_right _ (List.mem_singleton.2 rfl), hg0, hk0, hcl0, hinv, rfl⟩
  rw [hP] at ht
  rcases List.mem_append.1 ht with ht | ht
  ·exact Or.inr (htabs t ht)
  ·rw [List.mem_singleton.1 ht]; exact Or.inl B0W
 clear hP htabs hg0 hk0 hcl0 hinv hmst hws hmc hwn
 refine Sels.tw (rs := cbH bc c m (m.dg, P, mm)) (by simp only [cbH, show m.ug m.dg = m from rfl, C9, H3, D4, List.cons_append, List.nil_append]; (repeat' constructor)) ?_
 obtain ⟨mb, hmb⟩ : ∃ mb, mb = mm.b := ⟨_, rfl⟩
 rw [← hmb] at hC0 ⊢
 clear hmb
 have hop : ∀ o ∈ ops, ∃ (o1 : OpV) (pa : Option Addr) (pc : Nat), o = (o1, Value.slice pa o1.pool.length pc) ∧ o1.pool.length ≤ 8 ∧ E2 w (.slice pa o1.pool.length pc) o1.pool.length (o1.pool.flatMap E8) := by
  rintro ⟨o1, o2⟩ ho
  obtain ⟨pa, pc, e, _⟩ := (hos _ ho).form
  simp only at e
  subst e
  exact ⟨o1, pa, pc, rfl, C6s hfo ho, hos _ ho⟩
 have hcpx : ∀ a : CA, (V9 m a).c.cp.toNat = c.cp.toNat := fun a => by show m.c.cp.toNat = _; rw [hcc]
 (have zz:=trivial;repeat((first|clear zz|with_reducible first|refine A3 ?_|refine A5 fun _=>?_|refine A4 fun _=>?_);try simp(disch:=first|omega|assumption|((repeat(first|exact A1|exact uH|apply A2|apply uT));first|done|fail)|(simp;first|done|omega|fail))[]))
 refine w7 (α := CB) ops.length (fun _ _ => .bool false) (fun _ y => cbH bc c m y) (fun i y => CbC N c m mb i y) _ hC0 ?_
 clear hC0
 clear P mm
 rintro i ⟨d, P, mm⟩ hi hC L hL
 have hl12 := C5W hfo
 by_cases hlt : i < ops.length
 ·have hlt' : ((i : Nat) : Int) < (ops.length : Nat) := by omega
  have hge : ¬ ops.length ≤ i := by omega
  obtain ⟨ob, oo, rfl, horow⟩ := hor (by omega)
  obtain ⟨o0, hx⟩ : ∃ o, ops[i]? = some o := ⟨_, List.getElem?_eq_getElem hlt⟩
  have hxm := List.mem_of_getElem? hx
  have hpk := C7p hfo hxm
  obtain ⟨o, pa, pc, rfl, hpl, hrd⟩ := hop _ hxm
  simp only at hpk
  have g1 := horow.cellAt (f := A01) (k := 4) (j := 0) (fun _ => rfl) hx rfl
  have gn := horow.partAt (f := A01) (k := 4) (fun _ => rfl) hx 0 4 (by omega)
  rw [show ((A01 (o, Value.slice pa o.pool.length pc)).drop 0).take 4 = A01 (o, Value.slice pa o.pool.length pc) from rfl, Nat.add_zero] at gn
  rw [Nat.add_zero] at g1
  have gn' : a6 w ob (oo + i * 4) 4 = some (#[.int .i64 o.kind, .string o.packet, .slice pa o.pool.length pc, .int .i64 o.shard] : Array Value).toList := gn
  have ho : (o.val (.slice pa o.pool.length pc)) = .agg #[.int .i64 o.kind, .string o.packet, .slice pa o.pool.length pc, .int .i64 o.shard] := rfl
  have hnx := hL hlt
  have hskip : CbC N c m mb (i + 1) (d, P, mm) := ⟨hC.tab, hC.sub, hC.nil, hC.g.up2, hC.k, hC.w, hC.inv, hC.b⟩
  by_cases k0 : o.kind = 0
  ·rw [k0] at g1
   (have zz:=trivial;repeat((first|clear zz|with_reducible first|refine A3 ?_|refine A5 fun _=>?_|refine A4 fun _=>?_);try simp(disch:=first|omega|assumption|((repeat(first|exact A1|exact uH|apply A2|apply uT));first|done|fail)|(simp;first|done|omega|fail))[hlt, hlt', hge, g1]))
   exact hnx _ hskip
  by_cases k1 : o.kind = 1 ∧ ¬ who = 0
  ·obtain ⟨k1, k2⟩ := k1
   rw [k1] at g1
   (have zz:=trivial;repeat((first|clear zz|with_reducible first|refine A3 ?_|refine A5 fun _=>?_|refine A4 fun _=>?_);try simp(disch:=first|omega|assumption|((repeat(first|exact A1|exact uH|apply A2|apply uT));first|done|fail)|(simp;first|done|omega|fail))[hlt, hlt', hge, g1, k2]))
   exact hnx _ hskip
  have hdec : o.kind = 1 → who = 0 := fun h => Decidable.byContradiction fun g => k1 ⟨h, g⟩
  have hR := C67 hC.w hC.g.n ⟨hC.g.ep.1, by have := hC.g.ep.2; omega⟩ (by omega : 0 ≤ who) (by omega) (fun t ht => by have h := hC.g.te t ht; have e : (m.ug d).ws.c = c := hC.w.cc; simp only [e] at h; exact h) o k0 hdec
  have hcj : CjC c.cp.toNat (V4 who o (.slice pa o.pool.length pc), d, P) := ⟨hC.tab, hC.sub, B7N hC.nil⟩
  have hci : CI N i (V4 who o (.slice pa o.pool.length pc)).v (m.ug d).ws := ⟨hC.g, B8g N _ (by omega) o _ hC.g.ok.wk.1 hC.g.n.1, V2.free hC.w.own, hC.k, by show 1 ≤ m.c.cp; rw [hcc]; omega⟩
  have hnow : (m.ug d).now = 0 := hC.w.now
  have hinv := hC.inv
  have hmb := hC.b
  simp only at hinv hmb hnow
  obtain ⟨D, hD⟩ : ∃ D, D = m7 mm.st o 0 := ⟨_, rfl⟩
  rw [← hD] at hR
  by_cases k1' : o.kind = 1
  rotate_left
  (have zz:=trivial;repeat((first|clear zz|with_reducible first|refine A3 ?_|refine A5 fun _=>?_|refine A4 fun _=>?_);try simp(disch:=first|omega|assumption|((repeat(first|exact A1|exact uH|apply A2|apply uT));first|done|fail)|(simp;first|done|omega|fail))[hlt, hlt', hge, g1, k0, k1', gn, A01]))
  rotate_left
  have k1t := eq_true k1'
  have k2t := eq_true (hdec k1')
  (have zz:=trivial;repeat((first|clear zz|with_reducible first|refine A3 ?_|refine A5 fun _=>?_|refine A4 fun _=>?_);try simp(disch:=first|omega|assumption|((repeat(first|exact A1|exact uH|apply A2|apply uT));first|done|fail)|(simp;first|done|omega|fail))[hlt, hlt', hge, g1, k0, k1t, k2t, gn, A01]))
  all_goals
   rw [← ho]
   refine H9 A1u (fun w' hw' => C7s w' who o pa o.pool.length pc) ?_
   rintro ⟨jb, b⟩ v rfl
   (have zz:=trivial;repeat((first|clear zz|with_reducible first|refine A3 ?_|refine A5 fun _=>?_|refine A4 fun _=>?_);try simp(disch:=first|omega|assumption|((repeat(first|exact A1|exact uH|apply A2|apply uT));first|done|fail)|(simp;first|done|omega|fail))[]))
   refine TW.perm ?_ (pc1 (H4 jb ((V4 who o (.slice pa o.pool.length pc)).I b) :: cjO b (V4 who o (.slice pa o.pool.length pc))) (C9 (m.ug d)) (D4 mm) (A03 bc c) (E5 P))
   refine TW.perm ?_ ((A4K jb b m (V4 who o (.slice pa o.pool.length pc), d, P)).append_right (A03 bc c :: D4 mm)).symm
   refine C8k (N := N) (E := i) (cp := c.cp.toNat) jb b m (V4 who o (.slice pa o.pool.length pc), d, P) hcj (by omega) hci (hcpx _) (fun w' hk => (B7H (by omega) (hrd.ks hk (by simp)))) ?_
   rintro ⟨cj', d', P'⟩ n tk bad hcr hrun
   have hrun2 : T0 200 (Z9 (crV m (V4 who o (.slice pa o.pool.length pc), d, P)) 0 0 0) = T0 200 ⟨B1L who o, (m.ug d).ws, 0, 0, 0⟩ := by rw [← C7D who o (.slice pa o.pool.length pc)]; rfl
   rw [hrun2] at hrun
   have hst := hR.st
   have htk := hR.tk
   have hbad := hR.bad
   have hans := hR.ans
   have hxx : (m.ug d').ws = (T0 200 ⟨B1L who o, (m.ug d).ws, 0, 0, 0⟩).x := by rw [← hrun]; rfl
   rw [← hrun] at hst htk hbad hans
   have hst : cj'.v.b.st = -1 := hst
   have htk : tk = 1 := htk
   have hbad : bad = 0 := hbad
   have hans : cj'.v.b.ans = D.2 := hans
   subst htk hbad
   have hnow' : (m.ug d').now = 0 := by
    have := hR.w.now
    rw [← hxx] at this; exact this
   have hmem : ∀ r ∈ s8 jb b m (cj', d', P'), r ∈ C9 (m.ug d') ++ (H4 jb (cj'.I b) :: (cjO b cj' ++ (E5 P' :: A03 bc c :: D4 mm))) := fun r hr => by
    have h := (A4K jb b m (cj', d', P')).mem_iff.1 hr
    simp only [List.mem_append, List.mem_cons, List.mem_singleton] at h ⊢
    rcases h with h | h | h | h
    ·exact Or.inl h
    ·exact Or.inr (Or.inl h)
    ·exact Or.inr (Or.inr (Or.inl h))
    ·first | exact Or.inr (Or.inr (Or.inr (Or.inl h))) | (rcases h with h | h; exact Or.inr (Or.inr (Or.inr (Or.inl h))); cases h)
   have hS1 : ∀ (w' : World), LW false [] w (C9 (m.ug d') ++ (H4 jb (cj'.I b) :: (cjO b cj' ++ (E5 P' :: A03 bc c :: D4 mm)))) w' → Fn PR B6 19 #[.pointer (some ⟨jb, 0, none⟩)] w' (fun u w'' => u = .int .i64 (-1) ∧ C6 [] w' w'') := fun w' hw' => by rw [← hst]; exact C1B w w' jb b m (cj', d', P') hmem hw'
   have hA1 : ∀ (w' : World), LW false [] w (C9 (m.ug d') ++ (H4 jb (cj'.I b) :: (cjO b cj' ++ (E5 P' :: A03 bc c :: D4 mm)))) w' → Fn PR B6 20 #[.pointer (some ⟨jb, 0, none⟩)] w' (fun u w'' => u = D.2.val ∧ C6 [] w' w'') := fun w' hw' => by rw [← hans]; exact B9N w w' jb b m (cj', d', P') hmem hw'
   refine TW.perm ?_ ((A4K jb b m (cj', d', P')).append_right (A03 bc c :: D4 mm))
   simp only [C9, H3, M8, List.cons_append, List.nil_append]
   rw [show m.b = (m.ug d').b from rfl]
   (have zz:=trivial;repeat((first|clear zz|with_reducible first|refine A3 ?_|refine A5 fun _=>?_|refine A4 fun _=>?_);try simp(disch:=first|omega|assumption|((repeat(first|exact A1|exact uH|apply A2|apply uT));first|done|fail)|(simp;first|done|omega|fail))[]))
   refine C8 l4 (fun w' hw' => hS1 w' hw') ?_
   (have zz:=trivial;repeat((first|clear zz|with_reducible first|refine A3 ?_|refine A5 fun _=>?_|refine A4 fun _=>?_);try simp(disch:=first|omega|assumption|((repeat(first|exact A1|exact uH|apply A2|apply uT));first|done|fail)|(simp;first|done|omega|fail))[hlt, hlt', hge, gn, A01]))
   refine C8 j0 (fun w' hw' => hA1 w' hw') ?_
   simp only [AnsV.val]
   (have zz:=trivial;repeat((first|clear zz|with_reducible first|refine A3 ?_|refine A5 fun _=>?_|refine A4 fun _=>?_);try simp(disch:=first|omega|assumption|((repeat(first|exact A1|exact uH|apply A2|apply uT));first|done|fail)|(simp;first|done|omega|fail))[hlt, hlt', hge, gn, A01, Array.toArray_toList]))
   rw [← ho, ← hmb]
   refine TW.perm (H' := D4 mm ++ ((C9 (m.ug d') ++ (H4 jb (cj'.I b) :: (cjO b cj' ++ [E5 P']))) ++ [A03 bc c])) ?_ ((List.Perm.of_eq ?_).trans (pc2 (C9 (m.ug d') ++ (H4 jb (cj'.I b) :: (cjO b cj' ++ [E5 P']))) (D4 mm) (A03 bc c)))
   rotate_left
   ·simp only [C9, H3, M8, List.cons_append, List.nil_append, List.append_assoc]
   refine D30 (c := c) (m := mm) (o := o) (v := .slice pa o.pool.length pc) (now := (m.ug d').now) D hinv B2c (fun w' hw' => C0L hw' hrd (by omega)) (by omega) (by rw [hnow', hD]) ?_
   intro mm2 hb2 hst2 hinv2
   simp only [AnsV.val]
   (have zz:=trivial;repeat((first|clear zz|with_reducible first|refine A3 ?_|refine A5 fun _=>?_|refine A4 fun _=>?_);try simp(disch:=first|omega|assumption|((repeat(first|exact A1|exact uH|apply A2|apply uT));first|done|fail)|(simp;first|done|omega|fail))[beq_self_eq_true, Bool.and_true, Bool.not_true, decide_true]))
   have hC2 : CbC N c m mb (i + 1) (d', P', mm2) := CbC.next hC hcr hR hxx hst2 hinv2 (hb2.trans hmb)
   refine TW.perm ?_ ((List.Perm.of_eq (by simp only [List.append_assoc, List.cons_append, List.nil_append])).trans (pc3 (H4 jb (cj'.I b) :: cjO b cj') (C9 (m.ug d')) (D4 mm2) (A03 bc c) (E5 P')))
   exact TW.sub (hnx (d', P', mm2) hC2) (List.sublist_append_left _ _)
 obtain rfl : i = ops.length := by omega
 clear hL
 have hown := hC.w.own
 have hgw := hC.g
 have hinv := hC.inv
 have hmb := hC.b
 have hsub := hC.sub
 have htab := hC.tab
 have htb := hC.w.tabs
 have hpool := hC.w.pool
 have hcub := hgw.cur
 simp only at hown hgw hinv hmb hsub htab htb hpool hcub
 have hts : (m.ug d).ts.length = N := by have := hgw.tl; simpa [WoH.ws] using this
 have how : (m.ug d).own.length = N := hgw.ow
 have hn16 := hgw.n
 have hml : mm.ts.length = N := by
  have h := congrArg List.length htb
  simp [MoH.st, WoH.ws, hts] at h; omega
 have hcl : (m.ug d).cells.length ≤ 1024 := by have h1 : (m.ug d).cells.length = _ := hgw.ok.cells; have h2 := hgw.ok.wk; omega
 obtain ⟨z, hz⟩ : ∃ z, z = D3 (m.ug d).cells 1 := ⟨_, rfl⟩
 have hzb : 0 ≤ z ∧ z ≤ 500 := by rw [hz]; exact hcub
 have hwr : IntKind.i64.wrap (z - 1) = z - 1 := T2 (by omega) (by omega)
 have hmp : mm.st.pool = mm.pool := rfl
 have hsz : B31 ((m.ug d).ls.map SlH.sp) (z - 1) = (((mm.pool.length : Nat) : Int), decide (0 ≤ z - 1)) := by
  unfold B31
  rcases hpool with ⟨h0, h1⟩ | ⟨h0, h1⟩
  ·have hz0 : z = 0 := by rw [hz]; exact h0
   have e : N3 ((m.ug d).ls.map SlH.sp) (z - 1) = .no := by rw [hz0]; rfl
   rw [e, hz0, ← hmp, h1]; rfl
  ·have hz1 : 1 ≤ z := by rw [hz]; exact h0
   have e : N3 ((m.ug d).ls.map SlH.sp) (z - 1) = .rdy mm.pool := by rw [hz]; exact h1
   rw [e, decide_eq_true (by omega)]
 have hls : (m.ug d).ls.length ≤ 8 := by have := hgw.ok.sl; simpa [WoH.ws] using this
 simp only [cbH, C9, H3, M8, D4, List.cons_append, List.nil_append]
 rw [show m.b = (m.ug d).b from rfl]
 (have zz:=trivial;repeat((first|clear zz|with_reducible first|refine A3 ?_|refine A5 fun _=>?_|refine A4 fun _=>?_);try simp(disch:=first|omega|assumption|((repeat(first|exact A1|exact uH|apply A2|apply uT));first|done|fail)|(simp;first|done|omega|fail))[Int.lt_irrefl]))
 refine C6Y (m.ug d) 1 hcl (Hk := A03 bc c :: E5 P :: D4 mm) (by simp only [C9, H3, M8, D4, List.cons_append, List.nil_append]; (repeat' constructor)) ?_
 intro n1
 rw [← hz]
 have htd : (m.ug d).ts.map (·.2) = mm.ts.map (fun t => t.1.2) := by
  have h : (m.ug d).ts.map (·.2) = mm.st.tabs.map (·.1) := htb
  rw [h]; simp [MoH.st]
 have hown1 : ∀ k, k < N → A0z (m.ug d).own (k : Nat) = -1 := fun k hk => by
  rw [A4x (by omega), show (m.ug d).own = G6 N from hown]; exact x8 hk
 obtain ⟨mw, hmw⟩ : ∃ mw, mw = (m.ug d).cnu n1 := ⟨_, rfl⟩
 have b1 : (m.ug d).b = mw.b := by rw [hmw]; rfl
 have b3 : (m.ug d).ts = mw.ts := by rw [hmw]; rfl
 have b4 : (m.ug d).own = mw.own := by rw [hmw]; rfl
 have b5 : (m.ug d).ls = mw.ls := by rw [hmw]; rfl
 have b6 : d.ts = mw.ts := by rw [hmw]; rfl
 rw [← hmw, b1]
 rw [b3] at htd hts
 rw [b4] at hown1 how
 rw [b5] at hsz hls
 rw [b6] at hsub
 clear hmw b1 b3 b4 b5 b6 hown hgw htb hpool hcub hC hcl hz
 have hSz := fun (w' : World) (h : SlAt w' mw.bs mw.sv mw.ls) => C5D w' mw.bs mw.sv mw.ls (z - 1) hls h
 rw [hsz] at hSz
 simp only [C9, H3, M8, D4, List.cons_append, List.nil_append]
 (have zz:=trivial;repeat((first|clear zz|with_reducible first|refine A3 ?_|refine A5 fun _=>?_|refine A4 fun _=>?_);try simp(disch:=first|omega|assumption|((repeat(first|exact A1|exact uH|apply A2|apply uT));first|done|fail)|(simp;first|done|omega|fail))[hwr]))
 refine C8 A70 (fun w' hw' => hSz w' (SlAt.own hw' (by (repeat constructor)) (by (repeat constructor)) (by (repeat constructor)))) ?_
 (have zz:=trivial;repeat((first|clear zz|with_reducible first|refine A3 ?_|refine A5 fun _=>?_|refine A4 fun _=>?_);try simp(disch:=first|omega|assumption|((repeat(first|exact A1|exact uH|apply A2|apply uT));first|done|fail)|(simp;first|done|omega|fail))[hwr]))
 refine Sels.tw (rs := A03 bc c :: E5 P :: (C9 mw ++ D4 mm)) (by simp only [C9, H3, M8, D4, List.cons_append, List.nil_append]; (repeat' constructor)) ?_
 rw [← hmb]
 refine w7 (α := Unit) N (fun _ _ => .bool false) (fun _ _ => A03 bc c :: E5 P :: (C9 mw ++ D4 mm)) (fun _ _ => True) () trivial ?_
 rintro k _ hk _ L hL
 by_cases hlt : k < N
 ·have hlt' : ((k : Nat) : Int) < c.sh := by omega
  have hltm : k < mw.ts.length := by omega
  have hgem : ¬ mw.ts.length ≤ k := by omega
  obtain ⟨⟨v1, t1⟩, hx1⟩ : ∃ y, mw.ts[k]? = some y := ⟨_, List.getElem?_eq_getElem hltm⟩
  have hm1 := List.mem_of_getElem? hx1
  have gm : mw.ts[k] = (v1, t1) := (List.getElem?_eq_some_iff.1 hx1).2
  have g1 : (mw.ts.map (·.1))[k]? = some v1 := by rw [List.getElem?_map, hx1]; rfl
  have htv : A3S mm.ts (k : Nat) = t1 := by
   have h := congrArg (fun l => l[k]?) htd
   have hlm : k < mm.ts.length := by omega
   simp only [List.getElem?_map, hx1, List.getElem?_eq_getElem hlm, Option.map_some, Option.some.injEq] at h
   unfold A3S
   rw [if_neg (by omega), Int.toNat_natCast, List.getD_eq_getElem?_getD, List.getElem?_eq_getElem hlm]
   exact h.symm
  have hl1 : t1.length ≤ 1000000 := (C7x (htab _ (hsub _ hm1))).2
  have hfr := hown1 k hlt
  have hOw := fun (w' : World) (H : List Res) (hw' : LW false [] w H w') (hm : ∀ r ∈ C9 mw, r ∈ H) => by
   have h := B5b w' mw.bc mw.cn mw.cv mw.ov mw.own (k : Nat) (WoAt.own hw' hm).c (WoAt.own hw' hm).v
   rw [hfr] at h
   exact h
  refine l2 (e := 55) (k := 1) (v := mw.tv) (q := mw.ts.length) (xs := mw.ts.map (·.1)) (by unfold C9; simp only [List.mem_cons, List.mem_append]; simp) (by omega) fun mg mc hmtv => ?_
  refine B5n (P := P) (v := v1) (l := t1) (by simp) (hsub _ hm1) fun a1 c1 hv1 => ?_
  subst hv1
  simp only [C9, H3, M8, hmtv, List.cons_append, List.nil_append]
  (have zz:=trivial;repeat((first|clear zz|with_reducible first|refine A3 ?_|refine A5 fun _=>?_|refine A4 fun _=>?_);try simp(disch:=first|omega|assumption|((repeat(first|exact A1|exact uH|apply A2|apply uT));first|done|fail)|(simp;first|done|omega|fail))[hlt, hlt', hltm, hgem, g1, gm]))
  refine Sels.tw (rs := D4 mm ++ (A03 bc c :: E5 P :: C9 mw)) (by simp only [C9, H3, M8, hmtv, D4, List.cons_append, List.nil_append]; (repeat' constructor)) ?_
  refine C7b (m := mm) (i := (k : Nat)) hinv B2c ?_
  intro r
  rw [htv]
  refine T4 (e := 155) (k := 4) (v := r) (q := t1.length) (xs := t1.flatMap F1) (by simp [G5]) fun ra rc hu => ?_
  subst hu
  simp only [C9, H3, M8, hmtv, D4, List.cons_append, List.nil_append]
  (have zz:=trivial;repeat((first|clear zz|with_reducible first|refine A3 ?_|refine A5 fun _=>?_|refine A4 fun _=>?_);try simp(disch:=first|omega|assumption|((repeat(first|exact A1|exact uH|apply A2|apply uT));first|done|fail)|(simp;first|done|omega|fail))[hlt, hlt', hltm, hgem, g1, gm]))
  refine C8 A5B (fun w' hw' => C3K w' _ _ t1 t1 hl1 hl1 (p9 (ts := P) (t := (.slice a1 t1.length c1, t1)) hw' (by (repeat constructor)) (hsub _ hm1)) (P4.own (e := 155) (k := 4) (v := .slice ra t1.length rc) (by unfold G5; (repeat constructor)) w' hw')) ?_
  rw [decide_eq_true rfl]
  (have zz:=trivial;repeat((first|clear zz|with_reducible first|refine A3 ?_|refine A5 fun _=>?_|refine A4 fun _=>?_);try simp(disch:=first|omega|assumption|((repeat(first|exact A1|exact uH|apply A2|apply uT));first|done|fail)|(simp;first|done|omega|fail))[hlt, hlt', hltm, hgem, g1, gm]))
  refine C8 A1E (fun w' hw' => hOw w' _ hw' (fun r hr => by simp only [C9, H3, M8, hmtv, List.cons_append, List.nil_append, List.mem_cons] at hr ⊢; rcases hr with h | h | h | h | h | h | h | h | h | h | h <;> simp [h])) ?_
  (have zz:=trivial;repeat((first|clear zz|with_reducible first|refine A3 ?_|refine A5 fun _=>?_|refine A4 fun _=>?_);try simp(disch:=first|omega|assumption|((repeat(first|exact A1|exact uH|apply A2|apply uT));first|done|fail)|(simp;first|done|omega|fail))[]))
  refine Sels.tw ?_ (hL hlt () trivial)
  simp only [C9, H3, M8, hmtv, D4, List.cons_append, List.nil_append]
  (repeat' constructor)
 obtain rfl : k = N := by omega
 clear hL
 have hge : ¬ ((k : Nat) : Int) < c.sh := by omega
 (have zz:=trivial;repeat((first|clear zz|with_reducible first|refine A3 ?_|refine A5 fun _=>?_|refine A4 fun _=>?_);try simp(disch:=first|omega|assumption|((repeat(first|exact A1|exact uH|apply A2|apply uT));first|done|fail)|(simp;first|done|omega|fail))[hge]))
 refine Sels.tw (rs := D4 mm ++ (A03 bc c :: E5 P :: C9 mw)) (by simp only [C9, H3, M8, D4, List.cons_append, List.nil_append]; (repeat' constructor)) ?_
 refine C8z (m := mm) hinv B2c ?_
 intro r
 refine T4 (e := 83) (k := 2) (v := r) (q := mm.pool.length) (xs := mm.pool.flatMap E8) (by simp) fun ra rc hu => ?_
 subst hu
 (have zz:=trivial;repeat((first|clear zz|with_reducible first|refine A3 ?_|refine A5 fun _=>?_|refine A4 fun _=>?_);try simp(disch:=first|omega|assumption|((repeat(first|exact A1|exact uH|apply A2|apply uT));first|done|fail)|(simp;first|done|omega|fail))[C9S, beq_self_eq_true]))
 exact B0 rfl
end Go.Proofs.YtpnidmkaobfhiaaGreat
