/- The proof of a given statement, a part of it (Jw4 Jw5 LockL LockM JwQ WsN JwK Works19 JwG PinL JwS ShL20ControlSlots ShL20ControlSame ShL20ControlBusy RunU Works20 BusyW SameW SlotsW PinW). No condition but what each lemma says. -/
import Derived.Test.YtjobgnabneddjaaGreatP16
set_option linter.unusedVariables false
set_option linter.unusedSimpArgs false
namespace Go.Proofs.YtjobgnabneddjaaGreat
open Go
theorem C6J {κ : Bool} {S : List Nat} {w0 : World} {H : List Res} {F : Value → WP} {A : (Value → WP) → WP} (v : Value) (hF : TW κ S w0 H (F v)) (hA : ∀ J : Value → WP, TW κ S w0 H (J v) → TW κ S w0 H (A J)) : TW κ S w0 H (jn (n := 1) F A) := hA F hF
def idW (l : List EnV) (x : WS) (slot : Int) (key : ByteArray) (now : Int) : Int := if (P1 l (L4 x slot) key now).2 then (l4 l (L4 x slot) key now).1 else (A4Q x.sl slot (b8 key)).1
theorem C65 {l : List EnV} {x : WS} {slot : Int} {key : ByteArray} {now : Int} (h : ¬ ((P1 l (L4 x slot) key now).2 = false ∧ L4 x slot = [])) : idW l x slot key now = A7H l (L4 x slot) key now := by
 unfold idW A7H
 cases hk : (P1 l (L4 x slot) key now).2 with
 | true => simp only [if_true]; exact C2V _ _ _ _ hk
 | false =>
  simp only [Bool.false_eq_true, if_false]
  exact B8a x slot _ fun hp => h ⟨hk, hp⟩
set_option maxHeartbeats 4000000 in
theorem C6x (w : World) (b : Nat) (j : JW) (tv0 : Value) (m : WoH) (P : Q9) (h : JwOk j tv0 m P) (hw : LW false (B6 (E3 b j tv0 m P)) w (E3 b j tv0 m P) w) : A3P 82 w b j tv0 m P (jw6 j m.ws) := by
 refine A7M (TW.goH (κ := false) ?_ hw)
 unfold A1C
 have ht := h.tb
 have hP := h.tabs.pool
 have hkey := h.key
 have hkeys := h.keys
 have hlen := h.len
 have hslot := h.slot
 have hl8 : m.ls.length ≤ 8 := by have := h.ws.sl; simpa [WoH.ws] using this
 generalize hS : B6 (E3 b j tv0 m P) = S at *
 simp only [E3, F9, G7, B9, C8, D1]
 refine A8l (P := P) (v := tv0) (l := j.table) (by (repeat constructor)) ht fun xa xc hxa => ?_
 have hSize := fun (w' : World) => C3A w' m.bs m.sv m.ls j.slot hl8
 rw [show m.ls.map SlH.sp = m.ws.sl from rfl, B81] at hSize
 have hPick := fun (w' : World) => C2H w' m.bs m.sv m.ls j.slot (b8 j.key) hl8
 rw [show m.ls.map SlH.sp = m.ws.sl from rfl] at hPick
 have hid := C65 (l := j.table) (x := m.ws) (slot := j.slot) (key := j.key) (now := j.now)
 have hdef : idW j.table m.ws j.slot j.key j.now = if (P1 j.table (L4 m.ws j.slot) j.key j.now).2 then (l4 j.table (L4 m.ws j.slot) j.key j.now).1 else (A4Q m.ws.sl j.slot (b8 j.key)).1 := rfl
 have hk2 := C2j j.table (L4 m.ws j.slot) j.key j.now
 have hKn := fun (w' : World) (b2 b3 : Nat) => B9g w' b b2 b3 j tv0 m hkey hlen hl8
 unfold jw6
 rw [show m.ws.c.idle = m.c.idle from rfl]
 generalize hrd : B99 m.ws j.slot = rd at *
 generalize A4Q m.ws.sl j.slot (b8 j.key) = pk at *
 generalize l4 j.table (L4 m.ws j.slot) j.key j.now = kw at *
 generalize idW j.table m.ws j.slot j.key j.now = idv at *
 generalize L4 m.ws j.slot = p at *
 subst hxa
 (have zz:=trivial;repeat((first|clear zz|with_reducible first|refine A3 ?_|refine A5 fun _=>?_|refine A4 fun _=>?_);try simp(disch:=first|omega|assumption|((repeat(first|exact A1|exact uH|apply A2|apply uT));first|done|fail)|(simp;first|done|omega|fail))[]))
 rename_i b2 b3 b4
 refine C4 A7P (fun w' hw' => hSize w' (SlAt.own hw' (by (repeat constructor)) (by (repeat constructor)) (by (repeat constructor)))) ?_
 (have zz:=trivial;repeat((first|clear zz|with_reducible first|refine A3 ?_|refine A5 fun _=>?_|refine A4 fun _=>?_);try simp(disch:=first|omega|assumption|((repeat(first|exact A1|exact uH|apply A2|apply uT));first|done|fail)|(simp;first|done|omega|fail))[]))
 refine C4 A35 (fun w' hw' => hKn w' b2 b3 (hw'.cell1 (by (repeat constructor))) (hw'.cell1 (by (repeat constructor))) (hw'.pt (b := b) (by unfold G7; (repeat constructor))) ⟨hw'.pt (by unfold D1; (repeat constructor)), hw'.pt (by (repeat constructor)), P7.own (e := 3) (k := 1) (by (repeat constructor)) w' hw'⟩ (SlAt.own hw' (by (repeat constructor)) (by (repeat constructor)) (by (repeat constructor))) (A8v (ts := P) (t := (_, j.table)) hw' (by (repeat constructor)) ht)) ?_
 rw [hk2]
 clear hKn hk2 hSize
 obtain ⟨ok, hok⟩ : ∃ ok, ok = (P1 j.table p j.key j.now).2 := ⟨_, rfl⟩
 rw [← hok] at hid hdef ⊢
 rw [B64, B5q]
 refine C6J (.int .i64 idv) ?_ ?_
 case refine_2 =>
  intro J hJ
  rw [hdef] at hJ
  clear hdef hid
  cases ok with
  | true =>
   simp only [if_true] at hJ
   (have zz:=trivial;repeat((first|clear zz|with_reducible first|refine A3 ?_|refine A5 fun _=>?_|refine A4 fun _=>?_);try simp(disch:=first|omega|assumption|((repeat(first|exact A1|exact uH|apply A2|apply uT));first|done|fail)|(simp;first|done|omega|fail))[]))
   exact hJ
  | false =>
   simp only [Bool.false_eq_true, if_false] at hJ
   (have zz:=trivial;repeat((first|clear zz|with_reducible first|refine A3 ?_|refine A5 fun _=>?_|refine A4 fun _=>?_);try simp(disch:=first|omega|assumption|((repeat(first|exact A1|exact uH|apply A2|apply uT));first|done|fail)|(simp;first|done|omega|fail))[]))
   refine C4 A19 (fun w' _ => A4V w' j.key hkey) ?_
   (have zz:=trivial;repeat((first|clear zz|with_reducible first|refine A3 ?_|refine A5 fun _=>?_|refine A4 fun _=>?_);try simp(disch:=first|omega|assumption|((repeat(first|exact A1|exact uH|apply A2|apply uT));first|done|fail)|(simp;first|done|omega|fail))[]))
   refine C4 A6e (fun w' hw' => hPick w' (SlAt.own hw' (by (repeat constructor)) (by (repeat constructor)) (by (repeat constructor)))) ?_
   (have zz:=trivial;repeat((first|clear zz|with_reducible first|refine A3 ?_|refine A5 fun _=>?_|refine A4 fun _=>?_);try simp(disch:=first|omega|assumption|((repeat(first|exact A1|exact uH|apply A2|apply uT));first|done|fail)|(simp;first|done|omega|fail))[]))
   exact hJ
 clear hPick hdef
 have htold : ∀ (r : JW), M0 ((r, m.ws, false, false, decide (0 ≤ j.slot) && !rd) : JwR).2.2 = .agg #[.bool false, .bool false, .bool (decide (0 ≤ j.slot) && !rd)] := fun _ => rfl
 by_cases hne : ok = false ∧ p = []
 ·have hd : Y0 j.table p j.key j.closing j.now m.c.idle = (j.table, ⟨11, 0, false, 0⟩, false) := if_pos (by rw [← hok]; exact hne)
  rw [hd]
  simp only
  obtain ⟨rfl, rfl⟩ := hne
  by_cases hs0 : 0 ≤ j.slot
  ·(have zz:=trivial;repeat((first|clear zz|with_reducible first|refine A3 ?_|refine A5 fun _=>?_|refine A4 fun _=>?_);try simp(disch:=first|omega|assumption|((repeat(first|exact A1|exact uH|apply A2|apply uT));first|done|fail)|(simp;first|done|omega|fail))[hs0]))
   refine B1 (.slice xa j.table.length xc, m.dz, P) ⟨by simp [M0, hs0], L6 rfl rfl hP ht⟩ ?_
   simp only [N1, F9, G7, B9, C8, D1, WoH.uz, WoH.dz]
   (repeat' constructor)
  ·(have zz:=trivial;repeat((first|clear zz|with_reducible first|refine A3 ?_|refine A5 fun _=>?_|refine A4 fun _=>?_);try simp(disch:=first|omega|assumption|((repeat(first|exact A1|exact uH|apply A2|apply uT));first|done|fail)|(simp;first|done|omega|fail))[hs0]))
   refine B1 (.slice xa j.table.length xc, m.dz, P) ⟨by simp [M0, hs0], L6 rfl rfl hP ht⟩ ?_
   simp only [N1, F9, G7, B9, C8, D1, WoH.uz, WoH.dz]
   (repeat' constructor)
 have hd : Y0 j.table p j.key j.closing j.now m.c.idle = if j.closing then (V1 j.table j.key, ⟨0, idv, false, 0⟩, (W3 j.table j.key).isSome)
  else match K7 j.table ⟨1, j.key, idv, IntKind.i64.wrap (j.now + m.c.idle)⟩ with
   | none => (j.table, ⟨12, 0, false, 0⟩, false)
   | some u => (u, ⟨0, idv, !ok, 0⟩, true) := by
  have hd0 : Y0 j.table p j.key j.closing j.now m.c.idle = if j.closing then (V1 j.table j.key, ⟨0, A7H j.table p j.key j.now, false, 0⟩, (W3 j.table j.key).isSome)
   else match K7 j.table (B61 j.table p j.key j.now m.c.idle) with
    | none => (j.table, ⟨12, 0, false, 0⟩, false)
    | some u => (u, ⟨0, A7H j.table p j.key j.now, !(P1 j.table p j.key j.now).2, 0⟩, true) := if_neg (by rw [← hok]; exact hne)
  rw [hd0, B61, ← hid hne, ← hok]
 rw [hd]
 have hgo : ok = true ∨ ¬ (p.length : Int) = 0 := by
  cases ok with
  | true => exact Or.inl rfl
  | false => right; intro h0; exact hne ⟨rfl, List.length_eq_zero_iff.1 (by omega)⟩
 have hgo2 : ok = true ∨ ¬ p = [] := by
  cases ok with
  | true => exact Or.inl rfl
  | false => right; intro h0; exact hne ⟨rfl, h0⟩
 clear hd hid hok hne
 obtain ⟨bad, hbad⟩ : ∃ bad, bad = (decide (0 ≤ j.slot) && !rd) := ⟨_, rfl⟩
 rw [← hbad]
 have hstep : ∀ (P0 : Prop), (0 ≤ j.slot → bad = !rd → P0) → (¬ 0 ≤ j.slot → bad = false → P0) → P0 := fun P0 f g => by
  by_cases hs0 : 0 ≤ j.slot
  ·exact f hs0 (by rw [hbad, decide_eq_true hs0]; rfl)
  ·exact g hs0 (by rw [hbad, decide_eq_false hs0]; rfl)
 cases hcl : j.closing with
 | true =>
  simp only [if_true]
  refine hstep _ (fun hs0 hb => ?_) (fun hs0 hb => ?_)
  all_goals
   rw [hb]
   cases ok with
   | true =>
    (have zz:=trivial;repeat((first|clear zz|with_reducible first|refine A3 ?_|refine A5 fun _=>?_|refine A4 fun _=>?_);try simp(disch:=first|omega|assumption|((repeat(first|exact A1|exact uH|apply A2|apply uT));first|done|fail)|(simp;first|done|omega|fail))[hs0, hcl]))
    refine H3 A3j (fun w' hw' => A6B w' _ j.table j.key hkey hkeys hlen (A8v (ts := P) (t := (_, j.table)) hw' (by (repeat constructor)) ht)) ?_
    rintro r _ rfl
    refine A3Y (e := 218) (k := 4) (v := r) (q := (V1 j.table j.key).length) (xs := (V1 j.table j.key).flatMap H5) (by (repeat constructor)) fun hr1 hr2 hr3 => ?_
    have hr4 : r.cells.toList = [r] := by rw [hr1]
    cases h2 : (W3 j.table j.key).isSome with
    | true =>
     (have zz:=trivial;repeat((first|clear zz|with_reducible first|refine A3 ?_|refine A5 fun _=>?_|refine A4 fun _=>?_);try simp(disch:=first|omega|assumption|((repeat(first|exact A1|exact uH|apply A2|apply uT));first|done|fail)|(simp;first|done|omega|fail))[hs0, hcl, hr1, hr2, hr3, hr4]))
     refine Z8 (r := r) (l := V1 j.table j.key) (ts := P) (by (repeat' constructor)) ?_
     refine B1 (r, m.dz, P ++ [(r, V1 j.table j.key)]) ⟨by simp [M0], rfl, hP.left _, List.mem_append_right _ (List.mem_singleton.2 rfl), .push _ _ _⟩ ?_
     simp only [N1, F9, G7, B9, C8, D1, WoH.uz, WoH.dz]
     (repeat' constructor)
    | false =>
     have e : V1 j.table j.key = j.table := by
      unfold V1
      cases hd : W3 j.table j.key with
      | none => rfl
      | some u => rw [hd] at h2; cases h2
     rw [e]
     (have zz:=trivial;repeat((first|clear zz|with_reducible first|refine A3 ?_|refine A5 fun _=>?_|refine A4 fun _=>?_);try simp(disch:=first|omega|assumption|((repeat(first|exact A1|exact uH|apply A2|apply uT));first|done|fail)|(simp;first|done|omega|fail))[hs0, hcl, hr1, hr2, hr3, hr4]))
     refine B1 (.slice xa j.table.length xc, m.dz, P) ⟨by simp [M0], L6 rfl rfl hP ht⟩ ?_
     simp only [N1, F9, G7, B9, C8, D1, WoH.uz, WoH.dz]
     (repeat' constructor)
   | false =>
    have hp1 : ¬ (p.length : Int) = 0 := by rcases hgo with g | g; cases g; exact g
    have hp2 : ¬ p = [] := by rcases hgo2 with g | g; cases g; exact g
    (have zz:=trivial;repeat((first|clear zz|with_reducible first|refine A3 ?_|refine A5 fun _=>?_|refine A4 fun _=>?_);try simp(disch:=first|omega|assumption|((repeat(first|exact A1|exact uH|apply A2|apply uT));first|done|fail)|(simp;first|done|omega|fail))[hs0, hcl, hp1, hp2]))
    refine H3 A3j (fun w' hw' => A6B w' _ j.table j.key hkey hkeys hlen (A8v (ts := P) (t := (_, j.table)) hw' (by (repeat constructor)) ht)) ?_
    rintro r _ rfl
    refine A3Y (e := 218) (k := 4) (v := r) (q := (V1 j.table j.key).length) (xs := (V1 j.table j.key).flatMap H5) (by (repeat constructor)) fun hr1 hr2 hr3 => ?_
    have hr4 : r.cells.toList = [r] := by rw [hr1]
    cases h2 : (W3 j.table j.key).isSome with
    | true =>
     (have zz:=trivial;repeat((first|clear zz|with_reducible first|refine A3 ?_|refine A5 fun _=>?_|refine A4 fun _=>?_);try simp(disch:=first|omega|assumption|((repeat(first|exact A1|exact uH|apply A2|apply uT));first|done|fail)|(simp;first|done|omega|fail))[hs0, hcl, hp1, hp2, hr1, hr2, hr3, hr4]))
     refine Z8 (r := r) (l := V1 j.table j.key) (ts := P) (by (repeat' constructor)) ?_
     refine B1 (r, m.dz, P ++ [(r, V1 j.table j.key)]) ⟨by simp [M0], rfl, hP.left _, List.mem_append_right _ (List.mem_singleton.2 rfl), .push _ _ _⟩ ?_
     simp only [N1, F9, G7, B9, C8, D1, WoH.uz, WoH.dz]
     (repeat' constructor)
    | false =>
     have e : V1 j.table j.key = j.table := by
      unfold V1
      cases hd : W3 j.table j.key with
      | none => rfl
      | some u => rw [hd] at h2; cases h2
     rw [e]
     (have zz:=trivial;repeat((first|clear zz|with_reducible first|refine A3 ?_|refine A5 fun _=>?_|refine A4 fun _=>?_);try simp(disch:=first|omega|assumption|((repeat(first|exact A1|exact uH|apply A2|apply uT));first|done|fail)|(simp;first|done|omega|fail))[hs0, hcl, hp1, hp2, hr1, hr2, hr3, hr4]))
     refine B1 (.slice xa j.table.length xc, m.dz, P) ⟨by simp [M0], L6 rfl rfl hP ht⟩ ?_
     simp only [N1, F9, G7, B9, C8, D1, WoH.uz, WoH.dz]
     (repeat' constructor)
 | false =>
  simp only [Bool.false_eq_true, if_false]
  refine hstep _ (fun hs0 hb => ?_) (fun hs0 hb => ?_)
  all_goals
   rw [hb]
   cases ok with
   | true =>
    (have zz:=trivial;repeat((first|clear zz|with_reducible first|refine A3 ?_|refine A5 fun _=>?_|refine A4 fun _=>?_);try simp(disch:=first|omega|assumption|((repeat(first|exact A1|exact uH|apply A2|apply uT));first|done|fail)|(simp;first|done|omega|fail))[hs0, hcl]))
    refine H3 A7w (fun w' hw' => B0d w' _ j.table j.key idv (IntKind.i64.wrap (j.now + m.c.idle)) hkey hlen (A8v (ts := P) (t := (_, j.table)) hw' (by (repeat constructor)) ht)) ?_
    rintro r _ rfl
    cases h2 : K7 j.table ⟨1, j.key, idv, IntKind.i64.wrap (j.now + m.c.idle)⟩ with
    | none =>
     simp only [Option.isSome_none, Bool.false_eq_true, if_false]
     (have zz:=trivial;repeat((first|clear zz|with_reducible first|refine A3 ?_|refine A5 fun _=>?_|refine A4 fun _=>?_);try simp(disch:=first|omega|assumption|((repeat(first|exact A1|exact uH|apply A2|apply uT));first|done|fail)|(simp;first|done|omega|fail))[hs0, hcl]))
     refine B1 (.slice xa j.table.length xc, m.dz, P) ⟨by simp [M0], L6 rfl rfl hP ht⟩ ?_
     simp only [N1, F9, G7, B9, C8, D1, WoH.uz, WoH.dz]
     (repeat' constructor)
    | some u =>
     simp only [Option.isSome_some, if_true, Option.getD_some]
     refine A3Y (e := 218) (k := 4) (v := r) (q := u.length) (xs := u.flatMap H5) (by (repeat constructor)) fun hr1 hr2 hr3 => ?_
     have hr4 : r.cells.toList = [r] := by rw [hr1]
     (have zz:=trivial;repeat((first|clear zz|with_reducible first|refine A3 ?_|refine A5 fun _=>?_|refine A4 fun _=>?_);try simp(disch:=first|omega|assumption|((repeat(first|exact A1|exact uH|apply A2|apply uT));first|done|fail)|(simp;first|done|omega|fail))[hs0, hcl, hr1, hr2, hr3, hr4]))
     refine Z8 (r := r) (l := u) (ts := P) (by (repeat' constructor)) ?_
     refine B1 (r, m.dz, P ++ [(r, u)]) ⟨by simp [M0], rfl, hP.left _, List.mem_append_right _ (List.mem_singleton.2 rfl), .push _ _ _⟩ ?_
     simp only [N1, F9, G7, B9, C8, D1, WoH.uz, WoH.dz]
     (repeat' constructor)
   | false =>
    have hp1 : ¬ (p.length : Int) = 0 := by rcases hgo with g | g; cases g; exact g
    have hp2 : ¬ p = [] := by rcases hgo2 with g | g; cases g; exact g
    (have zz:=trivial;repeat((first|clear zz|with_reducible first|refine A3 ?_|refine A5 fun _=>?_|refine A4 fun _=>?_);try simp(disch:=first|omega|assumption|((repeat(first|exact A1|exact uH|apply A2|apply uT));first|done|fail)|(simp;first|done|omega|fail))[hs0, hcl, hp1, hp2]))
    refine H3 A7w (fun w' hw' => B0d w' _ j.table j.key idv (IntKind.i64.wrap (j.now + m.c.idle)) hkey hlen (A8v (ts := P) (t := (_, j.table)) hw' (by (repeat constructor)) ht)) ?_
    rintro r _ rfl
    cases h2 : K7 j.table ⟨1, j.key, idv, IntKind.i64.wrap (j.now + m.c.idle)⟩ with
    | none =>
     simp only [Option.isSome_none, Bool.false_eq_true, if_false]
     (have zz:=trivial;repeat((first|clear zz|with_reducible first|refine A3 ?_|refine A5 fun _=>?_|refine A4 fun _=>?_);try simp(disch:=first|omega|assumption|((repeat(first|exact A1|exact uH|apply A2|apply uT));first|done|fail)|(simp;first|done|omega|fail))[hs0, hcl, hp1, hp2]))
     refine B1 (.slice xa j.table.length xc, m.dz, P) ⟨by simp [M0], L6 rfl rfl hP ht⟩ ?_
     simp only [N1, F9, G7, B9, C8, D1, WoH.uz, WoH.dz]
     (repeat' constructor)
    | some u =>
     simp only [Option.isSome_some, if_true, Option.getD_some]
     refine A3Y (e := 218) (k := 4) (v := r) (q := u.length) (xs := u.flatMap H5) (by (repeat constructor)) fun hr1 hr2 hr3 => ?_
     have hr4 : r.cells.toList = [r] := by rw [hr1]
     (have zz:=trivial;repeat((first|clear zz|with_reducible first|refine A3 ?_|refine A5 fun _=>?_|refine A4 fun _=>?_);try simp(disch:=first|omega|assumption|((repeat(first|exact A1|exact uH|apply A2|apply uT));first|done|fail)|(simp;first|done|omega|fail))[hs0, hcl, hp1, hp2, hr1, hr2, hr3, hr4]))
     refine Z8 (r := r) (l := u) (ts := P) (by (repeat' constructor)) ?_
     refine B1 (r, m.dz, P ++ [(r, u)]) ⟨by simp [M0], rfl, hP.left _, List.mem_append_right _ (List.mem_singleton.2 rfl), .push _ _ _⟩ ?_
     simp only [N1, F9, G7, B9, C8, D1, WoH.uz, WoH.dz]
     (repeat' constructor)
end Go.Proofs.YtjobgnabneddjaaGreat
namespace Go.Proofs.YtjobgnabneddjaaGreat
open Go
def A2l : Array Value := #[.func (.func 76) #[] #[], .func (.func 77) #[] #[], .func (.func 78) #[] #[], .func (.func 79) #[] #[], .func (.func 80) #[] #[], .func (.func 81) #[] #[], .func (.func 82) #[] #[], .func (.func 83) #[] #[], .func (.func 84) #[] #[], .func (.func 85) #[] #[]]
theorem l9 (K : Value → WP) : A0 PR (Instr.build 144 #[(0, .func (.func 76) #[] #[]), (1, .func (.func 77) #[] #[]), (2, .func (.func 78) #[] #[]), (3, .func (.func 79) #[] #[]), (4, .func (.func 80) #[] #[]), (5, .func (.func 81) #[] #[]), (6, .func (.func 82) #[] #[]), (7, .func (.func 83) #[] #[]), (8, .func (.func 84) #[] #[]), (9, .func (.func 85) #[] #[])]) K = K (.agg A2l) := E8 (fun w => by unfold A2l; kernel_rfl) K
theorem JwOk.up {j : JW} {tv : Value} {m : WoH} {P : Q9} (h : JwOk j tv m P) (st : Int) : JwOk { j with st := st } tv m P := ⟨h.ws, h.tabs, h.tb, h.shn, h.text, h.key, h.shard, h.keys, h.len, h.slot, h.ep, h.cur⟩
theorem C1W {w' : World} {κ : Bool} {S : List Nat} {w0 : World} {H : List Res} {b : Nat} {j : JW} {tv : Value} {m : WoH} (hw : LW κ S w0 H w') (h1 : F9 b j tv ∈ H) (h2 : ∀ r ∈ B9 m, r ∈ H) :
  Fn PR B8 23 #[.pointer (some ⟨b, 0, none⟩), .pointer (some ⟨m.b, 0, none⟩)] w' (fun u w'' => u = .bool (j.ready m.ws) ∧ C9 [] w' w'') := B8s w' b j tv m (hw.pt h1) (WoAt.own hw h2)
set_option maxHeartbeats 4000000 in
theorem B4D (w : World) (b : Nat) (j : JW) (tv : Value) (m : WoH) (P : Q9) (h : JwOk j tv m P) (hst : 0 ≤ j.st ∧ j.st ≤ 10) (hw : LW false (B6 (E3 b j tv m P)) w (E3 b j tv m P) w) : A3P 20 w b j tv m P (j.step m.ws) := by
 refine A8j (TW.goH (κ := false) ?_ hw)
 unfold A2L
 have hshn : m.c.sh ≤ 1000 := by have h1 := h.shn; have h2 := h.tabs.few; omega
 generalize hS : B6 (E3 b j tv m P) = S at *
 have hR := fun (w' : World) (H : List Res) (hw' : LW false S w H w') (h1 : F9 b j tv ∈ H) (h2 : ∀ r ∈ B9 m, r ∈ H) => C1W hw' h1 h2
 unfold JW.step
 cases hr : j.ready m.ws with
 | false =>
  rw [hr] at hR
  simp only [Bool.false_eq_true, if_false]
  (have zz:=trivial;repeat((first|clear zz|with_reducible first|refine A3 ?_|refine A5 fun _=>?_|refine A4 fun _=>?_);try simp(disch:=first|omega|assumption|((repeat(first|exact A1|exact uH|apply A2|apply uT));first|done|fail)|(simp;first|done|omega|fail))[]))
  rename_i bx
  refine C4 Q0 (fun w' hw' => hR w' _ hw' (by unfold E3; (repeat constructor)) (fun r hr => by unfold E3; exact List.mem_cons_of_mem _ (List.mem_cons_of_mem _ (List.mem_cons_of_mem _ hr)))) ?_
  (have zz:=trivial;repeat((first|clear zz|with_reducible first|refine A3 ?_|refine A5 fun _=>?_|refine A4 fun _=>?_);try simp(disch:=first|omega|assumption|((repeat(first|exact A1|exact uH|apply A2|apply uT));first|done|fail)|(simp;first|done|omega|fail))[]))
  refine B1 (tv, m.dz, P) ⟨rfl, L6 rfl rfl h.tabs.pool h.tb⟩ ?_
  simp only [N1, E3, B9, WoH.uz, WoH.dz]
  (repeat' constructor)
 | true =>
  rw [hr] at hR
  simp only [if_true]
  have hlt : j.st < 10 := by
   unfold JW.ready at hr
   simp only [Bool.and_eq_true, decide_eq_true_eq] at hr
   exact hr.1
  obtain ⟨k, hk⟩ : ∃ k : Nat, j.st = k := ⟨j.st.toNat, by omega⟩
  rw [hk, Int.toNat_natCast]
  clear hr
  have hcase : k = 0 ∨ k = 1 ∨ k = 2 ∨ k = 3 ∨ k = 4 ∨ k = 5 ∨ k = 6 ∨ k = 7 ∨ k = 8 ∨ k = 9 := by omega
  (have zz:=trivial;repeat((first|clear zz|with_reducible first|refine A3 ?_|refine A5 fun _=>?_|refine A4 fun _=>?_);try simp(disch:=first|omega|assumption|((repeat(first|exact A1|exact uH|apply A2|apply uT));first|done|fail)|(simp;first|done|omega|fail))[]))
  rename_i bx
  refine C4 Q0 (fun w' hw' => hR w' _ hw' (by unfold E3; (repeat constructor)) (fun r hr => by unfold E3; exact List.mem_cons_of_mem _ (List.mem_cons_of_mem _ (List.mem_cons_of_mem _ hr)))) ?_
  clear hR
  simp only [E3, F9, G7, B9, C8, D1, hk]
  rcases hcase with rfl | rfl | rfl | rfl | rfl | rfl | rfl | rfl | rfl | rfl
  ·rw [show E0 0 = jw0 from rfl, show (((0 : Nat) : Int) + 1) = 1 from rfl, show ((0 : Nat) : Int) = 0 from rfl]
   rw [l9]
   unfold A2l
   (have zz:=trivial;repeat((first|clear zz|with_reducible first|refine A3 ?_|refine A5 fun _=>?_|refine A4 fun _=>?_);try simp(disch:=first|omega|assumption|((repeat(first|exact A1|exact uH|apply A2|apply uT));first|done|fail)|(simp;first|done|omega|fail))[]))
   refine C7 (Hc := E3 b { j with st := 1 } tv m P) A7N (fun w' _ hs => C6N w' b { j with st := 1 } tv m P (h.up _) hshn hs) (by simp only [E3, F9, G7, B9, C8, D1]; (repeat' constructor)) ?_
   rintro y v ⟨rfl, hy⟩
   generalize jw0 { j with st := 1 } m.ws = r at *
   obtain ⟨r1, r2, t1, t2, t3⟩ := r
   simp only [N1, List.cons_append, List.nil_append, M0, B9]
   (have zz:=trivial;repeat((first|clear zz|with_reducible first|refine A3 ?_|refine A5 fun _=>?_|refine A4 fun _=>?_);try simp(disch:=first|omega|assumption|((repeat(first|exact A1|exact uH|apply A2|apply uT));first|done|fail)|(simp;first|done|omega|fail))[]))
   refine B1 y ⟨rfl, hy⟩ ?_
   simp only [N1, B9]
   (repeat' constructor)
  ·rw [show E0 1 = jw1 from rfl, show (((1 : Nat) : Int) + 1) = 2 from rfl, show ((1 : Nat) : Int) = 1 from rfl]
   rw [l9]
   unfold A2l
   (have zz:=trivial;repeat((first|clear zz|with_reducible first|refine A3 ?_|refine A5 fun _=>?_|refine A4 fun _=>?_);try simp(disch:=first|omega|assumption|((repeat(first|exact A1|exact uH|apply A2|apply uT));first|done|fail)|(simp;first|done|omega|fail))[]))
   refine C7 (Hc := E3 b { j with st := 2 } tv m P) A87 (fun w' _ hs => C7H w' b { j with st := 2 } tv m P (h.up _) hs) (by simp only [E3, F9, G7, B9, C8, D1]; (repeat' constructor)) ?_
   rintro y v ⟨rfl, hy⟩
   generalize jw1 { j with st := 2 } m.ws = r at *
   obtain ⟨r1, r2, t1, t2, t3⟩ := r
   simp only [N1, List.cons_append, List.nil_append, M0, B9]
   (have zz:=trivial;repeat((first|clear zz|with_reducible first|refine A3 ?_|refine A5 fun _=>?_|refine A4 fun _=>?_);try simp(disch:=first|omega|assumption|((repeat(first|exact A1|exact uH|apply A2|apply uT));first|done|fail)|(simp;first|done|omega|fail))[]))
   refine B1 y ⟨rfl, hy⟩ ?_
   simp only [N1, B9]
   (repeat' constructor)
  ·rw [show E0 2 = jw2 from rfl, show (((2 : Nat) : Int) + 1) = 3 from rfl, show ((2 : Nat) : Int) = 2 from rfl]
   rw [l9]
   unfold A2l
   (have zz:=trivial;repeat((first|clear zz|with_reducible first|refine A3 ?_|refine A5 fun _=>?_|refine A4 fun _=>?_);try simp(disch:=first|omega|assumption|((repeat(first|exact A1|exact uH|apply A2|apply uT));first|done|fail)|(simp;first|done|omega|fail))[]))
   refine C7 (Hc := E3 b { j with st := 3 } tv m P) A6Z (fun w' _ hs => C7D w' b { j with st := 3 } tv m P (h.up _) hs) (by simp only [E3, F9, G7, B9, C8, D1]; (repeat' constructor)) ?_
   rintro y v ⟨rfl, hy⟩
   generalize jw2 { j with st := 3 } m.ws = r at *
   obtain ⟨r1, r2, t1, t2, t3⟩ := r
   simp only [N1, List.cons_append, List.nil_append, M0, B9]
   (have zz:=trivial;repeat((first|clear zz|with_reducible first|refine A3 ?_|refine A5 fun _=>?_|refine A4 fun _=>?_);try simp(disch:=first|omega|assumption|((repeat(first|exact A1|exact uH|apply A2|apply uT));first|done|fail)|(simp;first|done|omega|fail))[]))
   refine B1 y ⟨rfl, hy⟩ ?_
   simp only [N1, B9]
   (repeat' constructor)
  ·rw [show E0 3 = jw3 from rfl, show (((3 : Nat) : Int) + 1) = 4 from rfl, show ((3 : Nat) : Int) = 3 from rfl]
   rw [l9]
   unfold A2l
   (have zz:=trivial;repeat((first|clear zz|with_reducible first|refine A3 ?_|refine A5 fun _=>?_|refine A4 fun _=>?_);try simp(disch:=first|omega|assumption|((repeat(first|exact A1|exact uH|apply A2|apply uT));first|done|fail)|(simp;first|done|omega|fail))[]))
   refine C7 (Hc := E3 b { j with st := 4 } tv m P) A8S (fun w' _ hs => C6f w' b { j with st := 4 } tv m P (h.up _) hs) (by simp only [E3, F9, G7, B9, C8, D1]; (repeat' constructor)) ?_
   rintro y v ⟨rfl, hy⟩
   generalize jw3 { j with st := 4 } m.ws = r at *
   obtain ⟨r1, r2, t1, t2, t3⟩ := r
   simp only [N1, List.cons_append, List.nil_append, M0, B9]
   (have zz:=trivial;repeat((first|clear zz|with_reducible first|refine A3 ?_|refine A5 fun _=>?_|refine A4 fun _=>?_);try simp(disch:=first|omega|assumption|((repeat(first|exact A1|exact uH|apply A2|apply uT));first|done|fail)|(simp;first|done|omega|fail))[]))
   refine B1 y ⟨rfl, hy⟩ ?_
   simp only [N1, B9]
   (repeat' constructor)
  ·rw [show E0 4 = jw4 from rfl, show (((4 : Nat) : Int) + 1) = 5 from rfl, show ((4 : Nat) : Int) = 4 from rfl]
   rw [l9]
   unfold A2l
   (have zz:=trivial;repeat((first|clear zz|with_reducible first|refine A3 ?_|refine A5 fun _=>?_|refine A4 fun _=>?_);try simp(disch:=first|omega|assumption|((repeat(first|exact A1|exact uH|apply A2|apply uT));first|done|fail)|(simp;first|done|omega|fail))[]))
   refine C7 (Hc := E3 b { j with st := 5 } tv m P) A5Z (fun w' _ hs => C59 w' b { j with st := 5 } tv m P (h.up _) hs) (by simp only [E3, F9, G7, B9, C8, D1]; (repeat' constructor)) ?_
   rintro y v ⟨rfl, hy⟩
   generalize jw4 { j with st := 5 } m.ws = r at *
   obtain ⟨r1, r2, t1, t2, t3⟩ := r
   simp only [N1, List.cons_append, List.nil_append, M0, B9]
   (have zz:=trivial;repeat((first|clear zz|with_reducible first|refine A3 ?_|refine A5 fun _=>?_|refine A4 fun _=>?_);try simp(disch:=first|omega|assumption|((repeat(first|exact A1|exact uH|apply A2|apply uT));first|done|fail)|(simp;first|done|omega|fail))[]))
   refine B1 y ⟨rfl, hy⟩ ?_
   simp only [N1, B9]
   (repeat' constructor)
  ·rw [show E0 5 = jw5 from rfl, show (((5 : Nat) : Int) + 1) = 6 from rfl, show ((5 : Nat) : Int) = 5 from rfl]
   rw [l9]
   unfold A2l
   (have zz:=trivial;repeat((first|clear zz|with_reducible first|refine A3 ?_|refine A5 fun _=>?_|refine A4 fun _=>?_);try simp(disch:=first|omega|assumption|((repeat(first|exact A1|exact uH|apply A2|apply uT));first|done|fail)|(simp;first|done|omega|fail))[]))
   refine C7 (Hc := E3 b { j with st := 6 } tv m P) A8W (fun w' _ hs => C62 w' b { j with st := 6 } tv m P (h.up _) hs) (by simp only [E3, F9, G7, B9, C8, D1]; (repeat' constructor)) ?_
   rintro y v ⟨rfl, hy⟩
   generalize jw5 { j with st := 6 } m.ws = r at *
   obtain ⟨r1, r2, t1, t2, t3⟩ := r
   simp only [N1, List.cons_append, List.nil_append, M0, B9]
   (have zz:=trivial;repeat((first|clear zz|with_reducible first|refine A3 ?_|refine A5 fun _=>?_|refine A4 fun _=>?_);try simp(disch:=first|omega|assumption|((repeat(first|exact A1|exact uH|apply A2|apply uT));first|done|fail)|(simp;first|done|omega|fail))[]))
   refine B1 y ⟨rfl, hy⟩ ?_
   simp only [N1, B9]
   (repeat' constructor)
  ·rw [show E0 6 = jw6 from rfl, show (((6 : Nat) : Int) + 1) = 7 from rfl, show ((6 : Nat) : Int) = 6 from rfl]
   rw [l9]
   unfold A2l
   (have zz:=trivial;repeat((first|clear zz|with_reducible first|refine A3 ?_|refine A5 fun _=>?_|refine A4 fun _=>?_);try simp(disch:=first|omega|assumption|((repeat(first|exact A1|exact uH|apply A2|apply uT));first|done|fail)|(simp;first|done|omega|fail))[]))
   refine C7 (Hc := E3 b { j with st := 7 } tv m P) A57 (fun w' _ hs => C6x w' b { j with st := 7 } tv m P (h.up _) hs) (by simp only [E3, F9, G7, B9, C8, D1]; (repeat' constructor)) ?_
   rintro y v ⟨rfl, hy⟩
   generalize jw6 { j with st := 7 } m.ws = r at *
   obtain ⟨r1, r2, t1, t2, t3⟩ := r
   simp only [N1, List.cons_append, List.nil_append, M0, B9]
   (have zz:=trivial;repeat((first|clear zz|with_reducible first|refine A3 ?_|refine A5 fun _=>?_|refine A4 fun _=>?_);try simp(disch:=first|omega|assumption|((repeat(first|exact A1|exact uH|apply A2|apply uT));first|done|fail)|(simp;first|done|omega|fail))[]))
   refine B1 y ⟨rfl, hy⟩ ?_
   simp only [N1, B9]
   (repeat' constructor)
  ·rw [show E0 7 = jw7 from rfl, show (((7 : Nat) : Int) + 1) = 8 from rfl, show ((7 : Nat) : Int) = 7 from rfl]
   rw [l9]
   unfold A2l
   (have zz:=trivial;repeat((first|clear zz|with_reducible first|refine A3 ?_|refine A5 fun _=>?_|refine A4 fun _=>?_);try simp(disch:=first|omega|assumption|((repeat(first|exact A1|exact uH|apply A2|apply uT));first|done|fail)|(simp;first|done|omega|fail))[]))
   refine C7 (Hc := E3 b { j with st := 8 } tv m P) A64 (fun w' _ hs => C6H w' b { j with st := 8 } tv m P (h.up _) hs) (by simp only [E3, F9, G7, B9, C8, D1]; (repeat' constructor)) ?_
   rintro y v ⟨rfl, hy⟩
   generalize jw7 { j with st := 8 } m.ws = r at *
   obtain ⟨r1, r2, t1, t2, t3⟩ := r
   simp only [N1, List.cons_append, List.nil_append, M0, B9]
   (have zz:=trivial;repeat((first|clear zz|with_reducible first|refine A3 ?_|refine A5 fun _=>?_|refine A4 fun _=>?_);try simp(disch:=first|omega|assumption|((repeat(first|exact A1|exact uH|apply A2|apply uT));first|done|fail)|(simp;first|done|omega|fail))[]))
   refine B1 y ⟨rfl, hy⟩ ?_
   simp only [N1, B9]
   (repeat' constructor)
  ·rw [show E0 8 = jw8 from rfl, show (((8 : Nat) : Int) + 1) = 9 from rfl, show ((8 : Nat) : Int) = 8 from rfl]
   rw [l9]
   unfold A2l
   (have zz:=trivial;repeat((first|clear zz|with_reducible first|refine A3 ?_|refine A5 fun _=>?_|refine A4 fun _=>?_);try simp(disch:=first|omega|assumption|((repeat(first|exact A1|exact uH|apply A2|apply uT));first|done|fail)|(simp;first|done|omega|fail))[]))
   refine C7 (Hc := E3 b { j with st := 9 } tv m P) A59 (fun w' _ hs => C58 w' b { j with st := 9 } tv m P (h.up _) hs) (by simp only [E3, F9, G7, B9, C8, D1]; (repeat' constructor)) ?_
   rintro y v ⟨rfl, hy⟩
   generalize jw8 { j with st := 9 } m.ws = r at *
   obtain ⟨r1, r2, t1, t2, t3⟩ := r
   simp only [N1, List.cons_append, List.nil_append, M0, B9]
   (have zz:=trivial;repeat((first|clear zz|with_reducible first|refine A3 ?_|refine A5 fun _=>?_|refine A4 fun _=>?_);try simp(disch:=first|omega|assumption|((repeat(first|exact A1|exact uH|apply A2|apply uT));first|done|fail)|(simp;first|done|omega|fail))[]))
   refine B1 y ⟨rfl, hy⟩ ?_
   simp only [N1, B9]
   (repeat' constructor)
  ·rw [show E0 9 = jw9 from rfl, show (((9 : Nat) : Int) + 1) = 10 from rfl, show ((9 : Nat) : Int) = 9 from rfl]
   rw [l9]
   unfold A2l
   (have zz:=trivial;repeat((first|clear zz|with_reducible first|refine A3 ?_|refine A5 fun _=>?_|refine A4 fun _=>?_);try simp(disch:=first|omega|assumption|((repeat(first|exact A1|exact uH|apply A2|apply uT));first|done|fail)|(simp;first|done|omega|fail))[]))
   refine C7 (Hc := E3 b { j with st := 10 } tv m P) A7U (fun w' _ hs => C55 w' b { j with st := 10 } tv m P (h.up _) hs) (by simp only [E3, F9, G7, B9, C8, D1]; (repeat' constructor)) ?_
   rintro y v ⟨rfl, hy⟩
   generalize jw9 { j with st := 10 } m.ws = r at *
   obtain ⟨r1, r2, t1, t2, t3⟩ := r
   simp only [N1, List.cons_append, List.nil_append, M0, B9]
   (have zz:=trivial;repeat((first|clear zz|with_reducible first|refine A3 ?_|refine A5 fun _=>?_|refine A4 fun _=>?_);try simp(disch:=first|omega|assumption|((repeat(first|exact A1|exact uH|apply A2|apply uT));first|done|fail)|(simp;first|done|omega|fail))[]))
   refine B1 y ⟨rfl, hy⟩ ?_
   simp only [N1, B9]
   (repeat' constructor)
end Go.Proofs.YtjobgnabneddjaaGreat
namespace Go.Proofs.YtjobgnabneddjaaGreat
open Go
def B1c (t : List EnV) : Prop := (∀ x ∈ t, x = noE) ∧ t.length ≤ 64
theorem B8P (n : Nat) : B1c (newE n) := ⟨fun x hx => by unfold newE at hx; exact (List.mem_replicate.1 hx).2, by unfold newE; simp; omega⟩
theorem B6q {t : List EnV} (h : B1c t) : P5 t := fun x hx => by rw [h.1 x hx]; decide
theorem B0J {l : List Int} {i : Nat} {a b : Int} (h : i < l.length) : A11 l (i : Nat) a b = if l.getD i 0 = a then l.set i b else l := by
 unfold A11
 rw [Int.toNat_natCast]
 by_cases c : l.getD i 0 = a
 ·rw [if_pos ⟨by omega, by omega, c⟩, if_pos c]
 ·rw [if_neg (fun h => c h.2.2), if_neg c]
theorem C19 {l : List Int} {i : Nat} (h : i < l.length) : z8 l (i : Nat) = l.getD i 0 := by unfold z8; rw [if_pos (by omega), Int.toNat_natCast]
def A7Q (N : Nat) : List Int := List.replicate N (-1)
theorem C2d {N j : Nat} (h : j < N) : (A7Q N).getD j 0 = -1 := by
 rw [List.getD_eq_getElem?_getD, List.getElem?_eq_getElem (by simp [A7Q]; exact h)]; simp [A7Q]
theorem C3y {l : List Int} (h : ∀ j, j < l.length → l.getD j 0 = -1) (i : Int) : z8 l i = -1 := by
 unfold z8
 split
 ·rename_i hi; exact h _ (by omega)
 ·rfl
end Go.Proofs.YtjobgnabneddjaaGreat
namespace Go.Proofs.YtjobgnabneddjaaGreat
open Go
end Go.Proofs.YtjobgnabneddjaaGreat
namespace Go.Proofs.YtjobgnabneddjaaGreat
open Go
structure QI (N : Nat) (j : JW) (x : WS) : Prop where
 ok : WsOk x
 n : 1 ≤ N ∧ N ≤ 16
 sh : x.c.sh = (N : Nat)
 tl : x.tabs.length = N
 te : ∀ t ∈ x.tabs, B1c t
 pl : x.places.length = N
 ow : x.own.length = N
 jt : B1c j.table
 sl : ∀ i, H8 x.sl i = .no
 ep : D9 x.cells 0 = 0
 cur : D9 x.cells 1 = 0
 text : j.text.size ≤ 100
 key : j.key.size < 2 ^ 60
 shard : 0 ≤ j.shard ∧ j.shard < N
 slot : -1 ≤ j.slot ∧ j.slot ≤ 0
 st : 0 ≤ j.st ∧ j.st ≤ 10
theorem B4U (l : List EnV) (key : ByteArray) (c : Bool) (now idle : Int) : Y0 l [] key c now idle = (l, ⟨11, 0, false, 0⟩, false) := by
 have hk : (P1 l [] key now).2 = false := by
  unfold P1
  have hb : ∀ id, Q2 [] id = -1 := fun _ => rfl
  rw [if_pos (Or.inr (Or.inr (by rw [hb]; omega)))]
 unfold Y0
 rw [if_pos ⟨hk, rfl⟩]
theorem A0b (l : List Int) (i w : Int) : (j5 l i w).length = l.length := by unfold j5 A11; split <;> (try split) <;> simp
theorem l8 (l : List Int) (i w : Int) : (Q5 l i w).length = l.length := by unfold Q5 A11; split <;> (try split) <;> simp
theorem C4w (c : CfgV) (who : Int) : F8 c who = -1 ∨ 2 ≤ F8 c who := by unfold F8; split <;> omega
theorem r5 (c : CfgV) (who v : Int) (l : List Int) (k : Int) (hk : k = 0 ∨ k = 1) : D9 (K3 l (F8 c who) v) k = D9 l k := q8 _ _ (by rcases C4w c who with h | h <;> omega)
theorem QI.stage {N : Nat} {j : JW} {x : WS} (h : QI N j x) (k : Nat) (hk : k < 10) (hs : j.st = (k : Nat)) : QI N (E0 k { j with st := j.st + 1 } x).1 (E0 k { j with st := j.st + 1 } x).2.1 := by
 obtain ⟨⟨w1, w2, w3, w4, w5⟩, h2, h3, h4, h5, h6, h7, h8, h9, h10, h11, h12, h13, h14, h15, h16⟩ := h
 have hst : 0 ≤ j.st + 1 ∧ j.st + 1 ≤ 10 := by omega
 have hok : WsOk x := ⟨w1, w2, w3, w4, w5⟩
 have hcase : k = 0 ∨ k = 1 ∨ k = 2 ∨ k = 3 ∨ k = 4 ∨ k = 5 ∨ k = 6 ∨ k = 7 ∨ k = 8 ∨ k = 9 := by omega
 rcases hcase with rfl | rfl | rfl | rfl | rfl | rfl | rfl | rfl | rfl | rfl
 ·show QI N (jw0 _ x).1 (jw0 _ x).2.1
  unfold jw0
  by_cases c1 : F8 x.c j.who < 0
  ·rw [if_pos c1]; exact ⟨hok, h2, h3, h4, h5, h6, h7, h8, h9, h10, h11, h12, h13, h14, h15, by simp [JW.refuse]⟩
  ·rw [if_neg c1]
   by_cases c2 : (F5 j.text).2.2 = 0
   ·rw [if_neg (by simpa using c2)]
    refine ⟨hok, h2, h3, h4, h5, h6, h7, h8, h9, h10, h11, h12, A8n _, ?_, h15, hst⟩
    show 0 ≤ ((Y7 (A42 (F5 j.text).1) x.c.sh : Nat) : Int) ∧ ((Y7 (A42 (F5 j.text).1) x.c.sh : Nat) : Int) < N
    have : Y7 (A42 (F5 j.text).1) x.c.sh < N := by
     unfold Y7; rw [if_neg (by omega), h3, Int.toNat_natCast]; exact Nat.mod_lt _ (by omega)
    omega
   ·rw [if_pos c2]; exact ⟨hok, h2, h3, h4, h5, h6, h7, h8, h9, h10, h11, h12, h13, h14, h15, by simp [JW.refuse]⟩
 ·exact ⟨⟨w1, by simp only [E0, jw1, A0f]; exact w2, w3, w4, w5⟩, h2, h3, h4, h5, h6, h7, h8, h9, by simp only [E0, jw1]; rw [r5 _ _ _ _ _ (Or.inl rfl)]; exact h10, by simp only [E0, jw1]; rw [r5 _ _ _ _ _ (Or.inr rfl)]; exact h11, h12, h13, h14, h15, hst⟩
 ·show QI N (jw2 _ x).1 (jw2 _ x).2.1
  unfold jw2
  by_cases c1 : D9 x.cells 0 = j.ep
  ·rw [if_pos c1]; exact ⟨hok, h2, h3, h4, h5, h6, h7, h8, h9, h10, h11, h12, h13, h14, h15, hst⟩
  ·rw [if_neg c1]; exact ⟨hok, h2, h3, h4, h5, h6, h7, h8, h9, h10, h11, h12, h13, h14, h15, by simp⟩
 ·exact ⟨⟨w1, w2, by simp only [E0, jw3, A0b]; exact w3, w4, w5⟩, h2, h3, h4, h5, h6, by simp only [E0, jw3, A0b]; exact h7, h8, h9, h10, h11, h12, h13, h14, h15, hst⟩
 ·refine ⟨hok, h2, h3, h4, h5, h6, h7, h8, h9, h10, h11, h12, h13, h14, ?_, hst⟩
  show -1 ≤ IntKind.i64.wrap (D9 x.cells 1 - 1) ∧ IntKind.i64.wrap (D9 x.cells 1 - 1) ≤ 0
  rw [h11, T8 (by omega) (by omega)]; omega
 ·refine ⟨hok, h2, h3, h4, h5, h6, h7, ?_, h9, h10, h11, h12, h13, h14, h15, hst⟩
  show B1c (x.tabs.getD j.shard.toNat [])
  rw [List.getD_eq_getElem?_getD, List.getElem?_eq_getElem (by omega)]
  exact h5 _ (List.getElem_mem _)
 ·have hp : L4 x j.slot = [] := by unfold L4; rw [h9]
  refine ⟨hok, h2, h3, h4, h5, h6, h7, ?_, h9, h10, h11, h12, h13, h14, h15, hst⟩
  show B1c (Y0 j.table (L4 x j.slot) j.key j.closing j.now x.c.idle).1
  rw [hp, B4U]; exact h8
 ·refine ⟨⟨w1, w2, w3, w4, w5⟩, h2, h3, by simp only [E0, jw7, List.length_set]; exact h4, fun t ht => ?_, h6, h7, h8, h9, h10, h11, h12, h13, h14, h15, hst⟩
  rcases List.mem_or_eq_of_mem_set (show t ∈ x.tabs.set j.shard.toNat j.table from ht) with ht | rfl
  ·exact h5 t ht
  ·exact h8
 ·exact ⟨⟨w1, w2, by simp only [E0, jw8, l8]; exact w3, w4, w5⟩, h2, h3, h4, h5, h6, by simp only [E0, jw8, l8]; exact h7, h8, h9, h10, h11, h12, h13, h14, h15, hst⟩
 ·exact ⟨⟨w1, by simp only [E0, jw9, A0f]; exact w2, w3, w4, w5⟩, h2, h3, h4, h5, h6, h7, h8, h9, by simp only [E0, jw9]; rw [r5 _ _ _ _ _ (Or.inl rfl)]; exact h10, by simp only [E0, jw9]; rw [r5 _ _ _ _ _ (Or.inr rfl)]; exact h11, h12, h13, h14, h15, hst⟩
theorem B0K {j : JW} {x : WS} (h : j.ready x = false) : j.step x = (j, x, noT) := by unfold JW.step; rw [h]; rfl
theorem A1p {j : JW} {x : WS} (h : j.ready x = true) : j.step x = E0 j.st.toNat { j with st := j.st + 1 } x := by unfold JW.step; rw [h]; rfl
theorem B1d {j : JW} {x : WS} (h : j.ready x = true) : j.st < 10 := by
 unfold JW.ready at h
 simp only [Bool.and_eq_true, decide_eq_true_eq] at h
 exact h.1
theorem QI.step {N : Nat} {j : JW} {x : WS} (h : QI N j x) : QI N (j.step x).1 (j.step x).2.1 := by
 cases hr : j.ready x with
 | false => rw [B0K hr]; exact h
 | true =>
  have hs := h.st
  have hl := B1d hr
  rw [A1p hr]
  exact h.stage _ (by omega) (by omega)
theorem C6n {j : JW} {x : WS} (hs : j.st = 0) (hp : ¬ F8 x.c j.who < 0) (hb : (F5 j.text).2.2 ≠ 0) : j.step x = (({ j with st := j.st + 1 } : JW).refuse 9, x, true, true, false) := by
 rw [A1p (by simp [JW.ready, hs])]
 rw [hs]
 exact (if_neg hp).trans (if_pos hb)
structure GoI (N : Nat) (who : Int) (text : ByteArray) (k : Nat) (j : JW) (x : WS) : Prop where
 q : QI N j x
 ewho : j.who = who
 etext : j.text = text
 pin : 0 ≤ F8 x.c who
 good : (F5 text).2.2 = 0
 st : j.st = (k : Nat)
 ep : 1 ≤ k → k ≤ 3 → j.ep = 0
 slot : 5 ≤ k → j.slot = -1
 ans : 7 ≤ k → j.ans = ⟨11, 0, false, 0⟩
theorem C5Q {N : Nat} {who : Int} {text : ByteArray} {k : Nat} {j : JW} {x : WS} (h : GoI N who text k j x) (hk : k < 10) (ho : k = 3 → z8 x.own j.shard < 0) : j.ready x = true ∧ GoI N who text (k + 1) (j.step x).1 (j.step x).2.1 := by
 obtain ⟨h1, h2, h3, h4, h5, h6, h7, h8, h9⟩ := h
 have hr : j.ready x = true := by
  unfold JW.ready
  rw [decide_eq_true (by omega), Bool.true_and]
  by_cases c : j.st = 3
  ·rw [decide_eq_true (ho (by omega))]; simp
  ·rw [decide_eq_false c]; rfl
 refine ⟨hr, ?_⟩
 have hq := h1.step
 rw [A1p hr] at hq ⊢
 rw [h6, Int.toNat_natCast] at hq ⊢
 have hp : L4 x j.slot = [] := by unfold L4; rw [h1.sl]
 have hcase : k = 0 ∨ k = 1 ∨ k = 2 ∨ k = 3 ∨ k = 4 ∨ k = 5 ∨ k = 6 ∨ k = 7 ∨ k = 8 ∨ k = 9 := by omega
 rcases hcase with rfl | rfl | rfl | rfl | rfl | rfl | rfl | rfl | rfl | rfl
 ·have e : E0 0 { j with st := ((0 : Nat) : Int) + 1 } x = ({ ({ j with st := ((0 : Nat) : Int) + 1 } : JW).rd x.c.sh with ep := D9 x.cells 0 }, x, noT) := by
   show jw0 _ x = _
   unfold jw0
   rw [if_neg (show ¬ F8 x.c j.who < 0 by rw [h2]; omega), if_neg (show ¬ (F5 j.text).2.2 ≠ 0 by rw [h3]; simpa using h5)]
  rw [e] at hq ⊢
  exact ⟨hq, h2, h3, h4, h5, rfl, fun _ _ => h1.ep, fun h => by omega, fun h => by omega⟩
 ·exact ⟨hq, h2, h3, h4, h5, rfl, fun _ _ => h7 (by omega) (by omega), fun h => by omega, fun h => by omega⟩
 ·have e : E0 2 { j with st := ((2 : Nat) : Int) + 1 } x = ({ j with st := ((2 : Nat) : Int) + 1 }, x, noT) := by
   show jw2 _ x = _
   unfold jw2
   rw [if_pos (show D9 x.cells 0 = j.ep by rw [h1.ep, h7 (by omega) (by omega)])]
  rw [e] at hq ⊢
  exact ⟨hq, h2, h3, h4, h5, rfl, fun _ _ => h7 (by omega) (by omega), fun h => by omega, fun h => by omega⟩
 ·exact ⟨hq, h2, h3, h4, h5, rfl, fun _ h => by omega, fun h => by omega, fun h => by omega⟩
 ·refine ⟨hq, h2, h3, h4, h5, rfl, fun _ h => by omega, fun _ => ?_, fun h => by omega⟩
  show IntKind.i64.wrap (D9 x.cells 1 - 1) = -1
  rw [h1.cur]; rfl
 ·exact ⟨hq, h2, h3, h4, h5, rfl, fun _ h => by omega, fun _ => h8 (by omega), fun h => by omega⟩
 ·refine ⟨hq, h2, h3, h4, h5, rfl, fun _ h => by omega, fun _ => h8 (by omega), fun _ => ?_⟩
  show (Y0 j.table (L4 x j.slot) j.key j.closing j.now x.c.idle).2.1 = _
  rw [hp, B4U]
 ·exact ⟨hq, h2, h3, h4, h5, rfl, fun _ h => by omega, fun _ => h8 (by omega), fun _ => h9 (by omega)⟩
 ·exact ⟨hq, h2, h3, h4, h5, rfl, fun _ h => by omega, fun _ => h8 (by omega), fun _ => h9 (by omega)⟩
 ·exact ⟨hq, h2, h3, h4, h5, rfl, fun _ h => by omega, fun _ => h8 (by omega), fun _ => h9 (by omega)⟩
end Go.Proofs.YtjobgnabneddjaaGreat
namespace Go.Proofs.YtjobgnabneddjaaGreat
open Go
theorem C1K {c : CfgV} (h : M9 c = true) : WsOk (L0 c) := by
 simp only [M9, W1, Bool.and_eq_true, decide_eq_true_eq] at h
 refine ⟨by simp only [L0]; omega, by simp only [L0, List.length_replicate], by simp only [L0, List.length_replicate]; omega, by simp only [L0, List.length_replicate]; omega, by simp only [L0, List.length_replicate]; omega⟩
theorem A3H (n : Nat) (i : Int) : D9 (List.replicate n 0) i = 0 := by
 unfold D9
 split
 ·rw [List.getD_eq_getElem?_getD, List.getElem?_replicate]; split <;> rfl
 ·rfl
end Go.Proofs.YtjobgnabneddjaaGreat
namespace Go.Proofs.YtjobgnabneddjaaGreat
open Go
abbrev WA := JW × JwY
def m4 (b : Nat) (m : WoH) (a : WA) : List Res := E3 b a.1 a.2.1 (m.uz a.2.2.1) a.2.2.2
def wx (m : WoH) (a : WA) : WS := (m.uz a.2.2.1).ws
structure JwC (m : WoH) (a : WA) : Prop where
 emp : ∀ t ∈ a.2.2.2, B1c t.2
 sub : A3V a.2.2.1.ts a.2.2.2
 tb : (a.2.1, a.1.table) ∈ a.2.2.2
theorem JwC.ok {N : Nat} {m : WoH} {a : WA} (h : JwC m a) (hq : QI N a.1 (wx m a)) : JwOk a.1 a.2.1 (m.uz a.2.2.1) a.2.2.2 := by
 obtain ⟨j, tv, d, P⟩ := a
 have hts : d.ts.length = N := by have := hq.tl; simpa [wx, WoH.ws, WoH.uz] using this
 have hn := hq.n
 have hpl : m.pl.length = N := hq.pl
 have how : d.own.length = N := hq.ow
 have hsh : m.c.sh = (N : Nat) := hq.sh
 have hjt := hq.jt
 have htx : j.text.size ≤ 100 := hq.text
 have hjl : j.table.length ≤ 64 := hjt.2
 have hsl : -1 ≤ j.slot ∧ j.slot ≤ 0 := hq.slot
 have hsd : 0 ≤ j.shard ∧ j.shard < N := hq.shard
 have h0 : D9 d.cells 0 = 0 := hq.ep
 have h1 : D9 d.cells 1 = 0 := hq.cur
 refine ⟨hq.ok, ⟨by show d.ts.length ≤ _; omega, by show m.pl.length = d.ts.length; omega, fun t ht => ?_, fun t ht => B6q (h.emp _ (h.sub _ ht)), by show d.own.length ≤ _; omega, h.sub⟩, h.tb, by show (d.ts.length : Int) = m.c.sh; omega, by show j.text.size < _; omega, hq.key, by show 0 ≤ j.shard ∧ j.shard < (d.ts.length : Int); omega, B6q hjt, by show j.table.length ≤ _; omega, by show -1 ≤ j.slot ∧ j.slot ≤ _; omega, by show 0 ≤ D9 d.cells 0 ∧ D9 d.cells 0 ≤ _; omega, by show 0 ≤ D9 d.cells 1 ∧ D9 d.cells 1 ≤ _; omega⟩
 have := (h.emp _ (h.sub _ ht)).2; omega
theorem B18 {N : Nat} (w' : World) (b : Nat) (m : WoH) (a : WA) (hc : JwC m a) (hq : QI N a.1 (wx m a)) (hs : LW false (B6 (m4 b m a)) w' (m4 b m a) w') :
  Fn PR B8 20 #[.pointer (some ⟨b, 0, none⟩), .pointer (some ⟨m.b, 0, none⟩)] w' (Rn (B6 (m4 b m a)) w' (fun (a' : WA) u => u = M0 (a.1.step (wx m a)).2.2 ∧ a'.1 = (a.1.step (wx m a)).1 ∧ wx m a' = (a.1.step (wx m a)).2.1 ∧ JwC m a' ∧ QI N a'.1 (wx m a')) (m4 b m)) := by
 have hq' := hq.step
 obtain ⟨j, tv, d, P⟩ := a
 refine (B4D w' b j tv (m.uz d) P (hc.ok hq) hq.st hs).mono fun u w'' hr => ?_
 obtain ⟨y, ⟨h1, h2, h3, h4, h5⟩, h6⟩ := hr
 have e2 : wx m ((j.step (m.uz d).ws).1, y) = (j.step (m.uz d).ws).2.1 := h2
 refine ⟨((j.step (m.uz d).ws).1, y), ⟨h1, rfl, e2, ⟨fun t ht => ?_, h3, h4⟩, by rw [e2]; exact hq'⟩, h6⟩
 rcases h5.2 t ht with h | h
 ·exact hc.emp t h
 ·rw [h]; exact hq'.jt
theorem B0g (w w' : World) (b : Nat) (m : WoH) (a : WA) {κ : Bool} {S : List Nat} {H : List Res} (hw : LW κ S w H w') (hs : ∀ r ∈ m4 b m a, r ∈ H) :
  Fn PR B8 23 #[.pointer (some ⟨b, 0, none⟩), .pointer (some ⟨m.b, 0, none⟩)] w' (fun u w'' => u = .bool (a.1.ready (wx m a)) ∧ C9 [] w' w'') :=
 C1W (m := m.uz a.2.2.1) hw (hs _ (by unfold m4 E3; (repeat constructor))) fun r hr => hs _ (by unfold m4 E3; exact List.mem_cons_of_mem _ (List.mem_cons_of_mem _ hr))
theorem C3W (n : Nat) (i : Int) : H8 (List.replicate n SlV.no) i = .no := by
 unfold H8
 split
 ·rw [List.getD_eq_getElem?_getD, List.getElem?_replicate]; split <;> rfl
 ·rfl
theorem QI.job {N : Nat} {j : JW} {x : WS} (h : QI N j x) (who : Int) (text : ByteArray) (ht : text.size ≤ 100) : QI N (F4 who text) x :=
 ⟨h.ok, h.n, h.sh, h.tl, h.te, h.pl, h.ow, ⟨fun x hx => by simp [F4] at hx, by simp [F4]⟩, h.sl, h.ep, h.cur, ht, by simp [F4, K6], by have := h.n; simp only [F4]; omega, by simp [F4], by simp [F4]⟩
theorem QI.own {N : Nat} {j : JW} {x : WS} (h : QI N j x) (own : List Int) (ho : own.length = N) : QI N j { x with own := own } :=
 ⟨⟨h.ok.wk, h.ok.cells, by show own.length ≤ 16; have := h.n; omega, h.ok.sl, h.ok.keep⟩, h.n, h.sh, h.tl, h.te, h.pl, ho, h.jt, h.sl, h.ep, h.cur, h.text, h.key, h.shard, h.slot, h.st⟩
theorem QI.new {c : CfgV} (hok : M9 c = true) (who : Int) (text : ByteArray) (ht : text.size ≤ 100) : QI c.sh.toNat (F4 who text) (L0 c) := by
 have hw := C1K hok
 simp only [M9, W1, Bool.and_eq_true, decide_eq_true_eq] at hok
 refine ⟨hw, by omega, by show c.sh = _; omega, by simp [L0], fun t h => ?_, by simp [L0], by simp [L0], ⟨fun x hx => by simp [F4] at hx, by simp [F4]⟩, fun i => C3W _ i, A3H _ _, A3H _ _, ht, by simp [F4, K6], by simp only [F4]; omega, by simp [F4], by simp [F4]⟩
 rw [(List.mem_replicate.1 (show t ∈ List.replicate c.sh.toNat (newE c.cp.toNat) from h)).2]
 exact B8P _
theorem JwC.new {c : CfgV} {m : WoH} (hws : m.ws = L0 c) (who : Int) (text : ByteArray) : JwC m (F4 who text, H9, m.dz, m.ts ++ [(H9, [])]) := by
 have e1 : m.ts.map (·.2) = List.replicate c.sh.toNat (newE c.cp.toNat) := congrArg WS.tabs hws
 refine ⟨fun t ht => ?_, fun t ht => List.mem_append_left _ ht, List.mem_append_right _ (List.mem_singleton.2 rfl)⟩
 rcases List.mem_append.1 ht with ht | ht
 ·have : t.2 ∈ m.ts.map (·.2) := List.mem_map.2 ⟨t, ht, rfl⟩
  rw [e1] at this
  rw [(List.mem_replicate.1 this).2]; exact B8P _
 ·rw [List.mem_singleton.1 ht]; exact ⟨fun x hx => by simp at hx, by simp⟩
theorem C2T {j : JW} {x : WS} {k : Nat} (hs : j.st = (k : Nat)) (hk : k < 3) : (j.step x).2.1.own = x.own := by
 cases hr : j.ready x with
 | false => rw [B0K hr]
 | true =>
  rw [A1p hr, hs, Int.toNat_natCast]
  have : k = 0 ∨ k = 1 ∨ k = 2 := by omega
  rcases this with rfl | rfl | rfl
  ·show (jw0 _ x).2.1.own = _
   unfold jw0
   split
   ·rfl
   ·split <;> rfl
  ·rfl
  ·show (jw2 _ x).2.1.own = _
   unfold jw2
   split <;> rfl
end Go.Proofs.YtjobgnabneddjaaGreat
namespace Go.Proofs.YtjobgnabneddjaaGreat
open Go
theorem B86 (w : World) (m : WoH) (hb : bl w m.b = some (.cells (D1 m.c (.pointer (some ⟨m.bc, 0, none⟩)) (.pointer (some ⟨m.bs, 0, none⟩)) (.pointer (some ⟨m.bk, 0, none⟩)) m.tv m.pv (.int .i64 m.now)) 39 (0, 0))) :
  Fn PR B8 18 #[.pointer (some ⟨m.b, 0, none⟩)] w (fun u w' => u = .bool true ∧ C9 [] w w') := by
 refine Fn.pure (A36 (TW.go (κ := false) (S := []) ?_))
 unfold u4
 have h5 : w.cell? ⟨m.b, 5, none⟩ = some (.pointer (some ⟨m.bc, 0, none⟩)) := by rw [E1 hb]; rfl
 have h6 : w.cell? ⟨m.b, 6, none⟩ = some (.pointer (some ⟨m.bs, 0, none⟩)) := by rw [E1 hb]; rfl
 have h7 : w.cell? ⟨m.b, 7, none⟩ = some (.pointer (some ⟨m.bk, 0, none⟩)) := by rw [E1 hb]; rfl
 (have zz:=trivial;repeat((first|clear zz|with_reducible first|refine A3 ?_|refine A5 fun _=>?_|refine A4 fun _=>?_);try simp(disch:=first|omega|assumption|((repeat(first|exact A1|exact uH|apply A2|apply uT));first|done|fail)|(simp;first|done|omega|fail))[h5, h6, h7]))
 exact B0 rfl
def C4W : CfgV := ⟨1, 1, 1, 5, 2⟩
def B5M : KeyV := ⟨4, ByteArray.mk #[97, 98, 99, 100], ByteArray.mk #[101, 102, 103, 104], 1, 2, 17⟩
def j1 : ByteArray := (m0 B5M 0).1
theorem B82 : (F5 j1).2.2 = 0 := by kernel_rfl
theorem B80 : j1.size ≤ 100 := by decide +kernel
theorem C8n : (m0 B5M 0).2 = 0 := by kernel_rfl
theorem C5M : (F5 K6).2.2 ≠ 0 := by decide +kernel
theorem C6Z : M9 C4W = true := by kernel_rfl
theorem B6a (r : Res) : ∀ A : List Res, Part A (r :: A) [r]
 | [] => Part.nil
 | t :: A => Part.cons (.there .here) (B6a r A)
set_option maxHeartbeats 4000000 in
theorem B9B (w : World) : Fn PR B8 14 #[] w (fun r w' => r = .bool true ∧ C9 [] w w') := by
 refine Fn.pure (A39 (TW.go (κ := false) (S := []) ?_))
 unfold u3
 (have zz:=trivial;repeat((first|clear zz|with_reducible first|refine A3 ?_|refine A5 fun _=>?_|refine A4 fun _=>?_);try simp(disch:=first|omega|assumption|((repeat(first|exact A1|exact uH|apply A2|apply uT));first|done|fail)|(simp;first|done|omega|fail))[]))
 refine H3 A7j (fun w' hw' => B8W w' C4W) ?_
 rw [C6Z]
 simp only [if_true]
 rintro m v ⟨rfl, hmc, hws⟩
 (have zz:=trivial;repeat((first|clear zz|with_reducible first|refine A3 ?_|refine A5 fun _=>?_|refine A4 fun _=>?_);try simp(disch:=first|omega|assumption|((repeat(first|exact A1|exact uH|apply A2|apply uT));first|done|fail)|(simp;first|done|omega|fail))[]))
 refine C4 (u := .tuple #[.string j1, .int .i64 (m0 B5M 0).2]) B3v (fun w' _ => B6w w' B5M 0) ?_
 rw [C8n]
 (have zz:=trivial;repeat((first|clear zz|with_reducible first|refine A3 ?_|refine A5 fun _=>?_|refine A4 fun _=>?_);try simp(disch:=first|omega|assumption|((repeat(first|exact A1|exact uH|apply A2|apply uT));first|done|fail)|(simp;first|done|omega|fail))[]))
 refine H3 A1y (fun w' hw' => B1g w' 1 j1) ?_
 rintro b v rfl
 (have zz:=trivial;repeat((first|clear zz|with_reducible first|refine A3 ?_|refine A5 fun _=>?_|refine A4 fun _=>?_);try simp(disch:=first|omega|assumption|((repeat(first|exact A1|exact uH|apply A2|apply uT));first|done|fail)|(simp;first|done|omega|fail))[]))
 refine H3 A1y (fun w' hw' => B1g w' 1 K6) ?_
 rintro b2 v rfl
 simp only [List.cons_append, List.nil_append]
 refine n4 218 4 ?_
 have hmz : m.uz m.dz = m := rfl
 refine Z8 (r := .slice none 0 0) (l := []) (ts := m.ts) (by simp only [B9, List.cons_append, List.nil_append]; (repeat' constructor)) ?_
 refine Sels.tw (rs := F9 b2 (F4 1 K6) H9 :: m4 b m (F4 1 j1, H9, m.dz, m.ts ++ [(H9, [])])) (by simp only [m4, E3, hmz, B9, H9, List.cons_append, List.nil_append]; (repeat' constructor)) ?_
 have hq0 : QI 1 (F4 1 j1) (wx m (F4 1 j1, H9, m.dz, m.ts ++ [(H9, [])])) := by
  have := QI.new C6Z 1 j1 B80
  show QI 1 _ m.ws
  rw [hws]; exact this
 have hg0 : GoI 1 1 j1 0 (F4 1 j1) (wx m (F4 1 j1, H9, m.dz, m.ts ++ [(H9, [])])) :=
  ⟨hq0, rfl, rfl, by show 0 ≤ F8 m.ws.c 1; rw [hws]; decide, B82, rfl, fun h => by omega, fun h => by omega, fun h => by omega⟩
 have ho0 : (wx m (F4 1 j1, H9, m.dz, m.ts ++ [(H9, [])])).own = A7Q 1 := by show m.ws.own = _; rw [hws]; rfl
 (have zz:=trivial;repeat((first|clear zz|with_reducible first|refine A3 ?_|refine A5 fun _=>?_|refine A4 fun _=>?_);try simp(disch:=first|omega|assumption|((repeat(first|exact A1|exact uH|apply A2|apply uT));first|done|fail)|(simp;first|done|omega|fail))[]))
 refine B83 (fun (y : WA × Nat) => F9 b2 (F4 1 K6) H9 :: m4 b m y.1) (fun y => y.2 ≤ 10 ∧ JwC m y.1 ∧ GoI 1 1 j1 y.2 y.1.1 (wx m y.1) ∧ (y.2 ≤ 3 → (wx m y.1).own = A7Q 1)) (fun y => 10 - y.2) ((F4 1 j1, H9, m.dz, m.ts ++ [(H9, [])]), 0) (fun y => .int .i64 (y.2 : Nat)) ⟨Nat.zero_le _, JwC.new hws 1 j1, hg0, fun _ => ho0⟩ ?_
 rintro ⟨a, n⟩ ⟨h1, h2, h3, h4⟩ L hL
 simp only at h1 h2 h3 h4 hL ⊢
 have hR := fun (w' : World) (H : List Res) (hw' : LW false [] w H w') (hs : ∀ r ∈ m4 b m a, r ∈ H) => B0g w w' b m a hw' hs
 have c20 : n < 20 := by omega
 have c20' : ((n : Nat) : Int) < 20 := by omega
 by_cases hn : n < 10
 ·obtain ⟨hr, hg⟩ := C5Q h3 hn fun h => by
   rw [h4 (by omega)]
   have : z8 (A7Q 1) a.1.shard = -1 := C3y (fun j hj => C2d (by simpa [A7Q] using hj)) _
   omega
  have hos := C2T h3.st (x := wx m a)
  rw [hr] at hR
  (have zz:=trivial;repeat((first|clear zz|with_reducible first|refine A3 ?_|refine A5 fun _=>?_|refine A4 fun _=>?_);try simp(disch:=first|omega|assumption|((repeat(first|exact A1|exact uH|apply A2|apply uT));first|done|fail)|(simp;first|done|omega|fail))[c20, c20']))
  refine C4 Q0 (fun w' hw' => hR w' _ hw' (fun r hr => List.mem_cons_of_mem _ hr)) ?_
  (have zz:=trivial;repeat((first|clear zz|with_reducible first|refine A3 ?_|refine A5 fun _=>?_|refine A4 fun _=>?_);try simp(disch:=first|omega|assumption|((repeat(first|exact A1|exact uH|apply A2|apply uT));first|done|fail)|(simp;first|done|omega|fail))[c20, c20']))
  refine C7 (Hc := m4 b m a) (Hk := [F9 b2 (F4 1 K6) H9]) m5 (fun w' hw' hs => B18 w' b m a h2 h3.q hs) (B6a _ _) ?_
  rintro a' v ⟨rfl, k1, k2, k3, k4⟩
  refine TW.perm ?_ List.perm_append_comm
  simp only [List.cons_append, List.nil_append]
  (have zz:=trivial;repeat((first|clear zz|with_reducible first|refine A3 ?_|refine A5 fun _=>?_|refine A4 fun _=>?_);try simp(disch:=first|omega|assumption|((repeat(first|exact A1|exact uH|apply A2|apply uT));first|done|fail)|(simp;first|done|omega|fail))[]))
  exact hL (a', n + 1) ⟨by simp only; omega, k3, by rw [← k1, ← k2] at hg; exact hg, fun h => by simp only at h ⊢; rw [k2, hos (by omega)]; exact h4 (by omega)⟩ (by simp only; omega)
 obtain rfl : n = 10 := by omega
 clear hL
 have hst : a.1.st = 10 := h3.st
 have hr : a.1.ready (wx m a) = false := by unfold JW.ready; rw [decide_eq_false (by omega)]; rfl
 have hans := h3.ans (by omega)
 rw [hr] at hR
 (have zz:=trivial;repeat((first|clear zz|with_reducible first|refine A3 ?_|refine A5 fun _=>?_|refine A4 fun _=>?_);try simp(disch:=first|omega|assumption|((repeat(first|exact A1|exact uH|apply A2|apply uT));first|done|fail)|(simp;first|done|omega|fail))[]))
 refine C4 Q0 (fun w' hw' => hR w' _ hw' (fun r hr => List.mem_cons_of_mem _ hr)) ?_
 (have zz:=trivial;repeat((first|clear zz|with_reducible first|refine A3 ?_|refine A5 fun _=>?_|refine A4 fun _=>?_);try simp(disch:=first|omega|assumption|((repeat(first|exact A1|exact uH|apply A2|apply uT));first|done|fail)|(simp;first|done|omega|fail))[]))
 obtain ⟨j, tv, d, P⟩ := a
 have hq := h3.q
 have hemp := h2.emp
 have hsub := h2.sub
 simp only at hst hans hq hemp hsub
 refine n4 218 4 ?_
 simp only [m4, E3]
 refine Z8 (r := .slice none 0 0) (l := []) (ts := P) (by (repeat' constructor)) ?_
 have hmb : (m.uz d).b = m.b := rfl
 have hcP : JwC (m.uz d) (F4 1 K6, H9, (m.uz d).dz, P ++ [(H9, [])]) := by
  refine ⟨fun t ht => ?_, fun t ht => List.mem_append_left _ (hsub t ht), List.mem_append_right _ (List.mem_singleton.2 rfl)⟩
  rcases List.mem_append.1 ht with ht | ht
  ·exact hemp t ht
  ·rw [List.mem_singleton.1 ht]; exact ⟨fun x hx => by simp at hx, by simp⟩
 have hq2 : QI 1 (F4 1 K6) (wx (m.uz d) (F4 1 K6, H9, (m.uz d).dz, P ++ [(H9, [])])) := hq.job 1 K6 (by simp [K6])
 have hbad : (F4 1 K6).step (m.uz d).ws = (({ F4 1 K6 with st := 1 } : JW).refuse 9, (m.uz d).ws, true, true, false) := by
  have := C6n (j := F4 1 K6) (x := (m.uz d).ws) rfl (by have : (m.uz d).ws.c = m.ws.c := rfl; rw [this, hws]; decide) C5M
  exact this
 refine C7 (Hc := m4 b2 (m.uz d) (F4 1 K6, H9, (m.uz d).dz, P ++ [(H9, [])])) (Hk := [F9 b j tv]) m5 (fun w' hw' hs => B18 (N := 1) w' b2 (m.uz d) _ hcP hq2 hs) (by simp only [m4, E3, show (m.uz d).uz (m.uz d).dz = m.uz d from rfl, B9, H9, List.cons_append, List.nil_append]; (repeat' constructor)) ?_
 rintro ⟨j2, tv2, d2, P2⟩ v ⟨rfl, k1, _, _, _⟩
 simp only [wx, show (m.uz d).uz (m.uz d).dz = m.uz d from rfl, hbad] at k1 ⊢
 subst k1
 have hA1 := fun (w' : World) (g : bl w' b = some (.cells (G7 j tv) 130 (0, 0))) => B0q w' b j tv g
 have hS1 := fun (w' : World) (g : bl w' b = some (.cells (G7 j tv) 130 (0, 0))) => A7B w' b j tv g
 rw [hans] at hA1
 rw [hst] at hS1
 obtain ⟨j3, hj3⟩ : ∃ j3, j3 = ({ F4 1 K6 with st := 1 } : JW).refuse 9 := ⟨_, rfl⟩
 have e3 : j3.ans = ⟨9, 0, false, 0⟩ ∧ j3.st = 10 := by rw [hj3]; exact ⟨rfl, rfl⟩
 have r3 : j3.ready ((m.uz d).uz d2).ws = false := by unfold JW.ready; rw [decide_eq_false (by omega)]; rfl
 rw [← hj3]
 have hA2 := fun (w' : World) (g : bl w' b2 = some (.cells (G7 j3 tv2) 130 (0, 0))) => B0q w' b2 j3 tv2 g
 have hS2 := fun (w' : World) (g : bl w' b2 = some (.cells (G7 j3 tv2) 130 (0, 0))) => A7B w' b2 j3 tv2 g
 have hR2 := fun (w' : World) (H : List Res) (hw' : LW false [] w H w') (hs : ∀ r ∈ m4 b2 (m.uz d) (j3, tv2, d2, P2), r ∈ H) => B0g w w' b2 (m.uz d) (j3, tv2, d2, P2) hw' hs
 rw [show wx (m.uz d) (j3, tv2, d2, P2) = ((m.uz d).uz d2).ws from rfl, r3] at hR2
 rw [e3.1] at hA2
 rw [e3.2] at hS2
 simp only [m4, E3, List.cons_append, List.nil_append, M0]
 (have zz:=trivial;repeat((first|clear zz|with_reducible first|refine A3 ?_|refine A5 fun _=>?_|refine A4 fun _=>?_);try simp(disch:=first|omega|assumption|((repeat(first|exact A1|exact uH|apply A2|apply uT));first|done|fail)|(simp;first|done|omega|fail))[]))
 rename_i bt
 refine C4 A0W (fun w' hw' => hA1 w' (hw'.pt (b := b) (by unfold F9; simp))) ?_
 simp only [AnsV.val]
 (have zz:=trivial;repeat((first|clear zz|with_reducible first|refine A3 ?_|refine A5 fun _=>?_|refine A4 fun _=>?_);try simp(disch:=first|omega|assumption|((repeat(first|exact A1|exact uH|apply A2|apply uT));first|done|fail)|(simp;first|done|omega|fail))[]))
 refine C4 k8 (fun w' hw' => hS1 w' (hw'.pt (b := b) (by unfold F9; simp))) ?_
 (have zz:=trivial;repeat((first|clear zz|with_reducible first|refine A3 ?_|refine A5 fun _=>?_|refine A4 fun _=>?_);try simp(disch:=first|omega|assumption|((repeat(first|exact A1|exact uH|apply A2|apply uT));first|done|fail)|(simp;first|done|omega|fail))[]))
 refine C4 A0W (fun w' hw' => hA2 w' (hw'.pt (b := b2) (by unfold F9; simp))) ?_
 simp only [AnsV.val]
 (have zz:=trivial;repeat((first|clear zz|with_reducible first|refine A3 ?_|refine A5 fun _=>?_|refine A4 fun _=>?_);try simp(disch:=first|omega|assumption|((repeat(first|exact A1|exact uH|apply A2|apply uT));first|done|fail)|(simp;first|done|omega|fail))[]))
 refine C4 Q0 (fun w' hw' => hR2 w' _ hw' (fun r hr => by unfold m4 E3 at hr; simp only [List.mem_cons, List.mem_append] at hr ⊢; rcases hr with h | h | h <;> simp [h])) ?_
 (have zz:=trivial;repeat((first|clear zz|with_reducible first|refine A3 ?_|refine A5 fun _=>?_|refine A4 fun _=>?_);try simp(disch:=first|omega|assumption|((repeat(first|exact A1|exact uH|apply A2|apply uT));first|done|fail)|(simp;first|done|omega|fail))[]))
 refine C4 k8 (fun w' hw' => hS2 w' (hw'.pt (b := b2) (by unfold F9; simp))) ?_
 (have zz:=trivial;repeat((first|clear zz|with_reducible first|refine A3 ?_|refine A5 fun _=>?_|refine A4 fun _=>?_);try simp(disch:=first|omega|assumption|((repeat(first|exact A1|exact uH|apply A2|apply uT));first|done|fail)|(simp;first|done|omega|fail))[]))
 exact B0 rfl
end Go.Proofs.YtjobgnabneddjaaGreat
namespace Go.Proofs.YtjobgnabneddjaaGreat
open Go
structure GI (N E : Nat) (j : JW) (x : WS) : Prop where
 ok : WsOk x
 n : 1 ≤ N ∧ N ≤ 16
 sh : x.c.sh = (N : Nat)
 tl : x.tabs.length = N
 te : ∀ t ∈ x.tabs, TabOk x.c.cp.toNat t
 pl : x.places.length = N
 ow : x.own.length = N
 jt : TabOk 0 j.table ∨ TabOk x.c.cp.toNat j.table
 ep : 0 ≤ D9 x.cells 0 ∧ D9 x.cells 0 ≤ E
 cur : 0 ≤ D9 x.cells 1 ∧ D9 x.cells 1 ≤ 500
 now : 0 ≤ x.now ∧ x.now ≤ 1000000000
 text : j.text.size ≤ 100
 key : j.key.size < 2 ^ 60
 shard : 0 ≤ j.shard ∧ j.shard < N
 slot : -1 ≤ j.slot ∧ j.slot ≤ 500
 st : 0 ≤ j.st ∧ j.st ≤ 10
 jep : 0 ≤ j.ep ∧ j.ep ≤ E
 jt2 : 6 ≤ j.st → j.st < 10 → TabOk x.c.cp.toNat j.table
theorem GI.stage {N E : Nat} {j : JW} {x : WS} (h : GI N E j x) (k : Nat) (hk : k < 10) (hs : j.st = (k : Nat)) : GI N E (E0 k { j with st := j.st + 1 } x).1 (E0 k { j with st := j.st + 1 } x).2.1 := by
 have hst : 0 ≤ j.st + 1 ∧ j.st + 1 ≤ 10 := by omega
 have hcase : k = 0 ∨ k = 1 ∨ k = 2 ∨ k = 3 ∨ k = 4 ∨ k = 5 ∨ k = 6 ∨ k = 7 ∨ k = 8 ∨ k = 9 := by omega
 have hn := h.n
 have hcur := h.cur
 rcases hcase with rfl | rfl | rfl | rfl | rfl | rfl | rfl | rfl | rfl | rfl
 ·show GI N E (jw0 _ x).1 (jw0 _ x).2.1
  unfold jw0
  by_cases c1 : F8 x.c j.who < 0
  ·rw [if_pos c1]; exact { h with st := by simp [JW.refuse], jt2 := fun _ (h6 : (10 : Int) < 10) => by omega }
  ·rw [if_neg c1]
   by_cases c2 : (F5 j.text).2.2 = 0
   ·rw [if_neg (by simpa using c2)]
    have h3 := h.sh
    have : Y7 (A42 (F5 j.text).1) x.c.sh < N := by
     unfold Y7; rw [if_neg (by omega), h3, Int.toNat_natCast]; exact Nat.mod_lt _ (by omega)
    exact { h with st := hst, key := A8n _, jep := h.ep, jt2 := fun (h6 : 6 ≤ j.st + 1) _ => by omega, shard := ⟨Int.natCast_nonneg _, by show ((Y7 (A42 (F5 j.text).1) x.c.sh : Nat) : Int) < N; omega⟩ }
   ·rw [if_pos c2]; exact { h with st := by simp [JW.refuse], jt2 := fun _ (h6 : (10 : Int) < 10) => by omega }
 ·have e0 : D9 (K3 x.cells (F8 x.c j.who) (IntKind.i64.wrap (j.ep + 1))) 0 = D9 x.cells 0 := r5 _ _ _ _ _ (Or.inl rfl)
  have e1 : D9 (K3 x.cells (F8 x.c j.who) (IntKind.i64.wrap (j.ep + 1))) 1 = D9 x.cells 1 := r5 _ _ _ _ _ (Or.inr rfl)
  exact { h with st := hst, jt2 := fun (h6 : 6 ≤ j.st + 1) _ => by omega, ok := ⟨h.ok.wk, by simp only [E0, jw1, A0f]; exact h.ok.cells, h.ok.own, h.ok.sl, h.ok.keep⟩, ep := by simp only [E0, jw1]; rw [e0]; exact h.ep, cur := by simp only [E0, jw1]; rw [e1]; exact h.cur }
 ·show GI N E (jw2 _ x).1 (jw2 _ x).2.1
  unfold jw2
  by_cases c1 : D9 x.cells 0 = j.ep
  ·rw [if_pos c1]; exact { h with st := hst, jt2 := fun (h6 : 6 ≤ j.st + 1) _ => by omega }
  ·rw [if_neg c1]; exact { h with st := by simp, jep := h.ep, jt2 := fun (h6 : (6 : Int) ≤ 1) _ => by omega }
 ·exact { h with st := hst, jt2 := fun (h6 : 6 ≤ j.st + 1) _ => by omega, ok := ⟨h.ok.wk, h.ok.cells, by simp only [E0, jw3, A0b]; exact h.ok.own, h.ok.sl, h.ok.keep⟩, ow := by simp only [E0, jw3, A0b]; exact h.ow }
 ·have e : IntKind.i64.wrap (D9 x.cells 1 - 1) = D9 x.cells 1 - 1 := T8 (by omega) (by omega)
  exact { h with st := hst, jt2 := fun (h6 : 6 ≤ j.st + 1) _ => by omega, slot := by show -1 ≤ IntKind.i64.wrap (D9 x.cells 1 - 1) ∧ IntKind.i64.wrap (D9 x.cells 1 - 1) ≤ 500; rw [e]; omega }
 ·have hsd := h.shard
  have htl := h.tl
  have key : TabOk x.c.cp.toNat (x.tabs.getD j.shard.toNat []) := by
   rw [List.getD_eq_getElem?_getD, List.getElem?_eq_getElem (by omega)]
   exact h.te _ (List.getElem_mem _)
  exact { h with st := hst, jt := Or.inr key, jt2 := fun _ _ => key }
 ·exact { h with st := hst, jt := h.jt.imp (fun g => (A7F g h.key).1) (fun g => (A7F g h.key).1), jt2 := fun _ _ => (A7F (h.jt2 (by omega) (by omega)) h.key).1 }
 ·have key := h.jt2 (by omega) (by omega)
  refine { h with st := hst, tl := by simp only [E0, jw7, List.length_set]; exact h.tl, te := fun t ht => ?_, ok := ⟨h.ok.wk, h.ok.cells, h.ok.own, h.ok.sl, h.ok.keep⟩, jt2 := fun _ _ => key }
  rcases List.mem_or_eq_of_mem_set (show t ∈ x.tabs.set j.shard.toNat j.table from ht) with ht | rfl
  ·exact h.te t ht
  ·exact key
 ·exact { h with st := hst, jt2 := fun _ _ => h.jt2 (by omega) (by omega), ok := ⟨h.ok.wk, h.ok.cells, by simp only [E0, jw8, l8]; exact h.ok.own, h.ok.sl, h.ok.keep⟩, ow := by simp only [E0, jw8, l8]; exact h.ow }
 ·have e0 : D9 (K3 x.cells (F8 x.c j.who) 0) 0 = D9 x.cells 0 := r5 _ _ _ _ _ (Or.inl rfl)
  have e1 : D9 (K3 x.cells (F8 x.c j.who) 0) 1 = D9 x.cells 1 := r5 _ _ _ _ _ (Or.inr rfl)
  exact { h with st := hst, jt2 := fun _ (h6 : j.st + 1 < 10) => by omega, ok := ⟨h.ok.wk, by simp only [E0, jw9, A0f]; exact h.ok.cells, h.ok.own, h.ok.sl, h.ok.keep⟩, ep := by simp only [E0, jw9]; rw [e0]; exact h.ep, cur := by simp only [E0, jw9]; rw [e1]; exact h.cur }
theorem GI.step {N E : Nat} {j : JW} {x : WS} (h : GI N E j x) : GI N E (j.step x).1 (j.step x).2.1 := by
 cases hr : j.ready x with
 | false => rw [B0K hr]; exact h
 | true =>
  have hs := h.st
  have hl := B1d hr
  rw [A1p hr]
  exact h.stage _ (by omega) (by omega)
theorem B8U (l : List Int) (i k v : Int) : D9 (K3 l i v) k = if i = k ∧ 0 ≤ i ∧ i < l.length then v else D9 l k := by
 by_cases c : i = k
 ·subst c
  rw [A3G]
  by_cases d : 0 ≤ i ∧ i < l.length
  ·rw [if_pos d, if_pos ⟨rfl, d⟩]
  ·rw [if_neg d, if_neg (by omega)]
   unfold D9; rw [if_neg d]
 ·rw [q8 _ _ c, if_neg (by omega)]
theorem GI.hap {N E : Nat} {j : JW} {x : WS} (h : GI N E j x) (hE : E ≤ 1000) (a : ActV) (y : XS) (hc : y.c = x.c) (hcs : x.c.sl ≤ 8) : GI N (E + 1) j (Q8 a x y) := by
 have hep := h.ep
 have hcl := h.ok.cells
 have hwk := h.ok.wk
 have up : GI N (E + 1) j x := { h with ep := by omega, jep := by have := h.jep; omega }
 unfold Q8
 split
 ·have e0 : D9 (K3 x.cells 0 (IntKind.i64.wrap (D9 x.cells 0 + 1))) 0 = D9 x.cells 0 + 1 := by
   rw [A3G, if_pos (by omega)]; exact T8 (by omega) (by omega)
  have e1 : D9 (K3 x.cells 0 (IntKind.i64.wrap (D9 x.cells 0 + 1))) 1 = D9 x.cells 1 := q8 _ _ (by omega)
  exact { up with ep := by simp only; rw [e0]; omega, cur := by simp only; rw [e1]; exact h.cur, ok := ⟨h.ok.wk, by simp only [A0f]; exact hcl, h.ok.own, h.ok.sl, h.ok.keep⟩ }
 split
 ·split
  ·exact { up with ok := ⟨h.ok.wk, h.ok.cells, by simp only [A0b]; exact h.ok.own, h.ok.sl, h.ok.keep⟩, ow := by simp only [A0b]; exact h.ow }
  ·exact up
 split
 ·split
  ·exact { up with ok := ⟨h.ok.wk, h.ok.cells, by simp only [l8]; exact h.ok.own, h.ok.sl, h.ok.keep⟩, ow := by simp only [l8]; exact h.ow }
  ·exact up
 split
 ·exact { up with ok := ⟨h.ok.wk, h.ok.cells, h.ok.own, by simp only [C02, A6l]; exact h.ok.sl, h.ok.keep⟩ }
 split
 ·exact { up with ok := ⟨h.ok.wk, h.ok.cells, h.ok.own, by simp only [A6l]; exact h.ok.sl, h.ok.keep⟩ }
 split
 ·split
  ·rename_i hn
   rw [hc] at hn
   have e1 : D9 (K3 x.cells 1 (a.n + 1)) 1 = a.n + 1 := by rw [A3G, if_pos (by omega)]
   have e0 : D9 (K3 x.cells 1 (a.n + 1)) 0 = D9 x.cells 0 := q8 _ _ (by omega)
   exact { up with ep := by simp only; rw [e0]; exact up.ep, cur := by simp only; rw [e1]; omega, ok := ⟨h.ok.wk, by simp only [A0f]; exact hcl, h.ok.own, h.ok.sl, h.ok.keep⟩ }
  ·exact up
 split
 ·exact { up with now := B6s h.now, ok := ⟨h.ok.wk, h.ok.cells, h.ok.own, h.ok.sl, h.ok.keep⟩ }
 ·exact up
end Go.Proofs.YtjobgnabneddjaaGreat
namespace Go.Proofs.YtjobgnabneddjaaGreat
open Go
structure PinJ (N E : Nat) (who pd e : Int) (j : JW) (x : WS) (y : XS) : Prop where
 g : GI N E j x
 hwho : j.who = who
 w0 : 0 ≤ who ∧ who ≤ 60
 lk : y.locks = x.own
 yc : y.c = x.c
 ec : D9 x.cells 0 = e
 free : ∀ i, i < N → x.own.getD i 0 < 0 → x.own.getD i 0 = -1
 held : 4 ≤ j.st → j.st ≤ 8 → ∀ i : Nat, i < N → (x.own.getD i 0 = who ↔ (i : Int) = j.shard)
 none : ¬ (4 ≤ j.st ∧ j.st ≤ 8) → ∀ i, i < N → x.own.getD i 0 ≠ who
 off : F8 x.c who < 0 → j.st = 0 ∨ j.st = 10
 p0 : 0 ≤ F8 x.c who → (j.st = 0 ∨ j.st = 10) → D9 x.cells (F8 x.c who) = 0
 p2 : 2 ≤ j.st → j.st ≤ 9 → D9 x.cells (F8 x.c who) = j.ep + 1
 pd0 : j.st ≤ 2 → pd = 0
 pd3 : 3 ≤ j.st → j.st ≤ 9 → pd = j.ep + 1
def pdN (pd e : Int) (j : JW) : Int := if j.st = 3 ∧ pd = 0 then e + 1 else pd
theorem V2 {pd e : Int} {j : JW} (h : j.st ≠ 3 ∨ pd ≠ 0) : pdN pd e j = pd := by unfold pdN; rw [if_neg (by omega)]
theorem A0L {l : List Int} {i k : Nat} {v : Int} (hi : i < l.length) : (l.set i v).getD k 0 = if i = k then v else l.getD k 0 := by
 rw [List.getD_eq_getElem?_getD, List.getElem?_set]
 by_cases c : i = k
 ·subst c; rw [if_pos rfl, if_pos hi, if_pos rfl]; rfl
 ·rw [if_neg c, if_neg c, ← List.getD_eq_getElem?_getD]
theorem PinJ.stage {N E : Nat} {who pd e : Int} {j : JW} {x : WS} {y : XS} (h : PinJ N E who pd e j x y) (hE : E ≤ 1000) (k : Nat) (hk : k < 10) (hs : j.st = (k : Nat)) (hr : j.ready x = true) :
  PinJ N E who (pdN pd e (E0 k { j with st := j.st + 1 } x).1) e (E0 k { j with st := j.st + 1 } x).1 (E0 k { j with st := j.st + 1 } x).2.1 { y with locks := (E0 k { j with st := j.st + 1 } x).2.1.own } := by
 have hw := h.hwho
 subst hw
 have hw : j.who = j.who := rfl
 have hg := h.g.stage k hk hs
 have hcase : k = 0 ∨ k = 1 ∨ k = 2 ∨ k = 3 ∨ k = 4 ∨ k = 5 ∨ k = 6 ∨ k = 7 ∨ k = 8 ∨ k = 9 := by omega
 have hn := h.g.n
 have hwk := h.g.ok.wk
 have hcl := h.g.ok.cells
 have hsd := h.g.shard
 have how := h.g.ow
 have hjep := h.g.jep
 have hw0 := h.w0
 have hpr : 0 ≤ F8 x.c j.who → 2 ≤ F8 x.c j.who ∧ F8 x.c j.who < x.cells.length := by unfold F8; intro h1; split at h1 <;> split <;> omega
 have hoff := h.off
 have hno := h.none
 have hhe := h.held
 rcases hcase with rfl | rfl | rfl | rfl | rfl | rfl | rfl | rfl | rfl | rfl
 ·have hno' := hno (by omega)
  have hpd := h.pd0 (by omega)
  have hp0 := fun g => h.p0 g (Or.inl (by omega))
  rw [show E0 0 { j with st := j.st + 1 } x = jw0 { j with st := j.st + 1 } x from rfl] at hg ⊢
  unfold jw0 at hg ⊢
  simp only at hg ⊢
  by_cases c1 : F8 x.c j.who < 0
  ·rw [if_pos c1] at hg ⊢
   rw [V2 (Or.inl (by simp [JW.refuse]))]
   exact ⟨hg, hw, h.w0, rfl, h.yc, h.ec, h.free, fun _ (h8 : (10 : Int) ≤ 8) => by omega, fun _ => hno', fun _ => Or.inr rfl, fun g _ => hp0 g, fun _ (h9 : (10 : Int) ≤ 9) => by omega, fun (h2 : (10 : Int) ≤ 2) => by omega, fun _ (h9 : (10 : Int) ≤ 9) => by omega⟩
  rw [if_neg c1] at hg ⊢
  by_cases c2 : (F5 j.text).2.2 = 0
  case neg =>
   rw [if_pos c2] at hg ⊢
   rw [V2 (Or.inl (by simp [JW.refuse]))]
   exact ⟨hg, hw, h.w0, rfl, h.yc, h.ec, h.free, fun _ (h8 : (10 : Int) ≤ 8) => by omega, fun _ => hno', fun _ => Or.inr rfl, fun g _ => hp0 g, fun _ (h9 : (10 : Int) ≤ 9) => by omega, fun (h2 : (10 : Int) ≤ 2) => by omega, fun _ (h9 : (10 : Int) ≤ 9) => by omega⟩
  rw [if_neg (by simpa using c2)] at hg ⊢
  rw [V2 (Or.inl (by simp only [JW.rd]; omega))]
  exact ⟨hg, hw, h.w0, rfl, h.yc, h.ec, h.free, fun (h4 : 4 ≤ j.st + 1) _ => by omega, fun _ => hno', fun g => absurd g c1, fun g (h1 : j.st + 1 = 0 ∨ j.st + 1 = 10) => by omega, fun (h2 : 2 ≤ j.st + 1) _ => by omega, fun _ => hpd, fun (h3 : 3 ≤ j.st + 1) _ => by omega⟩
 ·have hno' := hno (by omega)
  have hpd := h.pd0 (by omega)
  have hp : 0 ≤ F8 x.c j.who := by have := hoff; omega
  have hp' := hpr hp
  have e0 : D9 (K3 x.cells (F8 x.c j.who) (j.ep + 1)) 0 = D9 x.cells 0 := by rw [B8U, if_neg (by omega)]
  have e1 : D9 (K3 x.cells (F8 x.c j.who) (j.ep + 1)) (F8 x.c j.who) = j.ep + 1 := by rw [B8U, if_pos (by omega)]
  rw [show E0 1 { j with st := j.st + 1 } x = ({ j with st := j.st + 1 }, { x with cells := K3 x.cells (F8 x.c j.who) (IntKind.i64.wrap (j.ep + 1)) }, noT) from rfl, T8 (by omega) (by omega)] at hg ⊢
  rw [V2 (Or.inl (show j.st + 1 ≠ 3 by omega))]
  exact ⟨hg, hw, h.w0, rfl, h.yc, by simp only; rw [e0]; exact h.ec, h.free, fun (h4 : 4 ≤ j.st + 1) _ => by omega, fun _ => hno', fun g => by simp only at g; omega, fun g (h1 : j.st + 1 = 0 ∨ j.st + 1 = 10) => by omega, fun _ _ => e1, fun _ => hpd, fun (h3 : 3 ≤ j.st + 1) _ => by omega⟩
 ·have hno' := hno (by omega)
  have hpd := h.pd0 (by omega)
  have hp2 := h.p2 (by omega) (by omega)
  have hec := h.ec
  rw [show E0 2 { j with st := j.st + 1 } x = jw2 { j with st := j.st + 1 } x from rfl] at hg ⊢
  unfold jw2 at hg ⊢
  simp only at hg ⊢
  by_cases c1 : D9 x.cells 0 = j.ep
  ·rw [if_pos c1] at hg ⊢
   have e : pdN pd e { j with st := j.st + 1 } = j.ep + 1 := by unfold pdN; rw [if_pos ⟨show j.st + 1 = 3 by omega, hpd⟩]; omega
   simp only [e]
   exact ⟨hg, hw, h.w0, rfl, h.yc, h.ec, h.free, fun (h4 : 4 ≤ j.st + 1) _ => by omega, fun _ => hno', fun g => by have := hoff g; omega, fun g (h1 : j.st + 1 = 0 ∨ j.st + 1 = 10) => by omega, fun _ _ => hp2, fun (h2 : j.st + 1 ≤ 2) => by omega, fun _ _ => rfl⟩
  ·rw [if_neg c1] at hg ⊢
   rw [V2 (Or.inl (show (1 : Int) ≠ 3 by omega))]
   exact ⟨hg, hw, h.w0, rfl, h.yc, h.ec, h.free, fun (h4 : (4 : Int) ≤ 1) _ => by omega, fun _ => hno', fun g => by have := hoff g; omega, fun g (h1 : (1 : Int) = 0 ∨ (1 : Int) = 10) => by omega, fun (h2 : (2 : Int) ≤ 1) _ => by omega, fun _ => hpd, fun (h3 : (3 : Int) ≤ 1) _ => by omega⟩
 ·have hpd := h.pd3 (by omega) (by omega)
  have hp2 := h.p2 (by omega) (by omega)
  have hno' := hno (by omega)
  obtain ⟨s, hs2⟩ : ∃ s : Nat, j.shard = s := ⟨j.shard.toNat, by omega⟩
  have hsN : s < N := by omega
  have hf : x.own.getD s 0 = -1 := by
   refine h.free s hsN ?_
   unfold JW.ready at hr
   rw [hs, hs2, C19 (by omega)] at hr
   simpa using hr
  have hlo : j5 x.own j.shard j.who = x.own.set s j.who := by
   unfold j5; rw [if_pos (by omega), hs2, B0J (by omega), if_pos hf]
  rw [show E0 3 { j with st := j.st + 1 } x = ({ j with st := j.st + 1 }, { x with own := j5 x.own j.shard j.who }, noT) from rfl, hlo] at hg ⊢
  rw [V2 (Or.inl (show j.st + 1 ≠ 3 by omega))]
  refine ⟨hg, hw, h.w0, rfl, h.yc, h.ec, fun i hi => ?_, fun _ _ i hi => ?_, fun (hx : ¬ (4 ≤ j.st + 1 ∧ j.st + 1 ≤ 8)) => by omega, fun g => by have := hoff g; omega, fun g (h1 : j.st + 1 = 0 ∨ j.st + 1 = 10) => by omega, fun _ _ => hp2, fun (h2 : j.st + 1 ≤ 2) => by omega, fun _ _ => hpd⟩
  ·simp only
   rw [A0L (by omega)]
   split
   ·omega
   ·exact h.free i hi
  ·simp only
   rw [A0L (by omega), hs2]
   split
   ·rename_i hq; simp [hq]
   ·rename_i hq
    have := hno' i hi
    constructor
    ·intro g; exact absurd g this
    ·intro g; omega
 ·have hpd := h.pd3 (by omega) (by omega)
  have hp2 := h.p2 (by omega) (by omega)
  have hh := hhe (by omega) (by omega)
  rw [V2 (Or.inl (show j.st + 1 ≠ 3 by omega))]
  exact ⟨hg, hw, h.w0, rfl, h.yc, h.ec, h.free, fun _ _ => hh, fun (hx : ¬ (4 ≤ j.st + 1 ∧ j.st + 1 ≤ 8)) => by omega, fun g => by have := hoff g; omega, fun g (h1 : j.st + 1 = 0 ∨ j.st + 1 = 10) => by omega, fun _ _ => hp2, fun (h2 : j.st + 1 ≤ 2) => by omega, fun _ _ => hpd⟩
 ·have hpd := h.pd3 (by omega) (by omega)
  have hp2 := h.p2 (by omega) (by omega)
  have hh := hhe (by omega) (by omega)
  rw [V2 (Or.inl (show j.st + 1 ≠ 3 by omega))]
  exact ⟨hg, hw, h.w0, rfl, h.yc, h.ec, h.free, fun _ _ => hh, fun (hx : ¬ (4 ≤ j.st + 1 ∧ j.st + 1 ≤ 8)) => by omega, fun g => by have := hoff g; omega, fun g (h1 : j.st + 1 = 0 ∨ j.st + 1 = 10) => by omega, fun _ _ => hp2, fun (h2 : j.st + 1 ≤ 2) => by omega, fun _ _ => hpd⟩
 ·have hpd := h.pd3 (by omega) (by omega)
  have hp2 := h.p2 (by omega) (by omega)
  have hh := hhe (by omega) (by omega)
  rw [V2 (Or.inl (show j.st + 1 ≠ 3 by omega))]
  exact ⟨hg, hw, h.w0, rfl, h.yc, h.ec, h.free, fun _ _ => hh, fun (hx : ¬ (4 ≤ j.st + 1 ∧ j.st + 1 ≤ 8)) => by omega, fun g => by have := hoff g; omega, fun g (h1 : j.st + 1 = 0 ∨ j.st + 1 = 10) => by omega, fun _ _ => hp2, fun (h2 : j.st + 1 ≤ 2) => by omega, fun _ _ => hpd⟩
 ·have hpd := h.pd3 (by omega) (by omega)
  have hp2 := h.p2 (by omega) (by omega)
  have hh := hhe (by omega) (by omega)
  rw [V2 (Or.inl (show j.st + 1 ≠ 3 by omega))]
  exact ⟨hg, hw, h.w0, rfl, h.yc, h.ec, h.free, fun _ _ => hh, fun (hx : ¬ (4 ≤ j.st + 1 ∧ j.st + 1 ≤ 8)) => by omega, fun g => by have := hoff g; omega, fun g (h1 : j.st + 1 = 0 ∨ j.st + 1 = 10) => by omega, fun _ _ => hp2, fun (h2 : j.st + 1 ≤ 2) => by omega, fun _ _ => hpd⟩
 ·have hpd := h.pd3 (by omega) (by omega)
  have hp2 := h.p2 (by omega) (by omega)
  have hh := hhe (by omega) (by omega)
  obtain ⟨s, hs2⟩ : ∃ s : Nat, j.shard = s := ⟨j.shard.toNat, by omega⟩
  have hsN : s < N := by omega
  have hf : x.own.getD s 0 = j.who := (hh s hsN).2 hs2.symm
  have hlo : Q5 x.own j.shard j.who = x.own.set s (-1) := by
   unfold Q5; rw [if_pos (by omega), hs2, B0J (by omega), if_pos hf]
  rw [show E0 8 { j with st := j.st + 1 } x = ({ j with st := j.st + 1 }, { x with own := Q5 x.own j.shard j.who }, noT) from rfl, hlo] at hg ⊢
  rw [V2 (Or.inl (show j.st + 1 ≠ 3 by omega))]
  refine ⟨hg, hw, h.w0, rfl, h.yc, h.ec, fun i hi => ?_, fun _ (h8 : j.st + 1 ≤ 8) => by omega, fun _ i hi => ?_, fun g => by have := hoff g; omega, fun g (h1 : j.st + 1 = 0 ∨ j.st + 1 = 10) => by omega, fun _ _ => hp2, fun (h2 : j.st + 1 ≤ 2) => by omega, fun _ _ => hpd⟩
  ·simp only
   rw [A0L (by omega)]
   split
   ·intro; rfl
   ·exact h.free i hi
  ·simp only
   rw [A0L (by omega)]
   split
   ·omega
   ·rename_i hq
    intro g
    have := (hh i hi).1 g
    omega
 ·have hpd := h.pd3 (by omega) (by omega)
  have hno' := hno (by omega)
  have e0 : D9 (K3 x.cells (F8 x.c j.who) 0) 0 = D9 x.cells 0 := r5 _ _ _ _ _ (Or.inl rfl)
  rw [show E0 9 { j with st := j.st + 1 } x = ({ j with st := j.st + 1 }, { x with cells := K3 x.cells (F8 x.c j.who) 0 }, false, true, false) from rfl] at hg ⊢
  rw [V2 (Or.inl (show j.st + 1 ≠ 3 by omega))]
  exact ⟨hg, hw, h.w0, rfl, h.yc, by simp only; rw [e0]; exact h.ec, h.free, fun _ (h8 : j.st + 1 ≤ 8) => by omega, fun _ => hno', fun _ => Or.inr (show j.st + 1 = 10 by omega), fun g _ => by simp only; rw [A3G, if_pos (by have := hpr g; omega)], fun _ (h9 : j.st + 1 ≤ 9) => by omega, fun (h2 : j.st + 1 ≤ 2) => by omega, fun _ (h9 : j.st + 1 ≤ 9) => by omega⟩
theorem PinJ.step {N E : Nat} {who pd e : Int} {j : JW} {x : WS} {y : XS} (h : PinJ N E who pd e j x y) (hE : E ≤ 1000) : PinJ N E who (pdN pd e (j.step x).1) e (j.step x).1 (j.step x).2.1 { y with locks := (j.step x).2.1.own } := by
 cases hr : j.ready x with
 | false =>
  rw [B0K hr]
  have e1 : pdN pd e j = pd := by
   by_cases c : j.st = 3
   ·have h1 := h.pd3 (by omega) (by omega)
    have h2 := h.g.jep
    exact V2 (Or.inr (by omega))
   ·exact V2 (Or.inl c)
  simp only [e1]
  exact ⟨h.g, h.hwho, h.w0, rfl, h.yc, h.ec, h.free, h.held, h.none, h.off, h.p0, h.p2, h.pd0, h.pd3⟩
 | true =>
  have hs := h.g.st
  have hl := B1d hr
  rw [A1p hr]
  exact h.stage hE _ (by omega) (by omega) hr
theorem PinJ.put {N E E' : Nat} {who pd e e' : Int} {j : JW} {x x' : WS} {y y' : XS} (h : PinJ N E who pd e j x y) (hg : GI N E' j x') (hc : x'.c = x.c) (hy : y'.c = x.c) (hl : y'.locks = x'.own) (he : D9 x'.cells 0 = e')
  (hp : 0 ≤ F8 x.c who → D9 x'.cells (F8 x.c who) = D9 x.cells (F8 x.c who))
  (ho : ∀ i, i < N → x'.own.getD i 0 = x.own.getD i 0 ∨ (x.own.getD i 0 ≠ who ∧ x'.own.getD i 0 ≠ who ∧ (x'.own.getD i 0 < 0 → x'.own.getD i 0 = -1))) : PinJ N E' who pd e' j x' y' := by
 have hoff := h.off
 have hw0 := h.w0
 refine ⟨hg, h.hwho, h.w0, hl, by rw [hy, hc], he, fun i hi hf => ?_, fun h4 h8 i hi => ?_, fun hx i hi => ?_, by rw [hc]; exact h.off, by rw [hc]; exact fun g g2 => by rw [hp g]; exact h.p0 g g2, by rw [hc]; exact fun g g2 => by rw [hp (by omega)]; exact h.p2 g g2, h.pd0, h.pd3⟩
 ·rcases ho i hi with ho | ho
  ·rw [ho] at hf ⊢; exact h.free i hi hf
  ·exact ho.2.2 hf
 ·have := h.held h4 h8 i hi
  rcases ho i hi with ho | ho
  ·rw [ho]; exact this
  ·constructor
   ·intro g; exact absurd g ho.2.1
   ·intro g; exact absurd (this.2 g) ho.1
 ·have := h.none hx i hi
  rcases ho i hi with ho | ho
  ·rw [ho]; exact this
  ·exact ho.2.1
theorem C0w (a : ActV) (y : XS) : (N9 a y).c = y.c := by
 unfold N9
 repeat' split
 all_goals rfl
theorem C01 {a : ActV} {x : WS} {y : XS} (h2 : a.k ≠ 2) (h3 : a.k ≠ 3) (h : y.locks = x.own) : (N9 a y).locks = (Q8 a x y).own := by
 unfold N9 Q8
 by_cases k1 : a.k = 1
 ·rw [if_pos k1, if_pos k1]; exact h
 rw [if_neg k1, if_neg h2, if_neg h3, if_neg k1, if_neg h2, if_neg h3]
 by_cases k4 : a.k = 4
 ·rw [if_pos k4, if_pos k4]; exact h
 rw [if_neg k4, if_neg k4]
 by_cases k5 : a.k = 5
 ·rw [if_pos k5, if_pos k5]; exact h
 rw [if_neg k5, if_neg k5]
 by_cases k6 : a.k = 6
 ·rw [if_pos k6, if_pos k6]
  by_cases c : -1 ≤ a.n ∧ a.n < y.c.sl
  ·rw [if_pos c, if_pos c]; exact h
  ·rw [if_neg c, if_neg c]; exact h
 rw [if_neg k6, if_neg k6]
 by_cases k7 : a.k = 7
 ·rw [if_pos k7, if_pos k7]; exact h
 rw [if_neg k7, if_neg k7]; exact h
theorem PinJ.hap {N E : Nat} {who pd e : Int} {j : JW} {x : WS} {y : XS} (h : PinJ N E who pd e j x y) (hE : E ≤ 1000) (a : ActV) (hcs : x.c.sl ≤ 8) :
  PinJ N (E + 1) who pd (if a.k = 1 then e + 1 else e) j (Q8 a x y) { N9 a y with locks := (Q8 a x y).own } := by
 have hg := h.g.hap hE a y h.yc hcs
 have hyc := h.yc
 have hlk := h.lk
 have hsh := h.g.sh
 have how := h.g.ow
 have hw0 := h.w0
 have hwk := h.g.ok.wk
 have hcl := h.g.ok.cells
 have hep := h.g.ep
 have hec := h.ec
 have hpr : 0 ≤ F8 x.c who → 2 ≤ F8 x.c who ∧ F8 x.c who < x.cells.length := by unfold F8; intro h1; split at h1 <;> split <;> omega
 have hy : ({ N9 a y with locks := (Q8 a x y).own } : XS).c = x.c := by show (N9 a y).c = x.c; rw [C0w, hyc]
 have hu : GI N (E + 1) j x := { h.g with ep := by omega, jep := by have := h.g.jep; omega }
 generalize hX : N9 a y = y' at *
 have same : ∀ i, i < N → x.own.getD i 0 = x.own.getD i 0 ∨ (x.own.getD i 0 ≠ who ∧ x.own.getD i 0 ≠ who ∧ (x.own.getD i 0 < 0 → x.own.getD i 0 = -1)) := fun i _ => Or.inl rfl
 unfold Q8 at hg hy ⊢
 by_cases k1 : a.k = 1
 ·rw [if_pos k1] at hg hy ⊢
  rw [if_pos k1]
  have e0 : D9 (K3 x.cells 0 (IntKind.i64.wrap (D9 x.cells 0 + 1))) 0 = D9 x.cells 0 + 1 := by
   rw [A3G, if_pos (by omega)]; exact T8 (by omega) (by omega)
  exact h.put hg rfl hy rfl (by simp only; rw [e0, hec]) (fun g => q8 _ _ (by have := hpr g; omega)) same
 rw [if_neg k1] at hg hy ⊢
 rw [if_neg k1]
 by_cases k2 : a.k = 2
 ·rw [if_pos k2] at hg hy ⊢
  by_cases c : (0 ≤ a.n ∧ a.n < y.c.sh) ∧ y.locks.getD a.n.toNat 0 < 0
  case neg => rw [if_neg c] at hg hy ⊢; exact h.put hg rfl hy rfl hec (fun _ => rfl) same
  rw [if_pos c] at hg hy ⊢
  obtain ⟨n, hn⟩ : ∃ n : Nat, a.n = n := ⟨a.n.toNat, by omega⟩
  rw [hn, hyc, hsh, hlk, Int.toNat_natCast] at c
  have hnN : n < N := by omega
  have hf := h.free n hnN c.2
  have hlo : j5 x.own a.n 99 = x.own.set n 99 := by
   unfold j5; rw [if_pos (by omega), hn, B0J (by omega), if_pos hf]
  rw [hlo] at hg hy ⊢
  refine h.put hg rfl hy rfl hec (fun _ => rfl) fun i hi => ?_
  simp only
  rw [A0L (by omega)]
  by_cases d : n = i
  ·subst d; rw [if_pos rfl, hf]; right; omega
  ·rw [if_neg d]; exact Or.inl rfl
 rw [if_neg k2] at hg hy ⊢
 by_cases k3 : a.k = 3
 ·rw [if_pos k3] at hg hy ⊢
  by_cases c : (0 ≤ a.n ∧ a.n < y.c.sh) ∧ y.locks.getD a.n.toNat 0 = 99
  case neg => rw [if_neg c] at hg hy ⊢; exact h.put hg rfl hy rfl hec (fun _ => rfl) same
  rw [if_pos c] at hg hy ⊢
  obtain ⟨n, hn⟩ : ∃ n : Nat, a.n = n := ⟨a.n.toNat, by omega⟩
  rw [hn, hyc, hsh, hlk, Int.toNat_natCast] at c
  have hnN : n < N := by omega
  have hlo : Q5 x.own a.n 99 = x.own.set n (-1) := by
   unfold Q5; rw [if_pos (by omega), hn, B0J (by omega), if_pos c.2]
  rw [hlo] at hg hy ⊢
  refine h.put hg rfl hy rfl hec (fun _ => rfl) fun i hi => ?_
  simp only
  rw [A0L (by omega)]
  by_cases d : n = i
  ·subst d; rw [if_pos rfl, c.2]; right; omega
  ·rw [if_neg d]; exact Or.inl rfl
 rw [if_neg k3] at hg hy ⊢
 by_cases k4 : a.k = 4
 ·rw [if_pos k4] at hg hy ⊢; exact h.put hg rfl hy rfl hec (fun _ => rfl) same
 rw [if_neg k4] at hg hy ⊢
 by_cases k5 : a.k = 5
 ·rw [if_pos k5] at hg hy ⊢; exact h.put hg rfl hy rfl hec (fun _ => rfl) same
 rw [if_neg k5] at hg hy ⊢
 by_cases k6 : a.k = 6
 ·rw [if_pos k6] at hg hy ⊢
  by_cases c : -1 ≤ a.n ∧ a.n < y.c.sl
  case neg => rw [if_neg c] at hg hy ⊢; exact h.put hg rfl hy rfl hec (fun _ => rfl) same
  rw [if_pos c] at hg hy ⊢
  exact h.put hg rfl hy rfl (by simp only; rw [q8 _ _ (by omega)]; exact hec) (fun g => q8 _ _ (by have := hpr g; omega)) same
 rw [if_neg k6] at hg hy ⊢
 by_cases k7 : a.k = 7
 ·rw [if_pos k7] at hg hy ⊢; exact h.put hg rfl hy rfl hec (fun _ => rfl) same
 rw [if_neg k7] at hg hy ⊢; exact h.put hg rfl hy rfl hec (fun _ => rfl) same
theorem B36 : TabOk 0 ([] : List EnV) := ⟨rfl, by omega, fun x hx => by simp at hx, by decide +kernel⟩
theorem GI.new {c : CfgV} (hok : M9 c = true) (who : Int) (text : ByteArray) (ht : text.size ≤ 100) : GI c.sh.toNat 0 (F4 who text) (L0 c) := by
 have hw := C1K hok
 simp only [M9, W1, Bool.and_eq_true, decide_eq_true_eq] at hok
 have e0 : D9 (L0 c).cells 0 = 0 := A3H _ _
 have e1 : D9 (L0 c).cells 1 = 0 := A3H _ _
 refine ⟨hw, by omega, by show c.sh = _; omega, by simp [L0], fun t h => ?_, by simp [L0], by simp [L0], Or.inl B36, by rw [e0]; omega, by rw [e1]; omega, by simp [L0], ht, by simp [F4, K6], by simp only [F4]; omega, by simp [F4], by simp [F4], by simp [F4], fun h => by simp [F4] at h⟩
 rw [(List.mem_replicate.1 (show t ∈ List.replicate c.sh.toNat (newE c.cp.toNat) from h)).2]
 exact TabOk.new (n := c.cp.toNat) (by omega)
structure XI (E : Nat) (y : XS) : Prop where
 sh : 1 ≤ y.c.sh ∧ y.c.sh ≤ 16
 csl : y.c.sl ≤ 8
 now : 0 ≤ y.now ∧ y.now ≤ 1000000000
 locks : (y.locks.length : Int) = y.c.sh
 sl : y.sl.length ≤ 8
 ep : 0 ≤ y.ep ∧ y.ep ≤ E
theorem C0g (l : List U7) (i : Int) (p : List F7) (x : Option Addr × Nat × Nat) : (y6 l i p x).length = l.length := by unfold y6; split; exact A4S _ _ _; rfl
theorem XI.hap {E : Nat} {y : XS} (h : XI E y) (a : ActV) : XI (E + 1) (N9 a y) := by
 have hep := h.ep
 have up : XI (E + 1) y := { h with ep := by omega }
 unfold N9
 split
 ·exact { up with ep := by simp only; omega }
 split
 ·split
  ·exact { up with locks := by simp only [List.length_set]; exact h.locks }
  ·exact up
 split
 ·split
  ·exact { up with locks := by simp only [List.length_set]; exact h.locks }
  ·exact up
 split
 ·refine { up with sl := ?_ }
  simp only
  split
  ·rw [C0g, show (S1 y.sl a.n).length = y.sl.length from A4S _ _ _]; exact h.sl
  ·exact h.sl
 split
 ·exact { up with sl := by simp only; rw [show (l7 y.sl a.n).length = y.sl.length from A4S _ _ _]; exact h.sl }
 split
 ·split
  ·exact { up with }
  ·exact up
 split
 ·exact { up with now := B6s h.now }
 ·exact up
theorem XI.lk {E : Nat} {y : XS} (h : XI E y) {l : List Int} (hl : (l.length : Int) = y.c.sh) : XI E { y with locks := l } := { h with locks := hl }
end Go.Proofs.YtjobgnabneddjaaGreat
namespace Go.Proofs.YtjobgnabneddjaaGreat
open Go
abbrev JA := JW × Value × WoG × Q9
def M1 (b : Nat) (m : WoH) (a : JA) : List Res := E3 b a.1 a.2.1 (m.ug a.2.2.1) a.2.2.2
def S4 (m : WoH) (a : JA) : WS := (m.ug a.2.2.1).ws
structure JsC (cp : Nat) (a : JA) : Prop where
 tab : ∀ t ∈ a.2.2.2, TabOk 0 t.2 ∨ TabOk cp t.2
 sub : A3V a.2.2.1.ts a.2.2.2
 tb : (a.2.1, a.1.table) ∈ a.2.2.2
theorem JsC.ok {N E : Nat} {m : WoH} {a : JA} {cp : Nat} (h : JsC cp a) (hE : E ≤ 1000) (hg : GI N E a.1 (S4 m a)) (hcp : (S4 m a).c.cp.toNat = cp) : JwOk a.1 a.2.1 (m.ug a.2.2.1) a.2.2.2 := by
 obtain ⟨j, tv, d, P⟩ := a
 have hts : d.ts.length = N := by have := hg.tl; simpa [S4, WoH.ws, WoH.ug] using this
 have hn := hg.n
 have hpl : d.pl.length = N := hg.pl
 have how : d.own.length = N := hg.ow
 have hsh : m.c.sh = (N : Nat) := hg.sh
 have htx : j.text.size ≤ 100 := hg.text
 have hsl : -1 ≤ j.slot ∧ j.slot ≤ 500 := hg.slot
 have hsd : 0 ≤ j.shard ∧ j.shard < N := hg.shard
 have h0 : 0 ≤ D9 d.cells 0 ∧ D9 d.cells 0 ≤ E := hg.ep
 have h1 : 0 ≤ D9 d.cells 1 ∧ D9 d.cells 1 ≤ 500 := hg.cur
 have key : ∀ t : List EnV, TabOk 0 t ∨ TabOk cp t → P5 t ∧ t.length ≤ 64 := fun t ht => by
  rcases ht with ht | ht
  ·exact ⟨ht.keys, by rw [ht.len]; omega⟩
  ·exact ⟨ht.keys, by rw [ht.len]; exact ht.few⟩
 have hjt := key _ (h.tab _ h.tb)
 simp only at hjt
 refine ⟨hg.ok, ⟨by show d.ts.length ≤ _; omega, by show d.pl.length = d.ts.length; omega, fun t ht => ?_, fun t ht => (key _ (h.tab _ (h.sub _ ht))).1, by show d.own.length ≤ _; omega, h.sub⟩, h.tb, by show (d.ts.length : Int) = m.c.sh; omega, by show j.text.size < _; omega, hg.key, by show 0 ≤ j.shard ∧ j.shard < (d.ts.length : Int); omega, hjt.1, by show j.table.length ≤ _; omega, by show -1 ≤ j.slot ∧ j.slot ≤ _; omega, by show 0 ≤ D9 d.cells 0 ∧ D9 d.cells 0 ≤ _; omega, by show 0 ≤ D9 d.cells 1 ∧ D9 d.cells 1 ≤ _; omega⟩
 have := (key _ (h.tab _ (h.sub _ ht))).2; omega
def WoG.uz (d : WoG) (z : WoZ) : WoG := { d with cn := z.cn, cells := z.cells, own := z.own, tv := z.tv, ts := z.ts }
theorem C07 {N E : Nat} (w' : World) (b : Nat) (m : WoH) (a : JA) (cp : Nat) (hc : JsC cp a) (hE : E ≤ 1000) (hg : GI N E a.1 (S4 m a)) (hcp : (S4 m a).c.cp.toNat = cp) (hs : LW false (B6 (M1 b m a)) w' (M1 b m a) w') :
  Fn PR B8 20 #[.pointer (some ⟨b, 0, none⟩), .pointer (some ⟨m.b, 0, none⟩)] w' (Rn (B6 (M1 b m a)) w' (fun (a' : JA) u => u = M0 (a.1.step (S4 m a)).2.2 ∧ a'.1 = (a.1.step (S4 m a)).1 ∧ S4 m a' = (a.1.step (S4 m a)).2.1 ∧ JsC cp a' ∧ A3V a.2.2.2 a'.2.2.2) (M1 b m)) := by
 have hg' := hg.step
 obtain ⟨j, tv, d, P⟩ := a
 refine (B4D w' b j tv (m.ug d) P (hc.ok hE hg hcp) hg.st hs).mono fun u w'' hr => ?_
 obtain ⟨y, ⟨h1, h2, h3, h4, h5⟩, h6⟩ := hr
 have e2 : S4 m ((j.step (m.ug d).ws).1, y.1, d.uz y.2.1, y.2.2) = (j.step (m.ug d).ws).2.1 := h2
 refine ⟨((j.step (m.ug d).ws).1, y.1, d.uz y.2.1, y.2.2), ⟨h1, rfl, e2, ⟨fun t ht => ?_, h3, h4⟩, h5.1⟩, h6⟩
 rcases h5.2 t ht with h | h
 ·exact hc.tab t h
 ·rw [h]
  have hj := hg'.jt
  have ec : (j.step (m.ug d).ws).2.1.c.cp.toNat = cp := by rw [← e2]; exact hcp
  rw [show S4 m (j, tv, d, P) = (m.ug d).ws from rfl, ec] at hj
  exact hj
theorem D2U {N E : Nat} {S : List Nat} {w0 : World} {H Hk : List Res} {X : Nat → Prop} {K : Value → WP} (b : Nat) (m : WoH) (a : JA) (cp : Nat) (hc : JsC cp a) (hE : E ≤ 1000) (hg : GI N E a.1 (S4 m a)) (hcp : (S4 m a).c.cp.toNat = cp) (hs : Sels (M1 b m a ++ Hk) H)
  (hK : ∀ a' : JA, a'.1 = (a.1.step (S4 m a)).1 → S4 m a' = (a.1.step (S4 m a)).2.1 → JsC cp a' → A3V a.2.2.2 a'.2.2.2 → TW false S w0 (M1 b m a' ++ Hk) (K (M0 (a.1.step (S4 m a)).2.2))) :
  TW false S w0 H (B4 PR X 20 [.pointer (some ⟨b, 0, none⟩), .pointer (some ⟨m.b, 0, none⟩)] K) := by
 refine Sels.tw hs ?_
 refine C7 (Hc := M1 b m a) (Hk := Hk) m5 (fun w' hw' hs => C07 w' b m a cp hc hE hg hcp hs) (B1Y _ _) ?_
 rintro a' v ⟨rfl, k1, k2, k3, k4⟩
 exact hK a' k1 k2 k3 k4
theorem GI.hapOk {N E : Nat} {j : JW} {m : WoH} {x : XH} {a : ActV} (hg : GI N E j m.ws) (hx : XI E x.xs) (hE : E ≤ 1000) (hls : m.ls.length ≤ 8) (ha : a.pool.length ≤ 8) : HapOk m x a := by
 have h1 : m.cells.length = _ := hg.ok.cells
 have h2 := hg.ok.wk
 have h3 : m.own.length = N := hg.ow
 have h4 := hg.n
 exact ⟨by omega, by omega, hls, hg.now, hx.now, hx.locks, hx.sh.2, hx.csl, hx.sl, by have := hx.ep; show 0 ≤ x.xs.ep ∧ x.xs.ep ≤ _; omega, by omega⟩
theorem C8j {N E : Nat} {S : List Nat} {w0 : World} {H Hk : List Res} {X : Nat → Prop} {K : Value → WP} (b : Nat) (m : WoH) (a : JA) (x : XH) (ac : ActV) (cp : Nat) (hc : JsC cp a) (hE : E ≤ 1000) (hg : GI N E a.1 (S4 m a)) (hx : XI E x.xs) (ha : ac.pool.length ≤ 8) (hv : ∀ w', KS false S w0 w' → G1 w' ac.pv ac.pool.length (ac.pool.flatMap H0))
  (hs : Sels (M1 b m a ++ (K9 x ++ Hk)) H)
  (hK : ∀ (a' : JA) (x' : XH), a'.1 = a.1 → S4 m a' = Q8 ac (S4 m a) x.xs → x'.b = x.b → x'.xs = N9 ac x.xs → x'.ts = x.ts → JsC cp a' → TW false S w0 (M1 b m a' ++ (K9 x' ++ Hk)) (K (.tuple #[]))) :
  TW false S w0 H (B4 PR X 44 [.pointer (some ⟨m.b, 0, none⟩), .pointer (some ⟨x.b, 0, none⟩), ac.val] K) := by
 obtain ⟨j, tv, d, P⟩ := a
 have hls : (m.ug d).ls.length ≤ 8 := by have := hg.ok.sl; simpa [S4, WoH.ws] using this
 have hperm : ∀ (d : WoG) (x : XH), (M1 b m (j, tv, d, P) ++ (K9 x ++ Hk)).Perm ((B9 (m.ug d) ++ K9 x) ++ (F9 b j tv :: d6 P :: Hk)) := fun d x => by
  simp only [M1, E3, List.cons_append]
  refine List.Perm.trans ?_ (List.perm_middle (l₁ := B9 (m.ug d) ++ K9 x)).symm
  refine List.Perm.cons _ ?_
  refine List.Perm.trans ?_ (List.perm_middle (l₁ := B9 (m.ug d) ++ K9 x)).symm
  refine List.Perm.cons _ ?_
  rw [List.append_assoc]
 refine Sels.tw hs ?_
 refine TW.perm ?_ (hperm d x)
 refine C7 (Hc := B9 (m.ug d) ++ K9 x) (Hk := F9 b j tv :: d6 P :: Hk) A29 (fun w' hw' hs => C00 w' (m.ug d) x ac (GI.hapOk (j := j) hg hx hE hls ha) (B7x hv hw') hs) (B1Y _ _) ?_
 rintro ⟨d', x'⟩ v ⟨rfl, h1, h2, h3, h4, h5⟩
 refine TW.perm ?_ (hperm d' x').symm
 exact hK (j, tv, d', P) x' rfl h1 h2 h3 h5 ⟨hc.tab, fun t ht => hc.sub t (by rw [← show d'.ts = d.ts from h4]; exact ht), hc.tb⟩
end Go.Proofs.YtjobgnabneddjaaGreat
namespace Go.Proofs.YtjobgnabneddjaaGreat
open Go
end Go.Proofs.YtjobgnabneddjaaGreat
namespace Go.Proofs.YtjobgnabneddjaaGreat
open Go
end Go.Proofs.YtjobgnabneddjaaGreat
namespace Go.Proofs.YtjobgnabneddjaaGreat
open Go
end Go.Proofs.YtjobgnabneddjaaGreat
namespace Go.Proofs.YtjobgnabneddjaaGreat
open Go
end Go.Proofs.YtjobgnabneddjaaGreat
namespace Go.Proofs.YtjobgnabneddjaaGreat
open Go
end Go.Proofs.YtjobgnabneddjaaGreat
namespace Go.Proofs.YtjobgnabneddjaaGreat
open Go
theorem A6F {K : Value → WP} (a b : Bool) : A0 PR (binOp .neq 4 (.bool a) (.bool b)) K = K (.bool (!(a == b))) := E8 (fun w => by
 have h : (Op.equal 4 (.bool a) (.bool b)).run PR w = .ok (a == b) w := A3v (e := 9999) ty4 w
 simp [binOp, h]) K
def B17 (x : WS) (p : Int) : Prop := D9 x.cells 2 = p ∧ ∀ i : Nat, D9 x.cells ((i : Nat) + 3) = 0
theorem B17.after {x : WS} {v : Int} (h : B17 x v) (p : List F7) : B17 (H7 x p) v := by
 refine ⟨?_, fun i => ?_⟩
 ·have := B4G (x := x) (p := p) 0
  simp only [Int.natCast_zero, Int.zero_add] at this
  rw [this]; exact h.1
 ·have := B4G (x := x) (p := p) (i + 1)
  rw [show (((i + 1 : Nat) : Int) + 2) = (i : Nat) + 3 by omega] at this
  rw [this]; exact h.2 i
theorem B17.zero {x : WS} (h : B17 x 0) (i : Nat) : D9 x.cells ((i : Nat) + 2) = 0 := by
 cases i with
 | zero => exact h.1
 | succ i => rw [show (((i + 1 : Nat) : Int) + 2) = (i : Nat) + 3 by omega]; exact h.2 i
end Go.Proofs.YtjobgnabneddjaaGreat
namespace Go.Proofs.YtjobgnabneddjaaGreat
open Go
end Go.Proofs.YtjobgnabneddjaaGreat
namespace Go.Proofs.YtjobgnabneddjaaGreat
open Go
theorem CurI.pin {x : WS} (h : CurI x) (v : Int) : CurI { x with cells := K3 x.cells 2 v } := by
 have e : D9 (K3 x.cells 2 v) 1 = D9 x.cells 1 := q8 _ _ (by omega)
 refine ⟨⟨h.ok.wk, by simp only [A0f]; exact h.ok.cells, h.ok.own, h.ok.sl, h.ok.keep⟩, h.kl, h.two, ?_, fun k hk hc => ?_, fun k hk hc => ?_⟩
 ·show 0 ≤ D9 (K3 x.cells 2 v) 1 ∧ D9 (K3 x.cells 2 v) 1 ≤ x.keep.length; rw [e]; exact h.cur
 ·exact h.at1 k hk (by rw [show G6 { x with cells := K3 x.cells 2 v } = D9 (K3 x.cells 2 v) 1 from rfl, e] at hc; exact hc)
 ·exact h.at2 k hk (by rw [show G6 { x with cells := K3 x.cells 2 v } = D9 (K3 x.cells 2 v) 1 from rfl, e] at hc; exact hc)
theorem CurI.ready {x : WS} (h : CurI x) (hc : 0 < G6 x) : (A6g x.sl (G6 x - 1)).2 = true := by
 have h1 := h.cur
 obtain ⟨k, hk⟩ : ∃ k : Nat, G6 x - 1 = k := ⟨(G6 x - 1).toNat, by omega⟩
 obtain ⟨_, p, hp⟩ := h.at1 k (by omega) (by omega)
 rw [hk]; unfold A6g; rw [hp]
end Go.Proofs.YtjobgnabneddjaaGreat
namespace Go.Proofs.YtjobgnabneddjaaGreat
open Go
theorem GI.up {N E : Nat} {j : JW} {x : WS} (h : GI N E j x) : GI N (E + 1) j x := { h with ep := by have := h.ep; omega, jep := by have := h.jep; omega }
theorem XI.up {E : Nat} {y : XS} (h : XI E y) : XI (E + 1) y := { h with ep := by have := h.ep; omega }
theorem PinJ.up {N E : Nat} {who pd e : Int} {j : JW} {x : WS} {y : XS} (h : PinJ N E who pd e j x y) : PinJ N (E + 1) who pd e j x y := { h with g := h.g.up }
theorem C6q {y : XS} {o : List Int} (h : y.locks = o) : ({ y with locks := o } : XS) = y := by subst h; rfl
theorem PinJ.new {c : CfgV} (hok : M9 c = true) {who : Int} (hw : 0 ≤ who ∧ who ≤ 60) {text : ByteArray} (ht : text.size ≤ 100) {y : XS} (h1 : y.c = c) (h5 : y.locks = List.replicate c.sh.toNat (-1)) : PinJ c.sh.toNat 0 who 0 0 (F4 who text) (L0 c) y := by
 have hf : ∀ i, i < c.sh.toNat → (L0 c).own.getD i 0 = -1 := fun i hi => by
  show (List.replicate c.sh.toNat (-1 : Int)).getD i 0 = -1
  rw [List.getD_eq_getElem?_getD, List.getElem?_replicate_of_lt hi]; rfl
 refine ⟨GI.new hok who text ht, rfl, hw, h5, h1, A3H _ _, fun i hi _ => hf i hi, fun h => by simp [F4] at h, fun _ i hi => by rw [hf i hi]; omega, fun _ => Or.inl rfl, fun _ _ => A3H _ _, fun h => by simp [F4] at h, fun _ => rfl, fun h => by simp [F4] at h⟩
def y8 (j : JW) (i : Nat) : Int := if (4 ≤ j.st ∧ j.st ≤ 8) ∧ j.shard < i then 1 else 0
theorem B85 {N E : Nat} {who pd e : Int} {j : JW} {x : WS} {y : XS} (h : PinJ N E who pd e j x y) {i : Nat} (hi : i < N) : y8 j (i + 1) = if x.own.getD i 0 = who then y8 j i + 1 else y8 j i := by
 unfold y8
 by_cases c : 4 ≤ j.st ∧ j.st ≤ 8
 ·have := h.held c.1 c.2 i hi
  by_cases d : x.own.getD i 0 = who
  ·rw [if_pos d]
   have := this.1 d
   rw [if_pos ⟨c, by omega⟩, if_neg (by omega)]; rfl
  ·rw [if_neg d]
   have h2 : ¬ (i : Int) = j.shard := fun g => d (this.2 g)
   by_cases g : j.shard < i
   ·rw [if_pos ⟨c, by omega⟩, if_pos ⟨c, g⟩]
   ·rw [if_neg (by omega), if_neg (by omega)]
 ·have := h.none c i hi
  rw [if_neg (fun g => c g.1), if_neg this, if_neg (fun g => c g.1)]
theorem C1j {N E : Nat} {j : JW} {x : WS} (h : GI N E j x) : y8 j N = if 4 ≤ j.st ∧ j.st ≤ 8 then 1 else 0 := by
 unfold y8
 have := h.shard
 by_cases c : 4 ≤ j.st ∧ j.st ≤ 8
 ·rw [if_pos ⟨c, this.2⟩, if_pos c]
 ·rw [if_neg (fun g => c g.1), if_neg c]
structure PinC (m : WoH) (cp : Nat) (who : Int) (N : Nat) (s : (JA × XH) × (Int × Int) × Nat) : Prop where
 c : JsC cp s.1.1
 p : PinJ N s.2.2 who s.2.1.2 s.2.1.1 s.1.1.1 (S4 m s.1.1) s.1.2.xs
 x : XI s.2.2 s.1.2.xs
def cnA (a : JA) (n : Int) : JA := (a.1, a.2.1, { a.2.2.1 with cn := n }, a.2.2.2)
theorem JsC.cn {cp : Nat} {a : JA} (h : JsC cp a) (n : Int) : JsC cp (cnA a n) := ⟨h.tab, h.sub, h.tb⟩
theorem A51 {S : List Nat} {w0 : World} {H Hk : List Res} {X : Nat → Prop} {K : Value → WP} (b : Nat) (m : WoH) (a : JA) (i : Int) (hcl : (S4 m a).cells.length ≤ 1024) (hs : Sels (M1 b m a ++ Hk) H)
  (hK : ∀ n : Int, TW false S w0 (M1 b m (cnA a n) ++ Hk) (K (.int .i64 (D9 (S4 m a).cells i)))) :
  TW false S w0 H (B4 PR X 35 [.pointer (some ⟨m.bc, 0, none⟩), .int .i64 i] K) := by
 obtain ⟨j, tv, d, P⟩ := a
 refine Sels.tw hs ?_
 simp only [M1, E3, B9, List.cons_append, List.nil_append]
 rw [show m.bc = (m.ug d).bc from rfl]
 refine C7 (Hc := D0 (m.ug d).bc (m.ug d).cn (m.ug d).cv (m.ug d).ov (m.ug d).cells (m.ug d).own) P8 (fun w' _ hs => A3s w' (m.ug d).bc (m.ug d).cn (m.ug d).cv (m.ug d).ov (m.ug d).cells (m.ug d).own i hcl hs) (by unfold D0; (repeat' constructor)) ?_
 rintro n v rfl
 refine Sels.tw (rs := M1 b m (cnA (j, tv, d, P) n) ++ Hk) (by simp only [M1, E3, cnA, D0, B9, C8, D1, WoH.ug, List.cons_append, List.nil_append]; repeat (first | exact B4c _ | (apply Sels.cons; · (repeat constructor)))) (hK n)
abbrev A1r (bc : Nat) (c : CfgV) : Res := .pt bc (.cells (V6 c) 23)
set_option maxHeartbeats 8000000 in
theorem B21 (w : World) (c : CfgV) (who : Int) (text : ByteArray) (lv : Value) (l : List ActV) (htm : text.size ≤ 9223372036854775807) (hll : l.length ≤ 9223372036854775807) (hv : G1 w lv l.length (l.flatMap A3c)) (hvs : ∀ a ∈ l, G1 w a.pv a.pool.length (a.pool.flatMap H0)) :
  Fn PR B8 10 #[c.val, .int .i64 who, .string text, lv] w (fun v w' => v = .bool true ∧ C9 [] w w') := by
 refine Fn.pure (A0x (TW.go (κ := false) (S := []) ?_))
 unfold Z9
 have hFew := fun (w' : World) (H : List Res) (hw' : LW false [] w H w') => C3p w' lv l hll (hv.ks hw'.ks (by simp))
 obtain ⟨la, lc, rfl, hlr⟩ := hv.form
 simp only [CfgV.val]
 (have zz:=trivial;repeat((first|clear zz|with_reducible first|refine A3 ?_|refine A5 fun _=>?_|refine A4 fun _=>?_);try simp(disch:=first|omega|assumption|((repeat(first|exact A1|exact uH|apply A2|apply uT));first|done|fail)|(simp;first|done|omega|fail))[]))
 rename_i bc
 refine C4 A3g (fun w' _ => B9B w') ?_
 (have zz:=trivial;repeat((first|clear zz|with_reducible first|refine A3 ?_|refine A5 fun _=>?_|refine A4 fun _=>?_);try simp(disch:=first|omega|assumption|((repeat(first|exact A1|exact uH|apply A2|apply uT));first|done|fail)|(simp;first|done|omega|fail))[]))
 refine C4 A31 (fun w' _ => C2p w' c) ?_
 cases hs : A6K c with
 | false => (have zz:=trivial;repeat((first|clear zz|with_reducible first|refine A3 ?_|refine A5 fun _=>?_|refine A4 fun _=>?_);try simp(disch:=first|omega|assumption|((repeat(first|exact A1|exact uH|apply A2|apply uT));first|done|fail)|(simp;first|done|omega|fail))[])); exact B0 rfl
 | true =>
 (have zz:=trivial;repeat((first|clear zz|with_reducible first|refine A3 ?_|refine A5 fun _=>?_|refine A4 fun _=>?_);try simp(disch:=first|omega|assumption|((repeat(first|exact A1|exact uH|apply A2|apply uT));first|done|fail)|(simp;first|done|omega|fail))[]))
 refine C4 A5J (fun w' hw' => hFew w' _ hw') ?_
 clear hFew
 cases hf : A0p l with
 | false => (have zz:=trivial;repeat((first|clear zz|with_reducible first|refine A3 ?_|refine A5 fun _=>?_|refine A4 fun _=>?_);try simp(disch:=first|omega|assumption|((repeat(first|exact A1|exact uH|apply A2|apply uT));first|done|fail)|(simp;first|done|omega|fail))[])); exact B0 rfl
 | true =>
 by_cases htx : text.size ≤ 100
 case neg =>
  have h1 : 100 < (text.size : Int) := by omega
  have h2 : 100 < text.size := by omega
  (have zz:=trivial;repeat((first|clear zz|with_reducible first|refine A3 ?_|refine A5 fun _=>?_|refine A4 fun _=>?_);try simp(disch:=first|omega|assumption|((repeat(first|exact A1|exact uH|apply A2|apply uT));first|done|fail)|(simp;first|done|omega|fail))[h1, h2])); exact B0 rfl
 have h1 : ¬ 100 < (text.size : Int) := by omega
 have h2 : ¬ 100 < text.size := by omega
 by_cases hn1 : who < 0
 ·(have zz:=trivial;repeat((first|clear zz|with_reducible first|refine A3 ?_|refine A5 fun _=>?_|refine A4 fun _=>?_);try simp(disch:=first|omega|assumption|((repeat(first|exact A1|exact uH|apply A2|apply uT));first|done|fail)|(simp;first|done|omega|fail))[h1, h2, hn1])); exact B0 rfl
 by_cases hn2 : 60 < who
 ·(have zz:=trivial;repeat((first|clear zz|with_reducible first|refine A3 ?_|refine A5 fun _=>?_|refine A4 fun _=>?_);try simp(disch:=first|omega|assumption|((repeat(first|exact A1|exact uH|apply A2|apply uT));first|done|fail)|(simp;first|done|omega|fail))[h1, h2, hn1, hn2])); exact B0 rfl
 (have zz:=trivial;repeat((first|clear zz|with_reducible first|refine A3 ?_|refine A5 fun _=>?_|refine A4 fun _=>?_);try simp(disch:=first|omega|assumption|((repeat(first|exact A1|exact uH|apply A2|apply uT));first|done|fail)|(simp;first|done|omega|fail))[h1, h2, hn1, hn2]))
 refine H3 A7j (fun w' hw' => B8W w' c) ?_
 cases hok : M9 c with
 | false =>
  simp only [Bool.false_eq_true, if_false]
  rintro m v rfl
  (have zz:=trivial;repeat((first|clear zz|with_reducible first|refine A3 ?_|refine A5 fun _=>?_|refine A4 fun _=>?_);try simp(disch:=first|omega|assumption|((repeat(first|exact A1|exact uH|apply A2|apply uT));first|done|fail)|(simp;first|done|omega|fail))[]))
  exact B0 rfl
 | true =>
 simp only [if_true]
 rintro m v ⟨rfl, hmc, hws⟩
 (have zz:=trivial;repeat((first|clear zz|with_reducible first|refine A3 ?_|refine A5 fun _=>?_|refine A4 fun _=>?_);try simp(disch:=first|omega|assumption|((repeat(first|exact A1|exact uH|apply A2|apply uT));first|done|fail)|(simp;first|done|omega|fail))[]))
 refine H3 A1y (fun w' hw' => B1g w' who text) ?_
 rintro b v rfl
 simp only [B9, C8, List.cons_append, List.nil_append]
 (have zz:=trivial;repeat((first|clear zz|with_reducible first|refine A3 ?_|refine A5 fun _=>?_|refine A4 fun _=>?_);try simp(disch:=first|omega|assumption|((repeat(first|exact A1|exact uH|apply A2|apply uT));first|done|fail)|(simp;first|done|omega|fail))[]))
 refine C4 A3b (fun w' hw' => B86 w' m (hw'.pt (b := m.b) (by unfold D1; (repeat constructor)))) ?_
 (have zz:=trivial;repeat((first|clear zz|with_reducible first|refine A3 ?_|refine A5 fun _=>?_|refine A4 fun _=>?_);try simp(disch:=first|omega|assumption|((repeat(first|exact A1|exact uH|apply A2|apply uT));first|done|fail)|(simp;first|done|omega|fail))[]))
 refine H3 A45 (fun w' hw' => C3c w' c hok) ?_
 rintro x v ⟨rfl, hx1, hx2, hx3, hx4, hx5, hx6, hx7, hx8, hx9, hx10⟩
 have hok2 := hok
 simp only [M9, W1, Bool.and_eq_true, decide_eq_true_eq] at hok2
 obtain ⟨N, hN⟩ : ∃ N : Nat, c.sh = N := ⟨c.sh.toNat, by omega⟩
 have hNt : c.sh.toNat = N := by omega
 have hp0 : PinJ c.sh.toNat 0 who 0 0 (F4 who text) (L0 c) x.xs := PinJ.new hok ⟨by omega, by omega⟩ htx hx1 hx5
 rw [hNt, ← hws] at hp0
 have hxi0 : XI 0 x.xs := ⟨by show 1 ≤ x.c.sh ∧ x.c.sh ≤ 16; rw [hx1]; omega, by show x.c.sl ≤ 8; rw [hx1]; omega, by show 0 ≤ x.now ∧ x.now ≤ _; rw [hx10]; omega, by show (x.locks.length : Int) = x.c.sh; rw [hx5, hx1, List.length_replicate]; omega, by show x.sl.length ≤ 8; rw [hx6, List.length_replicate]; omega, by show 0 ≤ x.ep ∧ x.ep ≤ 0; rw [hx2]; omega⟩
 have hcc : m.c = c := congrArg WS.c hws
 have htabs : ∀ t ∈ m.ts, TabOk c.cp.toNat t.2 := fun t ht => by
  have e1 : m.ts.map (·.2) = List.replicate c.sh.toNat (newE c.cp.toNat) := congrArg WS.tabs hws
  have : t.2 ∈ m.ts.map (·.2) := List.mem_map.2 ⟨t, ht, rfl⟩
  rw [e1] at this
  rw [(List.mem_replicate.1 this).2]; exact TabOk.new (by omega)
 clear hmc hws hx1 hx2 hx3 hx4 hx5 hx6 hx7 hx8 hx9 hx10
 simp only [List.cons_append, List.nil_append]
 refine n4 218 4 ?_
 refine Z8 (r := .slice none 0 0) (l := []) (ts := m.ts) (by (repeat' constructor)) ?_
 obtain ⟨P, hP⟩ : ∃ P, P = m.ts ++ [(H9, [])] := ⟨_, rfl⟩
 rw [show ((.slice none 0 0 : Value), ([] : List EnV)) = (H9, []) from rfl, ← hP]
 have hc0 : JsC c.cp.toNat (F4 who text, H9, m.dg, P) := by
  rw [hP]
  refine ⟨fun t ht => ?_, fun t ht => List.mem_append_left _ ht, List.mem_append_right _ (List.mem_singleton.2 rfl)⟩
  rcases List.mem_append.1 ht with ht | ht
  ·exact Or.inr (htabs t ht)
  ·rw [List.mem_singleton.1 ht]; exact Or.inl B36
 clear hP htabs
 refine Sels.tw (rs := A1r bc c :: (M1 b m (F4 who text, H9, m.dg, P) ++ K9 x)) (by simp only [M1, E3, show m.ug m.dg = m from rfl, B9, C8, V6, K9, List.cons_append, List.nil_append]; (repeat' constructor)) ?_
 (have zz:=trivial;repeat((first|clear zz|with_reducible first|refine A3 ?_|refine A5 fun _=>?_|refine A4 fun _=>?_);try simp(disch:=first|omega|assumption|((repeat(first|exact A1|exact uH|apply A2|apply uT));first|done|fail)|(simp;first|done|omega|fail))[]))
 refine C9n (fun s : (JA × XH) × (Int × Int) × Nat => A1r bc c :: (M1 b m s.1.1 ++ K9 s.1.2)) (fun s => s.2.2 ≤ l.length ∧ PinC m c.cp.toNat who N s ∧ s.1.2.b = x.b) (fun s => l.length - s.2.2) (((F4 who text, H9, m.dg, P), x), (0, 0), 0) (fun s => .int .i64 s.2.1.1) (fun s => .int .i64 s.2.1.2) (fun _ => .bool false) (fun s => .int .i64 (s.2.2 : Nat)) ⟨Nat.zero_le _, ⟨hc0, hp0, hxi0⟩, rfl⟩ ?_
 have hxb0 : ∃ xb, xb = x.b := ⟨_, rfl⟩
 obtain ⟨xb, hxb⟩ := hxb0
 rw [← hxb]
 clear hc0 hp0 hxi0 hxb
 rintro ⟨⟨a, x⟩, ⟨e, pd⟩, i⟩ ⟨hi, hC, rfl⟩ L hL
 simp only at hi hC hL ⊢
 obtain ⟨hjc, hp, hxi⟩ := hC
 simp only at hjc hp hxi
 have hl40 := C0Z hf
 have hcpx : (S4 m a).c.cp.toNat = c.cp.toNat := by show m.c.cp.toNat = _; rw [hcc]
 have hcs : c.sh = (N : Nat) := hN
 by_cases hlt : i < l.length
 case neg =>
  obtain rfl : i = l.length := by omega
  clear hL
  (have zz:=trivial;repeat((first|clear zz|with_reducible first|refine A3 ?_|refine A5 fun _=>?_|refine A4 fun _=>?_);try simp(disch:=first|omega|assumption|((repeat(first|exact A1|exact uH|apply A2|apply uT));first|done|fail)|(simp;first|done|omega|fail))[Int.lt_irrefl]))
  exact B0 rfl
 have hlt' : ((i : Nat) : Int) < (l.length : Nat) := by omega
 obtain ⟨lb, lo, rfl, hrow⟩ := hlr (by omega)
 obtain ⟨ac, hx⟩ : ∃ ac, l[i]? = some ac := ⟨_, List.getElem?_eq_getElem hlt⟩
 have hxm := List.mem_of_getElem? hx
 have g0 := hrow.cellAt (f := A3c) (k := 3) (j := 0) (fun _ => rfl) hx rfl
 have g3 := hrow.partAt (f := A3c) (k := 3) (fun _ => rfl) hx 0 3 (by omega)
 rw [show ((A3c ac).drop 0).take 3 = A3c ac from rfl, Nat.add_zero] at g3
 rw [Nat.add_zero] at g0
 have hap := C2G hf hxm
 have hacv := hvs _ hxm
 by_cases k0 : ac.k = 0
 ·rw [k0] at g0
  (have zz:=trivial;repeat((first|clear zz|with_reducible first|refine A3 ?_|refine A5 fun _=>?_|refine A4 fun _=>?_);try simp(disch:=first|omega|assumption|((repeat(first|exact A1|exact uH|apply A2|apply uT));first|done|fail)|(simp;first|done|omega|fail))[hlt, hlt', g0]))
  have hE : i ≤ 1000 := by omega
  have hps := hp.step hE
  refine D2U (Hk := K9 x ++ [A1r bc c]) b m a c.cp.toNat hjc hE hp.g hcpx (by (repeat' constructor)) ?_
  intro a' k1 k2 k3 _
  rw [← k1, ← k2] at hps
  obtain ⟨j', tv', d', P'⟩ := a'
  simp only at k1 k3 hps
  clear k1 k2 hjc hp
  have hol : d'.own.length = N := hps.g.ow
  have htl : d'.ts.length = N := by have := hps.g.tl; simpa [S4, WoH.ws, WoH.ug] using this
  have hst := hps.g.st
  have hn16 := hps.g.n
  (have zz:=trivial;repeat((first|clear zz|with_reducible first|refine A3 ?_|refine A5 fun _=>?_|refine A4 fun _=>?_);try simp(disch:=first|omega|assumption|((repeat(first|exact A1|exact uH|apply A2|apply uT));first|done|fail)|(simp;first|done|omega|fail))[]))
  refine P6 (e := 84) (k := 1) (v := d'.tv) (q := d'.ts.length) (xs := d'.ts.map (·.1)) (by unfold M1 E3 B9; (repeat constructor)) fun ta tc htv => ?_
  refine H3 c7 (fun w' hw' => A8y w' (m.ug d') (by show d'.ts.length ≤ _; omega) (by show d'.own.length = d'.ts.length; omega) (WoAt.own hw' fun r hr => by unfold M1 E3; simp only [List.mem_append, List.mem_cons]; exact Or.inl (Or.inr (Or.inr hr))) ⟨ta, tc, htv⟩) ?_
  clear htv
  rintro _ r rfl
  refine P6 (e := 3) (k := 1) (v := r) (q := (m.ug d').own.length) (xs := E7 (m.ug d').own) (by simp) fun ra rc hu => ?_
  subst hu
  simp only [M1, E3, B9, C8, D1, K9, U5, Y5, V6, List.cons_append, List.nil_append]
  have hlen : (((m.ug d').own.length : Nat) : Int) = c.sh := by rw [hcs]; exact congrArg _ hol
  (have zz:=trivial;repeat((first|clear zz|with_reducible first|refine A3 ?_|refine A5 fun _=>?_|refine A4 fun _=>?_);try simp(disch:=first|omega|assumption|((repeat(first|exact A1|exact uH|apply A2|apply uT));first|done|fail)|(simp;first|done|omega|fail))[hlen]))
  have hS1 := fun (w' : World) (g : bl w' b = some (.cells (G7 j' tv') 130 (0, 0))) => A7B w' b j' tv' g
  obtain ⟨s, hs⟩ : ∃ s, s = j'.st := ⟨_, rfl⟩
  rw [← hs] at hS1 hst
  refine C4 k8 (fun w' hw' => hS1 w' (hw'.pt (b := b) (by unfold F9; simp))) ?_
  have q1 : ¬ s < 0 := by omega
  have q2 : ¬ 10 < s := by omega
  (have zz:=trivial;repeat((first|clear zz|with_reducible first|refine A3 ?_|refine A5 fun _=>?_|refine A4 fun _=>?_);try simp(disch:=first|omega|assumption|((repeat(first|exact A1|exact uH|apply A2|apply uT));first|done|fail)|(simp;first|done|omega|fail))[hlen, q1, q2, V6]))
  obtain ⟨x2, hx2⟩ : ∃ x2 : XH, x2 = { x with lov := .slice ra (m.ug d').own.length rc, locks := (m.ug d').own } := ⟨_, rfl⟩
  have hb2 : x2.b = x.b := by rw [hx2]
  have hps2 : PinJ N i who (pdN pd e j') e j' (S4 m (j', tv', d', P')) x2.xs := by rw [hx2]; exact hps
  have hxi2 : XI i x2.xs := by rw [hx2]; exact hxi.lk (l := (m.ug d').own) (by rw [hlen]; exact (congrArg (fun z : CfgV => z.sh) (hps.yc.trans hcc)).symm)
  refine Sels.tw (rs := A1r bc c :: (M1 b m (j', tv', d', P') ++ K9 x2)) (by rw [hx2]; simp only [M1, E3, B9, C8, D1, K9, U5, Y5, V6, List.cons_append, List.nil_append]; (repeat' constructor)) ?_
  rw [← hb2] at hL
  clear hps hxi hx2 hb2 htl hS1
  refine q9 (α := Unit) N (fun k _ => .int .i64 (y8 j' k)) (fun _ _ => A1r bc c :: (M1 b m (j', tv', d', P') ++ K9 x2)) (fun _ _ => True) () trivial ?_ (hv := by show Value.int .i64 0 = .int .i64 (y8 j' 0); unfold y8; rw [if_neg (by have := hps2.g.shard; omega)])
  rintro k _ hk _ L2 hL2
  by_cases hkN : k < N
  ·have hkN' : ((k : Nat) : Int) < c.sh := by omega
   simp only [M1, E3, B9, C8, D1, List.cons_append, List.nil_append]
   rw [show m.b = (m.ug d').b from rfl]
   (have zz:=trivial;repeat((first|clear zz|with_reducible first|refine A3 ?_|refine A5 fun _=>?_|refine A4 fun _=>?_);try simp(disch:=first|omega|assumption|((repeat(first|exact A1|exact uH|apply A2|apply uT));first|done|fail)|(simp;first|done|omega|fail))[hkN, hkN', V6]))
   have hown := fun (w' : World) (H : List Res) (hw' : LW false [] w H w') (hm : ∀ r ∈ B9 (m.ug d'), r ∈ H) => by
    have h := A9u w' (m.ug d').bc (m.ug d').cn (m.ug d').cv (m.ug d').ov (m.ug d').own (k : Nat) (WoAt.own hw' hm).c (WoAt.own hw' hm).v
    rw [C19 (show k < (m.ug d').own.length by show k < d'.own.length; omega)] at h
    exact h
   have hstep := B85 hps2 hkN
   obtain ⟨z, hz⟩ : ∃ z, z = (m.ug d').own.getD k 0 := ⟨_, rfl⟩
   rw [show (S4 m (j', tv', d', P')).own.getD k 0 = (m.ug d').own.getD k 0 from rfl, ← hz] at hstep
   rw [← hz] at hown
   refine C4 g6 (fun w' hw' => hown w' _ hw' (fun r hr => by unfold B9 C8 D1 at hr; simp only [List.mem_append, List.mem_cons, List.cons_append, List.nil_append] at hr ⊢; exact Or.inr (Or.inr (Or.inr (by simpa [or_assoc] using Or.inl hr))))) ?_
   have h2 := hL2 hkN () trivial
   by_cases hzw : z = who
   ·rw [if_pos hzw] at hstep
    rw [hstep] at h2
    have hhb : 0 ≤ y8 j' k ∧ y8 j' k ≤ 1 := by unfold y8; split <;> omega
    (have zz:=trivial;repeat((first|clear zz|with_reducible first|refine A3 ?_|refine A5 fun _=>?_|refine A4 fun _=>?_);try simp(disch:=first|omega|assumption|((repeat(first|exact A1|exact uH|apply A2|apply uT));first|done|fail)|(simp;first|done|omega|fail))[hzw]))
    exact Sels.tw (by simp only [M1, E3, B9, C8, D1, List.cons_append, List.nil_append]; (repeat' constructor)) h2
   ·rw [if_neg hzw] at hstep
    rw [hstep] at h2
    (have zz:=trivial;repeat((first|clear zz|with_reducible first|refine A3 ?_|refine A5 fun _=>?_|refine A4 fun _=>?_);try simp(disch:=first|omega|assumption|((repeat(first|exact A1|exact uH|apply A2|apply uT));first|done|fail)|(simp;first|done|omega|fail))[hzw]))
    exact Sels.tw (by simp only [M1, E3, B9, C8, D1, List.cons_append, List.nil_append]; (repeat' constructor)) h2
  have hge : ¬ ((k : Nat) : Int) < c.sh := by omega
  obtain rfl : k = N := by omega
  clear hL2
  have hfin : ∀ (n : Int) (pd' : Int), pd' = pdN pd e j' → TW false [] w (A1r bc c :: (M1 b m (cnA (j', tv', d', P') n) ++ K9 x2)) (L (.int .i64 e) (.int .i64 pd') (.bool false) (.int .i64 ((i : Int) + 1))) := fun n pd' h => by
   have h2 := hL ((cnA (j', tv', d', P') n, x2), (e, pd'), i + 1) ⟨by simp only; omega, ⟨k3.cn n, by rw [h]; exact hps2.up, hxi2.up⟩, rfl⟩ (by simp only; omega)
   rw [show (((i + 1 : Nat)) : Int) = (i : Int) + 1 from by omega] at h2
   exact h2
  have hcl : (S4 m (j', tv', d', P')).cells.length ≤ 1024 := by have h1 := hps2.g.ok.cells; have h2 := hps2.g.ok.wk; omega
  have hwk : (m.ug d').c.wk ≤ 64 := hps2.g.ok.wk.2
  rw [C1j hps2.g, ← hs]
  have hpn : ∀ z : Int, s ≠ 3 ∨ pd ≠ 0 → pdN pd e j' = pd := fun _ g => V2 (by rw [← hs]; exact g)
  have hp2 := hps2.p2
  have hpd3 := hps2.pd3
  have hp0 := hps2.p0
  rw [← hs] at hp2 hpd3 hp0
  have hPin := fun (w' : World) (H : List Res) (hw' : LW false [] w H w') (hm : ∀ r ∈ B9 (m.ug d'), r ∈ H) => A3D w' (m.ug d').b (m.ug d').c _ _ _ _ _ _ who hwk (WoAt.own hw' hm).b
  by_cases ca : s ≤ 2
  ·have b1 : ¬ 3 ≤ s := by omega
   have b2 : ¬ 4 ≤ s := by omega
   have b3 : ¬ s = 3 := by omega
   have b4 : ¬ s = 10 := by omega
   rw [if_neg (by omega)]
   (have zz:=trivial;repeat((first|clear zz|with_reducible first|refine A3 ?_|refine A5 fun _=>?_|refine A4 fun _=>?_);try simp(disch:=first|omega|assumption|((repeat(first|exact A1|exact uH|apply A2|apply uT));first|done|fail)|(simp;first|done|omega|fail))[hge, V6, b1, b2, b3, b4, A6F]))
   exact hfin d'.cn pd (hpn 0 (Or.inl b3)).symm
  by_cases ce : s = 10
  ·subst ce
   rw [if_neg (by omega)]
   simp only [M1, E3, B9, C8, D1, List.cons_append, List.nil_append]
   rw [show m.b = (m.ug d').b from rfl]
   (have zz:=trivial;repeat((first|clear zz|with_reducible first|refine A3 ?_|refine A5 fun _=>?_|refine A4 fun _=>?_);try simp(disch:=first|omega|assumption|((repeat(first|exact A1|exact uH|apply A2|apply uT));first|done|fail)|(simp;first|done|omega|fail))[hge, V6, A6F]))
   refine C4 G0 (fun w' hw' => hPin w' _ hw' (fun r hr => by unfold B9 C8 D1 at hr; simp only [List.mem_append, List.mem_cons, List.cons_append, List.nil_append] at hr ⊢; exact Or.inr (Or.inr (Or.inr (by simpa [or_assoc] using Or.inl hr))))) ?_
   by_cases c1 : 0 ≤ F8 (m.ug d').c who
   case neg =>
    (have zz:=trivial;repeat((first|clear zz|with_reducible first|refine A3 ?_|refine A5 fun _=>?_|refine A4 fun _=>?_);try simp(disch:=first|omega|assumption|((repeat(first|exact A1|exact uH|apply A2|apply uT));first|done|fail)|(simp;first|done|omega|fail))[c1]))
    exact Sels.tw (by simp only [M1, E3, B9, C8, D1, List.cons_append, List.nil_append]; (repeat' constructor)) (hfin d'.cn pd (hpn 0 (Or.inl (by omega))).symm)
   (have zz:=trivial;repeat((first|clear zz|with_reducible first|refine A3 ?_|refine A5 fun _=>?_|refine A4 fun _=>?_);try simp(disch:=first|omega|assumption|((repeat(first|exact A1|exact uH|apply A2|apply uT));first|done|fail)|(simp;first|done|omega|fail))[c1]))
   refine C4 G0 (fun w' hw' => hPin w' _ hw' (fun r hr => by unfold B9 C8 D1 at hr; simp only [List.mem_append, List.mem_cons, List.cons_append, List.nil_append] at hr ⊢; exact Or.inr (Or.inr (Or.inr (by simpa [or_assoc] using Or.inl hr))))) ?_
   (have zz:=trivial;repeat((first|clear zz|with_reducible first|refine A3 ?_|refine A5 fun _=>?_|refine A4 fun _=>?_);try simp(disch:=first|omega|assumption|((repeat(first|exact A1|exact uH|apply A2|apply uT));first|done|fail)|(simp;first|done|omega|fail))[]))
   refine A51 b m (j', tv', d', P') (F8 (m.ug d').c who) hcl (Hk := K9 x2 ++ [A1r bc c]) (by simp only [M1, E3, B9, C8, D1, List.cons_append, List.nil_append]; (repeat' constructor)) fun n => ?_
   rw [show D9 (S4 m (j', tv', d', P')).cells (F8 (m.ug d').c who) = 0 from hp0 c1 (Or.inr rfl)]
   (have zz:=trivial;repeat((first|clear zz|with_reducible first|refine A3 ?_|refine A5 fun _=>?_|refine A4 fun _=>?_);try simp(disch:=first|omega|assumption|((repeat(first|exact A1|exact uH|apply A2|apply uT));first|done|fail)|(simp;first|done|omega|fail))[]))
   exact Sels.tw (by (repeat' constructor)) (hfin n pd (hpn 0 (Or.inl (by omega))).symm)
  have b1 : 3 ≤ s := by omega
  have b9 : s ≤ 9 := by omega
  have b4 : ¬ s = 10 := by omega
  have hval : D9 (S4 m (j', tv', d', P')).cells (F8 (m.ug d').c who) = pdN pd e j' := (hp2 (by omega) b9).trans (hpd3 b1 b9).symm
  clear hp0 hp2 hpd3
  by_cases cb : s = 3 ∧ pd = 0
  ·obtain ⟨rfl, rfl⟩ := cb
   rw [if_neg (by omega)]
   have he := hps2.g.ep
   rw [hps2.ec] at he
   have hwr : IntKind.i64.wrap (e + 1) = e + 1 := T8 (by omega) (by omega)
   have hpe : pdN 0 e j' = e + 1 := by unfold pdN; rw [if_pos ⟨hs.symm, rfl⟩]
   simp only [M1, E3, B9, C8, D1, List.cons_append, List.nil_append]
   rw [show m.b = (m.ug d').b from rfl]
   (have zz:=trivial;repeat((first|clear zz|with_reducible first|refine A3 ?_|refine A5 fun _=>?_|refine A4 fun _=>?_);try simp(disch:=first|omega|assumption|((repeat(first|exact A1|exact uH|apply A2|apply uT));first|done|fail)|(simp;first|done|omega|fail))[hge, V6, A6F, hwr]))
   refine C4 G0 (fun w' hw' => hPin w' _ hw' (fun r hr => by unfold B9 C8 D1 at hr; simp only [List.mem_append, List.mem_cons, List.cons_append, List.nil_append] at hr ⊢; exact Or.inr (Or.inr (Or.inr (by simpa [or_assoc] using Or.inl hr))))) ?_
   (have zz:=trivial;repeat((first|clear zz|with_reducible first|refine A3 ?_|refine A5 fun _=>?_|refine A4 fun _=>?_);try simp(disch:=first|omega|assumption|((repeat(first|exact A1|exact uH|apply A2|apply uT));first|done|fail)|(simp;first|done|omega|fail))[]))
   refine A51 b m (j', tv', d', P') (F8 (m.ug d').c who) hcl (Hk := K9 x2 ++ [A1r bc c]) (by simp only [M1, E3, B9, C8, D1, List.cons_append, List.nil_append]; (repeat' constructor)) fun n => ?_
   rw [hval, hpe]
   (have zz:=trivial;repeat((first|clear zz|with_reducible first|refine A3 ?_|refine A5 fun _=>?_|refine A4 fun _=>?_);try simp(disch:=first|omega|assumption|((repeat(first|exact A1|exact uH|apply A2|apply uT));first|done|fail)|(simp;first|done|omega|fail))[]))
   exact Sels.tw (by (repeat' constructor)) (hfin n (e + 1) hpe.symm)
  have hp1 := hpn 0 (show s ≠ 3 ∨ pd ≠ 0 by omega)
  rw [hp1] at hval
  have h3 : (s = 3 ∧ ¬ pd = 0) ∨ (4 ≤ s ∧ s ≤ 8) ∨ s = 9 := by omega
  rcases h3 with ⟨rfl, d1⟩ | ⟨d1, d2⟩ | rfl
  ·rw [if_neg (by omega)]
   simp only [M1, E3, B9, C8, D1, List.cons_append, List.nil_append]
   rw [show m.b = (m.ug d').b from rfl]
   (have zz:=trivial;repeat((first|clear zz|with_reducible first|refine A3 ?_|refine A5 fun _=>?_|refine A4 fun _=>?_);try simp(disch:=first|omega|assumption|((repeat(first|exact A1|exact uH|apply A2|apply uT));first|done|fail)|(simp;first|done|omega|fail))[hge, V6, A6F, d1]))
   refine C4 G0 (fun w' hw' => hPin w' _ hw' (fun r hr => by unfold B9 C8 D1 at hr; simp only [List.mem_append, List.mem_cons, List.cons_append, List.nil_append] at hr ⊢; exact Or.inr (Or.inr (Or.inr (by simpa [or_assoc] using Or.inl hr))))) ?_
   (have zz:=trivial;repeat((first|clear zz|with_reducible first|refine A3 ?_|refine A5 fun _=>?_|refine A4 fun _=>?_);try simp(disch:=first|omega|assumption|((repeat(first|exact A1|exact uH|apply A2|apply uT));first|done|fail)|(simp;first|done|omega|fail))[]))
   refine A51 b m (j', tv', d', P') (F8 (m.ug d').c who) hcl (Hk := K9 x2 ++ [A1r bc c]) (by simp only [M1, E3, B9, C8, D1, List.cons_append, List.nil_append]; (repeat' constructor)) fun n => ?_
   rw [hval]
   (have zz:=trivial;repeat((first|clear zz|with_reducible first|refine A3 ?_|refine A5 fun _=>?_|refine A4 fun _=>?_);try simp(disch:=first|omega|assumption|((repeat(first|exact A1|exact uH|apply A2|apply uT));first|done|fail)|(simp;first|done|omega|fail))[]))
   exact Sels.tw (by (repeat' constructor)) (hfin n pd hp1.symm)
  ·have d3 : ¬ s = 3 := by omega
   rw [if_pos ⟨d1, d2⟩]
   simp only [M1, E3, B9, C8, D1, List.cons_append, List.nil_append]
   rw [show m.b = (m.ug d').b from rfl]
   (have zz:=trivial;repeat((first|clear zz|with_reducible first|refine A3 ?_|refine A5 fun _=>?_|refine A4 fun _=>?_);try simp(disch:=first|omega|assumption|((repeat(first|exact A1|exact uH|apply A2|apply uT));first|done|fail)|(simp;first|done|omega|fail))[hge, V6, A6F, d1, d2, d3, b1, b9, b4]))
   refine C4 G0 (fun w' hw' => hPin w' _ hw' (fun r hr => by unfold B9 C8 D1 at hr; simp only [List.mem_append, List.mem_cons, List.cons_append, List.nil_append] at hr ⊢; exact Or.inr (Or.inr (Or.inr (by simpa [or_assoc] using Or.inl hr))))) ?_
   (have zz:=trivial;repeat((first|clear zz|with_reducible first|refine A3 ?_|refine A5 fun _=>?_|refine A4 fun _=>?_);try simp(disch:=first|omega|assumption|((repeat(first|exact A1|exact uH|apply A2|apply uT));first|done|fail)|(simp;first|done|omega|fail))[]))
   refine A51 b m (j', tv', d', P') (F8 (m.ug d').c who) hcl (Hk := K9 x2 ++ [A1r bc c]) (by simp only [M1, E3, B9, C8, D1, List.cons_append, List.nil_append]; (repeat' constructor)) fun n => ?_
   rw [hval]
   (have zz:=trivial;repeat((first|clear zz|with_reducible first|refine A3 ?_|refine A5 fun _=>?_|refine A4 fun _=>?_);try simp(disch:=first|omega|assumption|((repeat(first|exact A1|exact uH|apply A2|apply uT));first|done|fail)|(simp;first|done|omega|fail))[b4]))
   exact Sels.tw (by (repeat' constructor)) (hfin n pd hp1.symm)
  ·rw [if_neg (by omega)]
   simp only [M1, E3, B9, C8, D1, List.cons_append, List.nil_append]
   rw [show m.b = (m.ug d').b from rfl]
   (have zz:=trivial;repeat((first|clear zz|with_reducible first|refine A3 ?_|refine A5 fun _=>?_|refine A4 fun _=>?_);try simp(disch:=first|omega|assumption|((repeat(first|exact A1|exact uH|apply A2|apply uT));first|done|fail)|(simp;first|done|omega|fail))[hge, V6, A6F]))
   refine C4 G0 (fun w' hw' => hPin w' _ hw' (fun r hr => by unfold B9 C8 D1 at hr; simp only [List.mem_append, List.mem_cons, List.cons_append, List.nil_append] at hr ⊢; exact Or.inr (Or.inr (Or.inr (by simpa [or_assoc] using Or.inl hr))))) ?_
   (have zz:=trivial;repeat((first|clear zz|with_reducible first|refine A3 ?_|refine A5 fun _=>?_|refine A4 fun _=>?_);try simp(disch:=first|omega|assumption|((repeat(first|exact A1|exact uH|apply A2|apply uT));first|done|fail)|(simp;first|done|omega|fail))[]))
   refine A51 b m (j', tv', d', P') (F8 (m.ug d').c who) hcl (Hk := K9 x2 ++ [A1r bc c]) (by simp only [M1, E3, B9, C8, D1, List.cons_append, List.nil_append]; (repeat' constructor)) fun n => ?_
   rw [hval]
   (have zz:=trivial;repeat((first|clear zz|with_reducible first|refine A3 ?_|refine A5 fun _=>?_|refine A4 fun _=>?_);try simp(disch:=first|omega|assumption|((repeat(first|exact A1|exact uH|apply A2|apply uT));first|done|fail)|(simp;first|done|omega|fail))[]))
   exact Sels.tw (by (repeat' constructor)) (hfin n pd hp1.symm)
 ·have hE : i ≤ 1000 := by omega
  have hcsl : (S4 m a).c.sl ≤ 8 := by show m.c.sl ≤ 8; rw [hcc]; omega
  have hph := hp.hap hE ac hcsl
  have hxh := hxi.hap ac
  have hlk := hp.lk
  have hyc := hp.yc
  (have zz:=trivial;repeat((first|clear zz|with_reducible first|refine A3 ?_|refine A5 fun _=>?_|refine A4 fun _=>?_);try simp(disch:=first|omega|assumption|((repeat(first|exact A1|exact uH|apply A2|apply uT));first|done|fail)|(simp;first|done|omega|fail))[hlt, hlt', g0, k0, g3, A3c, ActV.pv]))
  refine C8j (Hk := [A1r bc c]) b m a x ac c.cp.toNat hjc hE hp.g hxi hap (fun w' hk => hacv.ks hk (by simp)) (by (repeat' constructor)) ?_
  intro a' x' e1 e2 e3 e4 _ e6
  have he := hp.g.ep
  rw [hp.ec] at he
  have hwr : IntKind.i64.wrap (e + 1) = e + 1 := T8 (by omega) (by omega)
  rw [← e1, ← e2, ← e4] at hph
  rw [← e4] at hxh
  have hlq : ac.k ≠ 2 → ac.k ≠ 3 → x'.xs.locks = (S4 m a').own := fun h2 h3 => by rw [e4, e2]; exact C01 h2 h3 hlk
  have hyc2 : x'.xs.c = c := by rw [e4, C0w, hyc]; exact hcc
  clear e1 e2 e4 hjc hp hxi hlk hyc
  have hend : ∀ (x2 : XH), x2.b = x'.b → x2.xs = { x'.xs with locks := (S4 m a').own } → TW false [] w (A1r bc c :: (M1 b m a' ++ K9 x2)) (L (.int .i64 (if ac.k = 1 then e + 1 else e)) (.int .i64 pd) (.bool false) (.int .i64 ((i : Int) + 1))) := fun x2 hb hx2 => by
   have h2 := hL ((a', x2), (if ac.k = 1 then e + 1 else e, pd), i + 1) ⟨by simp only; omega, ⟨e6, by rw [hx2]; exact hph, by rw [hx2]; exact hxh.lk (by rw [hyc2, hcs]; exact congrArg _ hph.g.ow)⟩, hb.trans e3⟩ (by simp only; omega)
   rw [show (((i + 1 : Nat)) : Int) = (i : Int) + 1 from by omega] at h2
   exact h2
  by_cases k23 : ac.k = 2 ∨ ac.k = 3
  case neg =>
   have n2 : ¬ ac.k = 2 := fun h => k23 (Or.inl h)
   have n3 : ¬ ac.k = 3 := fun h => k23 (Or.inr h)
   have h2 := hend x' rfl (C6q (hlq n2 n3)).symm
   by_cases k1 : ac.k = 1
   ·rw [if_pos k1] at h2
    rw [k1] at g0
    (have zz:=trivial;repeat((first|clear zz|with_reducible first|refine A3 ?_|refine A5 fun _=>?_|refine A4 fun _=>?_);try simp(disch:=first|omega|assumption|((repeat(first|exact A1|exact uH|apply A2|apply uT));first|done|fail)|(simp;first|done|omega|fail))[hlt, hlt', g0, hwr]))
    exact Sels.tw (by (repeat' constructor)) h2
   ·rw [if_neg k1] at h2
    (have zz:=trivial;repeat((first|clear zz|with_reducible first|refine A3 ?_|refine A5 fun _=>?_|refine A4 fun _=>?_);try simp(disch:=first|omega|assumption|((repeat(first|exact A1|exact uH|apply A2|apply uT));first|done|fail)|(simp;first|done|omega|fail))[hlt, hlt', g0, k1, n2, n3]))
    exact Sels.tw (by (repeat' constructor)) h2
  have k1 : ¬ ac.k = 1 := by omega
  simp only [if_neg k1] at hend
  obtain ⟨j', tv', d', P'⟩ := a'
  have hol : d'.own.length = N := hph.g.ow
  have htl : d'.ts.length = N := by have := hph.g.tl; simpa [S4, WoH.ws, WoH.ug] using this
  have hn16 := hph.g.n
  have hlen : (((m.ug d').own.length : Nat) : Int) = c.sh := by rw [hcs]; exact congrArg _ hol
  have hown : (S4 m (j', tv', d', P')).own = (m.ug d').own := rfl
  rw [hown] at hend
  rcases k23 with k2 | k3
  ·rw [k2] at g0
   (have zz:=trivial;repeat((first|clear zz|with_reducible first|refine A3 ?_|refine A5 fun _=>?_|refine A4 fun _=>?_);try simp(disch:=first|omega|assumption|((repeat(first|exact A1|exact uH|apply A2|apply uT));first|done|fail)|(simp;first|done|omega|fail))[hlt, hlt', g0]))
   refine P6 (e := 84) (k := 1) (v := d'.tv) (q := d'.ts.length) (xs := d'.ts.map (·.1)) (by unfold M1 E3 B9; (repeat constructor)) fun ta tc htv => ?_
   refine H3 c7 (fun w' hw' => A8y w' (m.ug d') (by show d'.ts.length ≤ _; omega) (by show d'.own.length = d'.ts.length; omega) (WoAt.own hw' fun r hr => by unfold M1 E3; simp only [List.mem_append, List.mem_cons]; exact Or.inl (Or.inr (Or.inr hr))) ⟨ta, tc, htv⟩) ?_
   rintro _ r rfl
   refine P6 (e := 3) (k := 1) (v := r) (q := (m.ug d').own.length) (xs := E7 (m.ug d').own) (by simp) fun ra rc hu => ?_
   subst hu
   have h2 := hend { x' with lov := .slice ra (m.ug d').own.length rc, locks := (m.ug d').own } rfl rfl
   rw [← e3]
   simp only [M1, E3, B9, C8, D1, K9, U5, Y5, V6, List.cons_append, List.nil_append] at h2 ⊢
   (have zz:=trivial;repeat((first|clear zz|with_reducible first|refine A3 ?_|refine A5 fun _=>?_|refine A4 fun _=>?_);try simp(disch:=first|omega|assumption|((repeat(first|exact A1|exact uH|apply A2|apply uT));first|done|fail)|(simp;first|done|omega|fail))[hlen, hlt, hlt', g0, V6]))
   exact Sels.tw (by (repeat' constructor)) h2
  ·rw [k3] at g0
   (have zz:=trivial;repeat((first|clear zz|with_reducible first|refine A3 ?_|refine A5 fun _=>?_|refine A4 fun _=>?_);try simp(disch:=first|omega|assumption|((repeat(first|exact A1|exact uH|apply A2|apply uT));first|done|fail)|(simp;first|done|omega|fail))[hlt, hlt', g0]))
   refine P6 (e := 84) (k := 1) (v := d'.tv) (q := d'.ts.length) (xs := d'.ts.map (·.1)) (by unfold M1 E3 B9; (repeat constructor)) fun ta tc htv => ?_
   refine H3 c7 (fun w' hw' => A8y w' (m.ug d') (by show d'.ts.length ≤ _; omega) (by show d'.own.length = d'.ts.length; omega) (WoAt.own hw' fun r hr => by unfold M1 E3; simp only [List.mem_append, List.mem_cons]; exact Or.inl (Or.inr (Or.inr hr))) ⟨ta, tc, htv⟩) ?_
   rintro _ r rfl
   refine P6 (e := 3) (k := 1) (v := r) (q := (m.ug d').own.length) (xs := E7 (m.ug d').own) (by simp) fun ra rc hu => ?_
   subst hu
   have h2 := hend { x' with lov := .slice ra (m.ug d').own.length rc, locks := (m.ug d').own } rfl rfl
   rw [← e3]
   simp only [M1, E3, B9, C8, D1, K9, U5, Y5, V6, List.cons_append, List.nil_append] at h2 ⊢
   (have zz:=trivial;repeat((first|clear zz|with_reducible first|refine A3 ?_|refine A5 fun _=>?_|refine A4 fun _=>?_);try simp(disch:=first|omega|assumption|((repeat(first|exact A1|exact uH|apply A2|apply uT));first|done|fail)|(simp;first|done|omega|fail))[hlen, hlt, hlt', g0, V6]))
   exact Sels.tw (by (repeat' constructor)) h2
end Go.Proofs.YtjobgnabneddjaaGreat
