/- The proof of a given statement, a part of it (Packet Bytes Sl ShFnv Fnv Probe Flows Flows2 ShPoints Points). No condition but what each lemma says. -/
import Derived.Lib.SlBytesRow
import Derived.Test.YtggakcpabomliaaGreatD13
set_option linter.unusedVariables false
set_option linter.unusedSimpArgs false
namespace Go.Proofs.YtggakcpabomliaaGreat
open Go
/-- a flow's key -/
structure KeyV where
  v : Int
  src : ByteArray
  dst : ByteArray
  fr : Int
  tp : Int
  proto : Int
  deriving DecidableEq
def KeyV.cs (k : KeyV) : List Value := [.int .i64 k.v, .string k.src, .string k.dst, .int .i64 k.fr, .int .i64 k.tp, .int .i64 k.proto]
def KeyV.val (k : KeyV) : Value := .agg #[.int .i64 k.v, .string k.src, .string k.dst, .int .i64 k.fr, .int .i64 k.tp, .int .i64 k.proto]
def noK : KeyV := ⟨0, noB, noB, 0, 0, 0⟩
/-- a key without its ports, what its head holds, an error -/
def keyedV (s : ByteArray) : KeyV × ByteArray × Nat :=
  if s.size = 0 then (noK, noB, 2) else if byteAt s 0 / 16 = 4 then (⟨4, (ip4V s).src, (ip4V s).dst, 0, 0, (ip4V s).proto⟩, (ip4V s).rest, (ip4V s).e)
  else if byteAt s 0 / 16 = 6 then (⟨6, (ip6V s).src, (ip6V s).dst, 0, 0, (ip6V s).proto⟩, (ip6V s).rest, (ip6V s).e) else (noK, noB, 3)
def keyed.val (x : KeyV × ByteArray × Nat) : Value := .tuple #[x.1.val, .string x.2.1, .int .i64 x.2.2]
theorem keyedc1_ok (w : World) (src dst : ByteArray) (p : Int) : Fn PR NoX 188 #[.agg #[.string src, .string dst, .int .i64 p]] w (fun v w' => v = KeyV.val ⟨4, src, dst, 0, 0, p⟩ ∧ But [] w w') := by
  refine Fn.pure (mk_packet_keyed_c1 (TW.go (κ := false) (S := []) ?_))
  unfold sh_packet_keyed_c1
  (have hQq := trivial; repeat ((first | clear hQq | (with_reducible first | refine T_drw ?_ | refine T_bx fun _ => ?_ | refine s_al fun _ => ?_)); (try simp (disch := first | omega | assumption | ((repeat (first | exact mem_h | exact Up.here | apply mem_t | apply Up.there)); first | done | fail) | (simp; first | done | omega | fail)) [])))
  exact T_ret rfl
theorem keyedc2_ok (w : World) (src dst : ByteArray) (p : Int) : Fn PR NoX 191 #[.agg #[.string src, .string dst, .int .i64 p]] w (fun v w' => v = KeyV.val ⟨6, src, dst, 0, 0, p⟩ ∧ But [] w w') := by
  refine Fn.pure (mk_packet_keyed_c2 (TW.go (κ := false) (S := []) ?_))
  unfold sh_packet_keyed_c2
  (have hQq := trivial; repeat ((first | clear hQq | (with_reducible first | refine T_drw ?_ | refine T_bx fun _ => ?_ | refine s_al fun _ => ?_)); (try simp (disch := first | omega | assumption | ((repeat (first | exact mem_h | exact Up.here | apply mem_t | apply Up.there)); first | done | fail) | (simp; first | done | omega | fail)) [])))
  exact T_ret rfl
theorem told4_ok (w : World) (s : ByteArray) (hs : s.size < 2 ^ 40) : Fn PR NoX 186 #[.string s, .func (.func 187) #[] #[], .func (.func 188) #[] #[]] w
    (fun v w' => v = keyed.val (⟨4, (ip4V s).src, (ip4V s).dst, 0, 0, (ip4V s).proto⟩, (ip4V s).rest, (ip4V s).e) ∧ But [] w w') := by
  refine Fn.pure (mk_packet_told_ip4_Head (TW.go (κ := false) (S := []) ?_))
  unfold sh_packet_told_ip4_Head
  (have hQq := trivial; repeat ((first | clear hQq | (with_reducible first | refine T_drw ?_ | refine T_bx fun _ => ?_ | refine s_al fun _ => ?_)); (try simp (disch := first | omega | assumption | ((repeat (first | exact mem_h | exact Up.here | apply mem_t | apply Up.there)); first | done | fail) | (simp; first | done | omega | fail)) [])))
  refine T_cv ent_ip4_Parse (fun w' _ => ip4Parse_ok w' s hs) ?_
  (have hQq := trivial; repeat ((first | clear hQq | (with_reducible first | refine T_drw ?_ | refine T_bx fun _ => ?_ | refine s_al fun _ => ?_)); (try simp (disch := first | omega | assumption | ((repeat (first | exact mem_h | exact Up.here | apply mem_t | apply Up.there)); first | done | fail) | (simp; first | done | omega | fail)) [HeadV.val])))
  refine T_cv ent_packet_keyed_c1 (fun w' _ => keyedc1_ok w' _ _ _) ?_
  (have hQq := trivial; repeat ((first | clear hQq | (with_reducible first | refine T_drw ?_ | refine T_bx fun _ => ?_ | refine s_al fun _ => ?_)); (try simp (disch := first | omega | assumption | ((repeat (first | exact mem_h | exact Up.here | apply mem_t | apply Up.there)); first | done | fail) | (simp; first | done | omega | fail)) [KeyV.val])))
  exact T_ret (by simp [keyed.val, KeyV.val])
theorem told6_ok (w : World) (s : ByteArray) (hs : s.size < 2 ^ 40) : Fn PR NoX 189 #[.string s, .func (.func 190) #[] #[], .func (.func 191) #[] #[]] w
    (fun v w' => v = keyed.val (⟨6, (ip6V s).src, (ip6V s).dst, 0, 0, (ip6V s).proto⟩, (ip6V s).rest, (ip6V s).e) ∧ But [] w w') := by
  refine Fn.pure (mk_packet_told_ip6_Head (TW.go (κ := false) (S := []) ?_))
  unfold sh_packet_told_ip6_Head
  (have hQq := trivial; repeat ((first | clear hQq | (with_reducible first | refine T_drw ?_ | refine T_bx fun _ => ?_ | refine s_al fun _ => ?_)); (try simp (disch := first | omega | assumption | ((repeat (first | exact mem_h | exact Up.here | apply mem_t | apply Up.there)); first | done | fail) | (simp; first | done | omega | fail)) [])))
  refine T_cv ent_ip6_Parse (fun w' _ => ip6Parse_ok w' s hs) ?_
  (have hQq := trivial; repeat ((first | clear hQq | (with_reducible first | refine T_drw ?_ | refine T_bx fun _ => ?_ | refine s_al fun _ => ?_)); (try simp (disch := first | omega | assumption | ((repeat (first | exact mem_h | exact Up.here | apply mem_t | apply Up.there)); first | done | fail) | (simp; first | done | omega | fail)) [HeadV.val])))
  refine T_cv ent_packet_keyed_c2 (fun w' _ => keyedc2_ok w' _ _ _) ?_
  (have hQq := trivial; repeat ((first | clear hQq | (with_reducible first | refine T_drw ?_ | refine T_bx fun _ => ?_ | refine s_al fun _ => ?_)); (try simp (disch := first | omega | assumption | ((repeat (first | exact mem_h | exact Up.here | apply mem_t | apply Up.there)); first | done | fail) | (simp; first | done | omega | fail)) [KeyV.val])))
  exact T_ret (by simp [keyed.val, KeyV.val])
theorem long_ok (w : World) (v : Int) : Fn PR NoX 155 #[.int .i64 v] w (fun u w' => u = .int .i64 (if v = 4 then 4 else if v = 6 then 16 else 0) ∧ But [] w w') := by
  refine Fn.pure (mk_packet_long (TW.go (κ := false) (S := []) ?_))
  unfold sh_packet_long
  by_cases c1 : v = 4
  · (have hQq := trivial; repeat ((first | clear hQq | (with_reducible first | refine T_drw ?_ | refine T_bx fun _ => ?_ | refine s_al fun _ => ?_)); (try simp (disch := first | omega | assumption | ((repeat (first | exact mem_h | exact Up.here | apply mem_t | apply Up.there)); first | done | fail) | (simp; first | done | omega | fail)) [c1]))); exact T_ret (by simp)
  by_cases c2 : v = 6
  · (have hQq := trivial; repeat ((first | clear hQq | (with_reducible first | refine T_drw ?_ | refine T_bx fun _ => ?_ | refine s_al fun _ => ?_)); (try simp (disch := first | omega | assumption | ((repeat (first | exact mem_h | exact Up.here | apply mem_t | apply Up.there)); first | done | fail) | (simp; first | done | omega | fail)) [c1, c2]))); exact T_ret (by simp)
  · (have hQq := trivial; repeat ((first | clear hQq | (with_reducible first | refine T_drw ?_ | refine T_bx fun _ => ?_ | refine s_al fun _ => ?_)); (try simp (disch := first | omega | assumption | ((repeat (first | exact mem_h | exact Up.here | apply mem_t | apply Up.there)); first | done | fail) | (simp; first | done | omega | fail)) [c1, c2]))); exact T_ret (by simp)
theorem keyed_ok (w : World) (s : ByteArray) (hs : s.size < 2 ^ 40) : Fn PR NoX 153 #[.string s] w (fun u w' => u = keyed.val (keyedV s) ∧ But [] w w') := by
  refine Fn.pure (mk_packet_keyed (TW.go (κ := false) (S := []) ?_))
  unfold sh_packet_keyed
  by_cases c0 : s.size = 0
  · have e : s = ByteArray.mk #[] := by
      apply ByteArray.ext; exact Array.eq_empty_of_size_eq_zero c0
    (have hQq := trivial; repeat ((first | clear hQq | (with_reducible first | refine T_drw ?_ | refine T_bx fun _ => ?_ | refine s_al fun _ => ?_)); (try simp (disch := first | omega | assumption | ((repeat (first | exact mem_h | exact Up.here | apply mem_t | apply Up.there)); first | done | fail) | (simp; first | done | omega | fail)) [e])))
    exact T_ret (by simp [keyedV, keyed.val, noK, KeyV.val])
  have c0' : ¬ s = ByteArray.mk #[] := fun e => c0 (by rw [e]; rfl)
  obtain ⟨by0, hb0, hb1⟩ := byte_get (s := s) (i := 0) (by omega)
  have hb0' : s[(0 : Int).toNat]? = some by0 := hb0
  have hl0 := byteAt_lt s 0
  have e1 : ((by0.toNat : Nat) : Int).fdiv (2 ^ min 4 IntKind.u8.bits) = (byteAt s 0 / 16 : Nat) := by rw [show (2 : Int) ^ min 4 IntKind.u8.bits = 16 from rfl, Int.fdiv_eq_ediv_of_nonneg _ (by omega), hb1]; omega
  by_cases c1 : byteAt s 0 / 16 = 4
  · have c1' : ((byteAt s 0 : Nat) : Int) / 16 = 4 := by omega
    (have hQq := trivial; repeat ((first | clear hQq | (with_reducible first | refine T_drw ?_ | refine T_bx fun _ => ?_ | refine s_al fun _ => ?_)); (try simp (disch := first | omega | assumption | ((repeat (first | exact mem_h | exact Up.here | apply mem_t | apply Up.there)); first | done | fail) | (simp; first | done | omega | fail)) [c0', i_is_9])))
    rw [e1]
    (have hQq := trivial; repeat ((first | clear hQq | (with_reducible first | refine T_drw ?_ | refine T_bx fun _ => ?_ | refine s_al fun _ => ?_)); (try simp (disch := first | omega | assumption | ((repeat (first | exact mem_h | exact Up.here | apply mem_t | apply Up.there)); first | done | fail) | (simp; first | done | omega | fail)) [c1', c1])))
    refine T_cv ent_packet_told_ip4_Head (fun w' _ => told4_ok w' s hs) ?_
    (have hQq := trivial; repeat ((first | clear hQq | (with_reducible first | refine T_drw ?_ | refine T_bx fun _ => ?_ | refine s_al fun _ => ?_)); (try simp (disch := first | omega | assumption | ((repeat (first | exact mem_h | exact Up.here | apply mem_t | apply Up.there)); first | done | fail) | (simp; first | done | omega | fail)) [keyed.val, KeyV.val])))
    exact T_ret (by simp [keyedV, keyed.val, KeyV.val, c0, c1])
  have c1' : ¬ ((byteAt s 0 : Nat) : Int) / 16 = 4 := by omega
  by_cases c2 : byteAt s 0 / 16 = 6
  · have c2' : ((byteAt s 0 : Nat) : Int) / 16 = 6 := by omega
    (have hQq := trivial; repeat ((first | clear hQq | (with_reducible first | refine T_drw ?_ | refine T_bx fun _ => ?_ | refine s_al fun _ => ?_)); (try simp (disch := first | omega | assumption | ((repeat (first | exact mem_h | exact Up.here | apply mem_t | apply Up.there)); first | done | fail) | (simp; first | done | omega | fail)) [c0', i_is_9])))
    rw [e1]
    (have hQq := trivial; repeat ((first | clear hQq | (with_reducible first | refine T_drw ?_ | refine T_bx fun _ => ?_ | refine s_al fun _ => ?_)); (try simp (disch := first | omega | assumption | ((repeat (first | exact mem_h | exact Up.here | apply mem_t | apply Up.there)); first | done | fail) | (simp; first | done | omega | fail)) [c1', c1, c2', c2, i_is_9])))
    refine T_cv ent_packet_told_ip6_Head (fun w' _ => told6_ok w' s hs) ?_
    (have hQq := trivial; repeat ((first | clear hQq | (with_reducible first | refine T_drw ?_ | refine T_bx fun _ => ?_ | refine s_al fun _ => ?_)); (try simp (disch := first | omega | assumption | ((repeat (first | exact mem_h | exact Up.here | apply mem_t | apply Up.there)); first | done | fail) | (simp; first | done | omega | fail)) [keyed.val, KeyV.val])))
    exact T_ret (by simp [keyedV, keyed.val, KeyV.val, c0, c1, c2])
  have c2' : ¬ ((byteAt s 0 : Nat) : Int) / 16 = 6 := by omega
  (have hQq := trivial; repeat ((first | clear hQq | (with_reducible first | refine T_drw ?_ | refine T_bx fun _ => ?_ | refine s_al fun _ => ?_)); (try simp (disch := first | omega | assumption | ((repeat (first | exact mem_h | exact Up.here | apply mem_t | apply Up.there)); first | done | fail) | (simp; first | done | omega | fail)) [c0', i_is_9])))
  rw [e1]
  (have hQq := trivial; repeat ((first | clear hQq | (with_reducible first | refine T_drw ?_ | refine T_bx fun _ => ?_ | refine s_al fun _ => ?_)); (try simp (disch := first | omega | assumption | ((repeat (first | exact mem_h | exact Up.here | apply mem_t | apply Up.there)); first | done | fail) | (simp; first | done | omega | fail)) [c1', c1, c2', c2, i_is_9])))
  exact T_ret (by simp [keyedV, keyed.val, KeyV.val, c0, c1, c2, noK])
/-- a packet: its key, its flags, an error -/
def packetV (s : ByteArray) : KeyV × Nat × Nat :=
  let x := keyedV s
  if x.2.2 ≠ 0 then (noK, 0, x.2.2) else let y := portV x.1.proto x.2.1; if y.2.2.2 ≠ 0 then (noK, 0, y.2.2.2) else ({ x.1 with fr := y.1, tp := y.2.1 }, y.2.2.1, 0)
def packetC (k : KeyV) (f : Int) : Value := .agg #[.int .i64 k.v, .string k.src, .string k.dst, .int .i64 k.fr, .int .i64 k.tp, .int .i64 k.proto, .int .i64 f]
def packet.val (x : KeyV × Nat × Nat) : Value := .tuple #[packetC x.1 x.2.1, .int .i64 x.2.2]
theorem ip4V_rest (s : ByteArray) : (ip4V s).rest.size ≤ s.size := by
  unfold ip4V; split
  · simp only [ByteArray.size_extract]; omega
  · simp [HeadV.err]
theorem ip6V_rest (s : ByteArray) : (ip6V s).rest.size ≤ s.size := by
  unfold ip6V; split
  · simp only [ByteArray.size_extract]; omega
  · simp [HeadV.err]
theorem keyedV_rest (s : ByteArray) : (keyedV s).2.1.size ≤ s.size := by
  unfold keyedV
  split
  · simp
  split
  · exact ip4V_rest s
  split
  · exact ip6V_rest s
  · simp
theorem packetParse_ok (w : World) (s : ByteArray) (hs : s.size < 2 ^ 40) : Fn PR NoX 104 #[.string s] w (fun u w' => u = packet.val (packetV s) ∧ But [] w w') := by
  refine Fn.pure (mk_packet_Parse (TW.go (κ := false) (S := []) ?_))
  unfold sh_packet_Parse
  (have hQq := trivial; repeat ((first | clear hQq | (with_reducible first | refine T_drw ?_ | refine T_bx fun _ => ?_ | refine s_al fun _ => ?_)); (try simp (disch := first | omega | assumption | ((repeat (first | exact mem_h | exact Up.here | apply mem_t | apply Up.there)); first | done | fail) | (simp; first | done | omega | fail)) [])))
  refine T_cv ent_packet_keyed (fun w' _ => keyed_ok w' s hs) ?_
  have hr := keyedV_rest s
  by_cases c1 : (keyedV s).2.2 = 0
  · (have hQq := trivial; repeat ((first | clear hQq | (with_reducible first | refine T_drw ?_ | refine T_bx fun _ => ?_ | refine s_al fun _ => ?_)); (try simp (disch := first | omega | assumption | ((repeat (first | exact mem_h | exact Up.here | apply mem_t | apply Up.there)); first | done | fail) | (simp; first | done | omega | fail)) [keyed.val, KeyV.val, c1])))
    refine T_cv ent_port_Parse (fun w' _ => portParse_ok w' _ (by omega) _) ?_
    by_cases c2 : (portV (keyedV s).1.proto (keyedV s).2.1).2.2.2 = 0
    · (have hQq := trivial; repeat ((first | clear hQq | (with_reducible first | refine T_drw ?_ | refine T_bx fun _ => ?_ | refine s_al fun _ => ?_)); (try simp (disch := first | omega | assumption | ((repeat (first | exact mem_h | exact Up.here | apply mem_t | apply Up.there)); first | done | fail) | (simp; first | done | omega | fail)) [portV.val, c2])))
      exact T_ret (by simp [packetV, packet.val, packetC, KeyV.val, c1, c2])
    · (have hQq := trivial; repeat ((first | clear hQq | (with_reducible first | refine T_drw ?_ | refine T_bx fun _ => ?_ | refine s_al fun _ => ?_)); (try simp (disch := first | omega | assumption | ((repeat (first | exact mem_h | exact Up.here | apply mem_t | apply Up.there)); first | done | fail) | (simp; first | done | omega | fail)) [portV.val, c2])))
      exact T_ret (by simp [packetV, packet.val, packetC, KeyV.val, c1, c2, noK])
  · (have hQq := trivial; repeat ((first | clear hQq | (with_reducible first | refine T_drw ?_ | refine T_bx fun _ => ?_ | refine s_al fun _ => ?_)); (try simp (disch := first | omega | assumption | ((repeat (first | exact mem_h | exact Up.here | apply mem_t | apply Up.there)); first | done | fail) | (simp; first | done | omega | fail)) [keyed.val, KeyV.val, c1])))
    exact T_ret (by simp [packetV, packet.val, packetC, KeyV.val, c1, noK])
/-- a packet, as bytes; or an error -/
def packetP (k : KeyV) (f : Int) : ByteArray × Nat :=
  if k.v ≠ 4 ∧ k.v ≠ 6 then (noB, 3) else let s := portP k.proto k.fr k.tp f; if s.2 ≠ 0 then (noB, s.2) else if k.v = 6 then ip6P k.src k.dst s.1 k.proto else ip4P k.src k.dst s.1 k.proto
theorem portP_size (number x y f : Int) : (portP number x y f).1.size ≤ 1000 := by
  have h6 := repz_size 6
  have h8 := repz_size 8
  unfold portP protoP tcpP udpP
  repeat' split
  all_goals simp [h6, h8]
theorem packetPut_ok (w : World) (k : KeyV) (f : Int) : Fn PR NoX 54 #[packetC k f] w (fun u w' => u = .tuple #[.string (packetP k f).1, .int .i64 (packetP k f).2] ∧ But [] w w') := by
  refine Fn.pure (mk_packet_Put (TW.go (κ := false) (S := []) ?_))
  unfold sh_packet_Put
  have hz := portP_size k.proto k.fr k.tp f
  by_cases c0 : k.v = 4
  · (have hQq := trivial; repeat ((first | clear hQq | (with_reducible first | refine T_drw ?_ | refine T_bx fun _ => ?_ | refine s_al fun _ => ?_)); (try simp (disch := first | omega | assumption | ((repeat (first | exact mem_h | exact Up.here | apply mem_t | apply Up.there)); first | done | fail) | (simp; first | done | omega | fail)) [packetC, KeyV.val, c0])))
    refine T_cv ent_port_Put (fun w' _ => portPut_ok w' _ _ _ _) ?_
    by_cases c1 : (portP k.proto k.fr k.tp f).2 = 0
    · (have hQq := trivial; repeat ((first | clear hQq | (with_reducible first | refine T_drw ?_ | refine T_bx fun _ => ?_ | refine s_al fun _ => ?_)); (try simp (disch := first | omega | assumption | ((repeat (first | exact mem_h | exact Up.here | apply mem_t | apply Up.there)); first | done | fail) | (simp; first | done | omega | fail)) [c1, c0])))
      refine T_cv ent_ip4_Put (fun w' _ => ip4Put_ok w' _ _ _ _ (by omega)) ?_
      (have hQq := trivial; repeat ((first | clear hQq | (with_reducible first | refine T_drw ?_ | refine T_bx fun _ => ?_ | refine s_al fun _ => ?_)); (try simp (disch := first | omega | assumption | ((repeat (first | exact mem_h | exact Up.here | apply mem_t | apply Up.there)); first | done | fail) | (simp; first | done | omega | fail)) [])))
      exact T_ret (by simp [packetP, c0, c1])
    · (have hQq := trivial; repeat ((first | clear hQq | (with_reducible first | refine T_drw ?_ | refine T_bx fun _ => ?_ | refine s_al fun _ => ?_)); (try simp (disch := first | omega | assumption | ((repeat (first | exact mem_h | exact Up.here | apply mem_t | apply Up.there)); first | done | fail) | (simp; first | done | omega | fail)) [c1, c0])))
      exact T_ret (by simp [packetP, c0, c1])
  by_cases c6 : k.v = 6
  · (have hQq := trivial; repeat ((first | clear hQq | (with_reducible first | refine T_drw ?_ | refine T_bx fun _ => ?_ | refine s_al fun _ => ?_)); (try simp (disch := first | omega | assumption | ((repeat (first | exact mem_h | exact Up.here | apply mem_t | apply Up.there)); first | done | fail) | (simp; first | done | omega | fail)) [packetC, KeyV.val, c6])))
    refine T_cv ent_port_Put (fun w' _ => portPut_ok w' _ _ _ _) ?_
    by_cases c1 : (portP k.proto k.fr k.tp f).2 = 0
    · (have hQq := trivial; repeat ((first | clear hQq | (with_reducible first | refine T_drw ?_ | refine T_bx fun _ => ?_ | refine s_al fun _ => ?_)); (try simp (disch := first | omega | assumption | ((repeat (first | exact mem_h | exact Up.here | apply mem_t | apply Up.there)); first | done | fail) | (simp; first | done | omega | fail)) [c1, c6])))
      refine T_cv ent_ip6_Put (fun w' _ => ip6Put_ok w' _ _ _ _ (by omega)) ?_
      (have hQq := trivial; repeat ((first | clear hQq | (with_reducible first | refine T_drw ?_ | refine T_bx fun _ => ?_ | refine s_al fun _ => ?_)); (try simp (disch := first | omega | assumption | ((repeat (first | exact mem_h | exact Up.here | apply mem_t | apply Up.there)); first | done | fail) | (simp; first | done | omega | fail)) [])))
      exact T_ret (by simp [packetP, c6, c1])
    · (have hQq := trivial; repeat ((first | clear hQq | (with_reducible first | refine T_drw ?_ | refine T_bx fun _ => ?_ | refine s_al fun _ => ?_)); (try simp (disch := first | omega | assumption | ((repeat (first | exact mem_h | exact Up.here | apply mem_t | apply Up.there)); first | done | fail) | (simp; first | done | omega | fail)) [c1, c6])))
      exact T_ret (by simp [packetP, c6, c1])
  · (have hQq := trivial; repeat ((first | clear hQq | (with_reducible first | refine T_drw ?_ | refine T_bx fun _ => ?_ | refine s_al fun _ => ?_)); (try simp (disch := first | omega | assumption | ((repeat (first | exact mem_h | exact Up.here | apply mem_t | apply Up.there)); first | done | fail) | (simp; first | done | omega | fail)) [packetC, KeyV.val, c0, c6])))
    exact T_ret (by simp [packetP, c0, c6])
def closingV (k : KeyV) (f : Int) : Bool := decide (k.proto = 6) && !decide (IntKind.i64.wrap ((f % 2 ^ IntKind.i64.bits).toNat &&& 5 % 2 ^ IntKind.i64.bits : Nat) = 0)
theorem closing_ok (w : World) (k : KeyV) (f : Int) : Fn PR NoX 106 #[packetC k f] w (fun u w' => u = .bool (closingV k f) ∧ But [] w w') := by
  refine Fn.pure (mk_packet_Closing (TW.go (κ := false) (S := []) ?_))
  unfold sh_packet_Closing
  by_cases c0 : k.proto = 6
  · (have hQq := trivial; repeat ((first | clear hQq | (with_reducible first | refine T_drw ?_ | refine T_bx fun _ => ?_ | refine s_al fun _ => ?_)); (try simp (disch := first | omega | assumption | ((repeat (first | exact mem_h | exact Up.here | apply mem_t | apply Up.there)); first | done | fail) | (simp; first | done | omega | fail)) [packetC, KeyV.val, c0])))
    exact T_ret (by simp [closingV, c0])
  · (have hQq := trivial; repeat ((first | clear hQq | (with_reducible first | refine T_drw ?_ | refine T_bx fun _ => ?_ | refine s_al fun _ => ?_)); (try simp (disch := first | omega | assumption | ((repeat (first | exact mem_h | exact Up.here | apply mem_t | apply Up.there)); first | done | fail) | (simp; first | done | omega | fail)) [packetC, KeyV.val, c0])))
    exact T_ret (by simp [closingV, c0])
end Go.Proofs.YtggakcpabomliaaGreat
namespace Go.Proofs.YtggakcpabomliaaGreat
open Go
section
variable {κ : Bool} {X : Nat → Prop} {S : List Nat} {w0 : World} {H H' : List Res} {K : Value → WP}
theorem T_lous {P : Program} {g : Sem Value} {u : Value} {b : Nat} {c c' : Array Value} {T : TypeId} (hrun : ∀ w, bl w b = some (.cells c T (0, 0)) → g.run P w = .ok u (World.putb w b (.cells c' T (0, 0))))
    (hu : Up (.pt b (.cells c T (0, 0))) (.pt b (.cells c' T (0, 0))) H H') (hK : TW κ S w0 H' (K u)) : TW κ S w0 H (lou P X g K) := fun w hw => by
  have hm : Res.pt b (.cells c T (0, 0)) ∈ H := by obtain ⟨A, B, rfl, _⟩ := hu.parts; simp
  have hb := hw.pt hm
  rw [lou_of (hrun w hb) (Sk.putb X hb)]
  refine hK _ (hw.up hu ⟨KS.putb hb (by simp [Res.foot]), ?_, ?_, by simp⟩)
  · simp only [List.mem_singleton, forall_eq, Res.holds]; exact ⟨bl_putb_same (bl_lt hb), rfl⟩
  · simp only [List.mem_singleton, forall_eq, Res.foot]; exact ⟨Or.inl (by simp), by have := bl_lt hb; simpa using this⟩
theorem u_bytes (w : World) : (underlying 218).run PR w = .ok (.slice 5) w := ty218.run_und
theorem u_arr (w : World) : (underlying 237).run PR w = .ok (.array 38 5) w := ty237.run_und
/-- a text, another one written into it -/
def putB (s : ByteArray) (o : Nat) (t : ByteArray) : ByteArray := s.extract 0 o ++ t ++ s.extract (o + t.size) s.size
theorem putB_size {s t : ByteArray} {o : Nat} (h : o + t.size ≤ s.size) : (putB s o t).size = s.size := by simp [putB]; omega
theorem spl_bytes (s t : ByteArray) (o : Nat) (h : o + t.size ≤ s.size) : spl (byteC s).toArray o (byteC t) = (byteC (putB s o t)).toArray := by
  apply Array.toList_inj.1
  rw [spl_toList _ _ _ (by simpa using h)]
  simp [byteC, putB, List.map_take, List.map_drop]
  rw [List.take_of_length_le (by simp)]
theorem T_copyS {b o n c : Nat} {s t : ByteArray} {T : TypeId} (hu : Up (.pt b (.cells (byteC s).toArray T)) (.pt b (.cells (byteC (putB s o t)).toArray T)) H H') (hn : t.size ≤ n) (hs : o + t.size ≤ s.size)
    (hK : TW κ S w0 H' (K (.int .i64 t.size))) : TW κ S w0 H (lou PR X (builtinS .copy #[218, 9] 3 [.slice (some ⟨b, o, none⟩) n c, .string t]) K) := by
  refine T_lous (u := .int .i64 t.size) (fun w hb => ?_) hu hK
  have hst := run_storeCells (P := PR) (o0 := o) (byteC t) 0 w (byteC s).toArray hb (by simpa using hs) (byteC_plain t)
  rw [Nat.add_zero, spl_bytes s t o hs] at hst
  have hl : Nat.min t.size n = t.size := Nat.min_eq_left hn
  have htk : List.take t.size (List.map (fun b : UInt8 => Value.int IntKind.u8 (b.toNat : Int)) t.data.toList) = byteC t := by
    rw [List.take_of_length_le (by simp)]; rfl
  show (Builtin.copy_ #[218, 9] 3 #[.slice (some ⟨b, o, none⟩) n c, .string t]).run PR w = _
  simp [Builtin.copy_, u_bytes, ty5.run_size, Builtin.lenOf, Builtin.firstCells, hl]
  rw [htk, hst]
  simp [goInt, Result.andThen]
def z38 : ByteArray := repV z1 38
theorem z38_size : z38.size = 38 := repz_size 38
theorem z38_cells : (Builtin.zeroCells (Value.int .u8 0).cells 38).toList = byteC z38 := by kernel_rfl
theorem z38_arr : (byteC z38).toArray = #[.int .u8 0, .int .u8 0, .int .u8 0, .int .u8 0, .int .u8 0, .int .u8 0, .int .u8 0, .int .u8 0, .int .u8 0, .int .u8 0, .int .u8 0, .int .u8 0, .int .u8 0, .int .u8 0, .int .u8 0, .int .u8 0, .int .u8 0, .int .u8 0, .int .u8 0, .int .u8 0, .int .u8 0, .int .u8 0, .int .u8 0, .int .u8 0, .int .u8 0, .int .u8 0, .int .u8 0, .int .u8 0, .int .u8 0, .int .u8 0, .int .u8 0, .int .u8 0, .int .u8 0, .int .u8 0, .int .u8 0, .int .u8 0, .int .u8 0, .int .u8 0] := by kernel_rfl
theorem T_clear38 {b : Nat} {s : ByteArray} {T : TypeId} (hs : s.size = 38) (hu : Up (.pt b (.cells (byteC s).toArray T)) (.pt b (.cells (byteC z38).toArray T)) H H')
    (hK : TW κ S w0 H' (K (.tuple #[]))) : TW κ S w0 H (lou PR X (builtinS .clear #[218] 0 [.slice (some ⟨b, 0, none⟩) 38 38]) K) := by
  refine T_lous (u := .tuple #[]) (fun w hb => ?_) hu hK
  have h38 := z38_size
  have hst := run_storeCells (P := PR) (o0 := 0) (byteC z38) 0 w (byteC s).toArray hb (by simp [hs, h38]) (byteC_plain _)
  rw [Nat.add_zero, spl_bytes s z38 0 (by omega)] at hst
  have e : putB s 0 z38 = z38 := by
    apply ByteArray.ext
    simp [putB, h38, hs]
  rw [e] at hst
  show (Builtin.clear_ #[218] 0 #[.slice (some ⟨b, 0, none⟩) 38 38]).run PR w = _
  simp only [Builtin.clear_, List.getElem?_toArray, List.getElem?_cons_zero, Sem.run_bind, u_bytes, Result.andThen_ok, ty5.run_zero, z38_cells, hst, Sem.run_pure]
theorem s_strB {b : Nat} {s : ByteArray} {T : TypeId} (hm : Res.pt b (.cells (byteC s).toArray T) ∈ H) (c n : Nat) (hn : n = s.size) :
    TW κ S w0 H (rds PR (convert 218 9 (.slice (some ⟨b, 0, none⟩) n c)) K) = TW κ S w0 H (K (.string s)) := TW.congr fun w hw => by
  refine rds_of ?_ K
  subst hn
  have hb := hw.pt hm
  have hB : Lib.Bytes w b 0 s := fun i hi => by
    rw [cell_of hb]; simp [byteC, hi]; rfl
  exact Lib.run_convert_whole w _ _ _ ty218.und ty5.und ty9.und b 0 s hB c
end
theorem i_slal {lo : Nat} (b : Nat) (h : lo < 38) (K : Value → WP) : pur PR (Instr.sliceAt 237 (.pointer (some ⟨b, 0, none⟩)) (some (.int .i64 (lo : Int))) none none) K = K (.slice (some ⟨b, lo, none⟩) (38 - lo) (38 - lo)) :=
  pur_of (fun w => by
    have h1 : ¬ ((38 : Int) < lo) := by omega
    have h2 : ¬ (38 = lo) := by omega
    simp [Instr.sliceAt, u_arr, Instr.sliceBounds, Instr.sliceBound, asIntOf, h1, h2, ty5.run_size, Instr.sureAddr, add_mk]
    omega) K
def longV (v : Int) : Nat := if v = 4 then 4 else if v = 6 then 16 else 0
theorem long_ok2 (w : World) (v : Int) : Fn PR NoX 155 #[.int .i64 v] w (fun u w' => u = .int .i64 (longV v : Nat) ∧ But [] w w') := by
  have := long_ok w v
  have e : ((longV v : Nat) : Int) = if v = 4 then 4 else if v = 6 then 16 else 0 := by unfold longV; repeat' split
                                                                                        all_goals rfl
  rw [e]; exact this
/-- may a key be told as bytes? -/
def bytesOk (k : KeyV) : Bool := decide (longV k.v ≠ 0 ∧ k.src.size = longV k.v ∧ k.dst.size = longV k.v ∧ (portP k.proto k.fr k.tp 0).2 = 0)
def bytesV (k : KeyV) : ByteArray := putB (putB (putB z38 0 (putV (k.v * 256 + k.proto) 2 ++ putV k.fr 2 ++ putV k.tp 2)) 6 k.src) 22 k.dst
def bytesR (k : KeyV) : Value := .tuple #[.string (if bytesOk k then bytesV k else noB), .bool (bytesOk k)]
theorem portP_e {n x y f : Int} (h : (portP n x y f).2 = 0) : (n = 6 ∨ n = 17) ∧ portsOk x y = true := by
  unfold portP at h
  split at h
  · simp at h
  split at h
  · simp at h
  · rename_i h1 h2
    refine ⟨by omega, ?_⟩
    cases hp : portsOk x y with
    | true => rfl
    | false => exact absurd (Or.inl hp) h2
theorem bytes_ok (w : World) (k : KeyV) : Fn PR NoX 105 #[k.val] w (fun u w' => u = bytesR k ∧ But [] w w') := by
  refine Fn.pure (mk_packet_Bytes (TW.go (κ := false) (S := []) ?_))
  unfold sh_packet_Bytes KeyV.val
  (have hQq := trivial; repeat ((first | clear hQq | (with_reducible first | refine T_drw ?_ | refine T_bx fun _ => ?_ | refine s_al fun _ => ?_)); (try simp (disch := first | omega | assumption | ((repeat (first | exact mem_h | exact Up.here | apply mem_t | apply Up.there)); first | done | fail) | (simp; first | done | omega | fail)) [])))
  refine T_cv ent_packet_long (fun w' _ => long_ok2 w' _) ?_
  (have hQq := trivial; repeat ((first | clear hQq | (with_reducible first | refine T_drw ?_ | refine T_bx fun _ => ?_ | refine s_al fun _ => ?_)); (try simp (disch := first | omega | assumption | ((repeat (first | exact mem_h | exact Up.here | apply mem_t | apply Up.there)); first | done | fail) | (simp; first | done | omega | fail)) [])))
  refine T_cv ent_port_Put (fun w' _ => portPut_ok w' _ _ _ _) ?_
  have bad : bytesOk k = false → bytesR k = .tuple #[.string noB, .bool false] := fun h => by simp [bytesR, h]
  by_cases c1 : longV k.v = 0
  · (have hQq := trivial; repeat ((first | clear hQq | (with_reducible first | refine T_drw ?_ | refine T_bx fun _ => ?_ | refine s_al fun _ => ?_)); (try simp (disch := first | omega | assumption | ((repeat (first | exact mem_h | exact Up.here | apply mem_t | apply Up.there)); first | done | fail) | (simp; first | done | omega | fail)) [c1])))
    exact T_ret (bad (by simp [bytesOk, c1])).symm
  have c1' : ¬ ((longV k.v : Nat) : Int) = 0 := by omega
  by_cases c2 : k.src.size = longV k.v
  case neg =>
    have c2' : ¬ ((k.src.size : Nat) : Int) = longV k.v := by omega
    (have hQq := trivial; repeat ((first | clear hQq | (with_reducible first | refine T_drw ?_ | refine T_bx fun _ => ?_ | refine s_al fun _ => ?_)); (try simp (disch := first | omega | assumption | ((repeat (first | exact mem_h | exact Up.here | apply mem_t | apply Up.there)); first | done | fail) | (simp; first | done | omega | fail)) [c1, c1', c2, c2'])))
    exact T_ret (bad (by simp [bytesOk, c2])).symm
  by_cases c3 : k.dst.size = longV k.v
  case neg =>
    have c3' : ¬ ((k.dst.size : Nat) : Int) = longV k.v := by omega
    (have hQq := trivial; repeat ((first | clear hQq | (with_reducible first | refine T_drw ?_ | refine T_bx fun _ => ?_ | refine s_al fun _ => ?_)); (try simp (disch := first | omega | assumption | ((repeat (first | exact mem_h | exact Up.here | apply mem_t | apply Up.there)); first | done | fail) | (simp; first | done | omega | fail)) [c1, c1', c2, c3, c3'])))
    exact T_ret (bad (by simp [bytesOk, c3])).symm
  by_cases c4 : (portP k.proto k.fr k.tp 0).2 = 0
  case neg =>
    (have hQq := trivial; repeat ((first | clear hQq | (with_reducible first | refine T_drw ?_ | refine T_bx fun _ => ?_ | refine s_al fun _ => ?_)); (try simp (disch := first | omega | assumption | ((repeat (first | exact mem_h | exact Up.here | apply mem_t | apply Up.there)); first | done | fail) | (simp; first | done | omega | fail)) [c1, c1', c2, c3, c4])))
    exact T_ret (bad (by simp [bytesOk, c4])).symm
  (have hQq := trivial; repeat ((first | clear hQq | (with_reducible first | refine T_drw ?_ | refine T_bx fun _ => ?_ | refine s_al fun _ => ?_)); (try simp (disch := first | omega | assumption | ((repeat (first | exact mem_h | exact Up.here | apply mem_t | apply Up.there)); first | done | fail) | (simp; first | done | omega | fail)) [c1, c1', c2, c3, c4])))
  rename_i bk ba
  refine TW.eqH (H' := [.pt ba (.cells (byteC z38).toArray 237), .pt bk (.cells #[.int .i64 k.v, .string k.src, .string k.dst, .int .i64 k.fr, .int .i64 k.tp, .int .i64 k.proto] 99)]) (by rw [z38_arr]) ?_
  refine T_clear38 z38_size .here ?_
  obtain ⟨hp, hq⟩ := portP_e c4
  simp only [portsOk, decide_eq_true_eq] at hq
  have hv : k.v = 4 ∨ k.v = 6 := by unfold longV at c1; split at c1 <;> (try split at c1) <;> omega
  have hh : (putV (k.v * 256 + k.proto) 2 ++ putV k.fr 2 ++ putV k.tp 2).size = 6 := by simp
  have h38 := z38_size
  have s1 : (putB z38 0 (putV (k.v * 256 + k.proto) 2 ++ putV k.fr 2 ++ putV k.tp 2)).size = 38 := by rw [putB_size (by omega), h38]
  have hl : longV k.v ≤ 16 := by unfold longV; split <;> (try split) <;> omega
  have s2 : (putB (putB z38 0 (putV (k.v * 256 + k.proto) 2 ++ putV k.fr 2 ++ putV k.tp 2)) 6 k.src).size = 38 := by rw [putB_size (by omega), s1]
  have s3 : (bytesV k).size = 38 := by unfold bytesV; rw [putB_size (by omega), s2]
  have i6 := fun K => i_slal (lo := 6) ba (by omega) K
  have i22 := fun K => i_slal (lo := 22) ba (by omega) K
  simp at i6 i22
  have ok : bytesOk k = true := by simp [bytesOk, c1, c2, c3, c4]
  have q1 := hq.1
  have q2 := hq.2.1
  have q3 := hq.2.2.1
  have q4 := hq.2.2.2
  have eor : IntKind.u64.wrap ((IntKind.u64.wrap (k.v * 2 ^ min 8 IntKind.u64.bits) % 2 ^ IntKind.u64.bits).toNat ||| (k.proto % 2 ^ IntKind.u64.bits).toNat : Nat) = k.v * 256 + k.proto := by
    rcases hv with hv | hv <;> rcases hp with hp | hp <;> (rw [hv, hp]; decide)
  have ew1 : IntKind.u64.wrap k.fr = k.fr := wrapu64 (by omega) (by omega)
  have ew2 : IntKind.u64.wrap k.tp = k.tp := wrapu64 (by omega) (by omega)
  (have hQq := trivial; repeat ((first | clear hQq | (with_reducible first | refine T_drw ?_ | refine T_bx fun _ => ?_ | refine s_al fun _ => ?_)); (try simp (disch := first | omega | assumption | ((repeat (first | exact mem_h | exact Up.here | apply mem_t | apply Up.there)); first | done | fail) | (simp; first | done | omega | fail)) [])))
  rw [eor, ew1, ew2]
  refine T_cv ent_octet_Put (fun w' hw' => Put_ok w' _ _) ?_
  (have hQq := trivial; repeat ((first | clear hQq | (with_reducible first | refine T_drw ?_ | refine T_bx fun _ => ?_ | refine s_al fun _ => ?_)); (try simp (disch := first | omega | assumption | ((repeat (first | exact mem_h | exact Up.here | apply mem_t | apply Up.there)); first | done | fail) | (simp; first | done | omega | fail)) [])))
  refine T_cv ent_octet_Put (fun w' hw' => Put_ok w' _ _) ?_
  (have hQq := trivial; repeat ((first | clear hQq | (with_reducible first | refine T_drw ?_ | refine T_bx fun _ => ?_ | refine s_al fun _ => ?_)); (try simp (disch := first | omega | assumption | ((repeat (first | exact mem_h | exact Up.here | apply mem_t | apply Up.there)); first | done | fail) | (simp; first | done | omega | fail)) [p_addS])))
  refine T_cv ent_octet_Put (fun w' hw' => Put_ok w' _ _) ?_
  (have hQq := trivial; repeat ((first | clear hQq | (with_reducible first | refine T_drw ?_ | refine T_bx fun _ => ?_ | refine s_al fun _ => ?_)); (try simp (disch := first | omega | assumption | ((repeat (first | exact mem_h | exact Up.here | apply mem_t | apply Up.there)); first | done | fail) | (simp; first | done | omega | fail)) [p_addS])))
  refine T_copyS (o := 0) (s := z38) (by ((repeat (first | exact mem_h | exact Up.here | exact Sel.here | apply mem_t | apply Up.there | apply Sel.there)); first | done | fail)) (by omega) (by omega) ?_
  (have hQq := trivial; repeat ((first | clear hQq | (with_reducible first | refine T_drw ?_ | refine T_bx fun _ => ?_ | refine s_al fun _ => ?_)); (try simp (disch := first | omega | assumption | ((repeat (first | exact mem_h | exact Up.here | apply mem_t | apply Up.there)); first | done | fail) | (simp; first | done | omega | fail)) [i6])))
  refine T_copyS (o := 6) (s := putB z38 0 (putV (k.v * 256 + k.proto) 2 ++ putV k.fr 2 ++ putV k.tp 2)) (by ((repeat (first | exact mem_h | exact Up.here | exact Sel.here | apply mem_t | apply Up.there | apply Sel.there)); first | done | fail)) (by omega) (by omega) ?_
  (have hQq := trivial; repeat ((first | clear hQq | (with_reducible first | refine T_drw ?_ | refine T_bx fun _ => ?_ | refine s_al fun _ => ?_)); (try simp (disch := first | omega | assumption | ((repeat (first | exact mem_h | exact Up.here | apply mem_t | apply Up.there)); first | done | fail) | (simp; first | done | omega | fail)) [i22])))
  refine T_copyS (o := 22) (s := putB (putB z38 0 (putV (k.v * 256 + k.proto) 2 ++ putV k.fr 2 ++ putV k.tp 2)) 6 k.src) (by ((repeat (first | exact mem_h | exact Up.here | exact Sel.here | apply mem_t | apply Up.there | apply Sel.there)); first | done | fail)) (by omega) (by omega) ?_
  (have hQq := trivial; repeat ((first | clear hQq | (with_reducible first | refine T_drw ?_ | refine T_bx fun _ => ?_ | refine s_al fun _ => ?_)); (try simp (disch := first | omega | assumption | ((repeat (first | exact mem_h | exact Up.here | apply mem_t | apply Up.there)); first | done | fail) | (simp; first | done | omega | fail)) [])))
  rw [s_strB (s := bytesV k) (by ((repeat (first | exact mem_h | exact Up.here | exact Sel.here | apply mem_t | apply Up.there | apply Sel.there)); first | done | fail)) _ _ s3.symm]
  exact T_ret (by simp [bytesR, ok])
end Go.Proofs.YtggakcpabomliaaGreat
namespace Go.Proofs.YtggakcpabomliaaGreat
open Go
@[simp] theorem s_fin1r {κ : Bool} {S : List Nat} {w0 : World} {H : List Res} {K : Value → WP} {t : TypeId} {z : Value} [h : TS t z] {b o : Nat} {c : Array Value} {T : TypeId} {f : Nat × Nat} (hm : Res.pt b (.cells c T f) ∈ H) :
    TW κ S w0 H (rds PR (finS [.c t (.pointer (some ⟨b, o, none⟩))]) K) = TW κ S w0 H (rdc c[o]? K (rds PR (finS [.c t (.pointer (some ⟨b, o, none⟩))]) K)) := by
  cases hc : c[o]? with
  | none => rfl
  | some v => rw [s_fin1 hm hc]; rfl
/-- a backend: its id, its weight -/
abbrev BkV := Int × Int
def encB (b : BkV) : List Value := [.int .i64 b.1, .int .i64 b.2]
/-- what stands at a place of a table -/
structure EnV where
  st : Int
  key : ByteArray
  bk : Int
  dl : Int
  deriving DecidableEq
def encE (x : EnV) : List Value := [.int .i64 x.st, .string x.key, .int .i64 x.bk, .int .i64 x.dl]
theorem eqV_sn {t u : TypeId} {n m : Nat} {z : Value} {a : Option Addr} {l c e : Nat} (h : TI PR t (.slice u) n m z) : EqV PR (e + 1) t (.slice a l c) (.slice none 0 0) a.isNone := by
  intro w
  cases a with
  | none => simp only [Op.equalIn, Sem.run_bind, h.run_und, Result.andThen_ok, Sem.run_pure, Option.isNone]
  | some a => simp only [Op.equalIn, Sem.run_bind, h.run_und, Result.andThen_ok, Sem.run_pure]; rfl
theorem eqsn {t u : TypeId} {n m : Nat} {z : Value} (h : TI PR t (.slice u) n m z) (x y : Operand) (a : Option Addr) (l c : Nat) (K : Value → WP) :
    rds PR (eqS .eql t x y (.slice a l c) (.slice none 0 0)) K = K (.bool a.isNone) := by
  funext w
  refine rds_of ?_ K
  have h1 : (eqGuard .eql t x y (.slice a l c) (.slice none 0 0)).run PR w = .ok () w := by simp [eqGuard]
  have h2 : (Op.equalIn 10000 t (.slice a l c) (.slice none 0 0)).run PR w = .ok a.isNone w := eqV_sn (e := 9999) h w
  simp [eqS, h1, binOp, Op.equal, Op.maxDepth, h2]
theorem eqsnB (x y : Operand) (a : Option Addr) (l c : Nat) (K : Value → WP) : rds PR (eqS .eql 32 x y (.slice a l c) (.slice none 0 0)) K = K (.bool a.isNone) := eqsn ty32 x y a l c K
theorem eqsnE (x y : Operand) (a : Option Addr) (l c : Nat) (K : Value → WP) : rds PR (eqS .eql 50 x y (.slice a l c) (.slice none 0 0)) K = K (.bool a.isNone) := eqsn ty50 x y a l c K
theorem CloneB_ok (w : World) (v : Value) (n : Nat) (xs : List Value) (hn : n ≤ 1000000) (hx : xs.length = n * 2) (hp : xs.all plain = true) (hv : Rd1 w v n xs) :
    Fn PR NoX 70 #[v] w (Rn [] w (fun r u => u = r) fun r => [.own 103 2 r n xs]) := by
  obtain ⟨a, c, rfl, hr⟩ := hv.form
  refine mk_slices_Clone_api_Backend_api_Backend (TW.go (κ := false) (S := []) ?_)
  unfold sh_slices_Clone_api_Backend_api_Backend
  cases a with
  | none =>
    obtain rfl : n = 0 := by
      rcases Nat.eq_zero_or_pos n with h | h
      · exact h
      · obtain ⟨_, _, h, _⟩ := hr h; cases h
    obtain rfl : xs = [] := List.length_eq_zero_iff.1 (by omega)
    (have hQq := trivial; repeat ((first | clear hQq | (with_reducible first | refine T_drw ?_ | refine T_bx fun _ => ?_ | refine s_al fun _ => ?_ | refine s_bs0 fun _ => ?_ | refine s_bs1 (hK := fun _ => ?_) | refine s_bs2 (hK := fun _ => ?_) | refine s_bs3 (hK := fun _ => ?_) | refine s_bs5 (hK := fun _ => ?_) | refine s_bs6 (hK := fun _ => ?_))); (try simp (disch := first | omega | assumption | ((repeat (first | exact mem_h | exact Up.here | apply mem_t | apply Up.there)); first | done | fail) | (simp; first | done | omega | fail)) [eqsnB])))
    refine T_nil 103 2 ?_
    exact T_retn (.slice none 0 0) rfl (by simp)
  | some a =>
    (have hQq := trivial; repeat ((first | clear hQq | (with_reducible first | refine T_drw ?_ | refine T_bx fun _ => ?_ | refine s_al fun _ => ?_ | refine s_bs0 fun _ => ?_ | refine s_bs1 (hK := fun _ => ?_) | refine s_bs2 (hK := fun _ => ?_) | refine s_bs3 (hK := fun _ => ?_) | refine s_bs5 (hK := fun _ => ?_) | refine s_bs6 (hK := fun _ => ?_))); (try simp (disch := first | omega | assumption | ((repeat (first | exact mem_h | exact Up.here | apply mem_t | apply Up.there)); first | done | fail) | (simp; first | done | omega | fail)) [eqsnB])))
    refine s_app (by ((repeat (first | exact mem_h | exact Up.here | exact Sel.here | apply mem_t | apply Up.there | apply Sel.there)); first | done | fail)) (RdT.old0 hv) (by decide) hx hp (by simp only [maxLen]; omega) (by omega) fun a' c' => ?_
    simp only [Nat.zero_add, List.nil_append]
    exact T_rets _ rfl (by ((repeat (first | exact Sels.nil | (apply Sels.cons; · ((repeat (first | exact mem_h | exact Up.here | exact Sel.here | apply mem_t | apply Up.there | apply Sel.there)); first | done | fail)))); first | done | fail))
theorem CloneE_ok (w : World) (v : Value) (n : Nat) (xs : List Value) (hn : n ≤ 1000000) (hx : xs.length = n * 4) (hp : xs.all plain = true) (hv : Rd1 w v n xs) :
    Fn PR NoX 71 #[v] w (Rn [] w (fun r u => u = r) fun r => [.own 71 4 r n xs]) := by
  obtain ⟨a, c, rfl, hr⟩ := hv.form
  refine mk_slices_Clone_api_Entry_api_Entry (TW.go (κ := false) (S := []) ?_)
  unfold sh_slices_Clone_api_Entry_api_Entry
  cases a with
  | none =>
    obtain rfl : n = 0 := by
      rcases Nat.eq_zero_or_pos n with h | h
      · exact h
      · obtain ⟨_, _, h, _⟩ := hr h; cases h
    obtain rfl : xs = [] := List.length_eq_zero_iff.1 (by omega)
    (have hQq := trivial; repeat ((first | clear hQq | (with_reducible first | refine T_drw ?_ | refine T_bx fun _ => ?_ | refine s_al fun _ => ?_ | refine s_bs0 fun _ => ?_ | refine s_bs1 (hK := fun _ => ?_) | refine s_bs2 (hK := fun _ => ?_) | refine s_bs3 (hK := fun _ => ?_) | refine s_bs5 (hK := fun _ => ?_) | refine s_bs6 (hK := fun _ => ?_))); (try simp (disch := first | omega | assumption | ((repeat (first | exact mem_h | exact Up.here | apply mem_t | apply Up.there)); first | done | fail) | (simp; first | done | omega | fail)) [eqsnE])))
    refine T_nil 71 4 ?_
    exact T_retn (.slice none 0 0) rfl (by simp)
  | some a =>
    (have hQq := trivial; repeat ((first | clear hQq | (with_reducible first | refine T_drw ?_ | refine T_bx fun _ => ?_ | refine s_al fun _ => ?_ | refine s_bs0 fun _ => ?_ | refine s_bs1 (hK := fun _ => ?_) | refine s_bs2 (hK := fun _ => ?_) | refine s_bs3 (hK := fun _ => ?_) | refine s_bs5 (hK := fun _ => ?_) | refine s_bs6 (hK := fun _ => ?_))); (try simp (disch := first | omega | assumption | ((repeat (first | exact mem_h | exact Up.here | apply mem_t | apply Up.there)); first | done | fail) | (simp; first | done | omega | fail)) [eqsnE])))
    refine s_app (by ((repeat (first | exact mem_h | exact Up.here | exact Sel.here | apply mem_t | apply Up.there | apply Sel.there)); first | done | fail)) (RdT.old0 hv) (by decide) hx hp (by simp only [maxLen]; omega) (by omega) fun a' c' => ?_
    simp only [Nat.zero_add, List.nil_append]
    exact T_rets _ rfl (by ((repeat (first | exact Sels.nil | (apply Sels.cons; · ((repeat (first | exact mem_h | exact Up.here | exact Sel.here | apply mem_t | apply Up.there | apply Sel.there)); first | done | fail)))); first | done | fail))
theorem pre_eq {α : Type} {l m : List α} (hl : l.length = m.length) (h : ∀ j, j < l.length → l[j]? = m[j]?) : l = m := List.ext_getElem? fun i => by
  by_cases hi : i < l.length
  · exact h i hi
  · rw [List.getElem?_eq_none (by omega), List.getElem?_eq_none (by omega)]
def idxV {α : Type} (p : α → Bool) (l : List α) : Int := match l.findIdx? p with | some i => i | none => -1
theorem idxV_some {α : Type} {p : α → Bool} {l : List α} {i : Nat} {x : α} (hx : l[i]? = some x) (hp : p x = true) (h : ∀ j y, j < i → l[j]? = some y → p y = false) : idxV p l = i := by
  have : l.findIdx? p = some i := by
    rw [List.findIdx?_eq_some_iff_getElem]
    obtain ⟨hi, e⟩ := List.getElem?_eq_some_iff.1 hx
    exact ⟨hi, by rw [e]; exact hp, fun j hj => by rw [h j l[j] hj (List.getElem?_eq_getElem (by omega))]; simp⟩
  simp [idxV, this]
theorem idxV_none {α : Type} {p : α → Bool} {l : List α} (h : ∀ (j : Nat) y, l[j]? = some y → p y = false) : idxV p l = -1 := by
  have : l.findIdx? p = none := by
    rw [List.findIdx?_eq_none_iff]; intro x hx; obtain ⟨i, hi, rfl⟩ := List.getElem_of_mem hx; exact h i _ (List.getElem?_eq_getElem hi)
  simp [idxV, this]
theorem IndexFuncB_ok (w : World) (v : Value) (l : List BkV) (p : BkV → Bool) (f : FuncId) (cap : List Value) (hn : l.length ≤ 1000000) (hv : Rd1 w v l.length (l.flatMap encB)) (he : Enters PR f)
    (hf : ∀ w', KS false [] w w' → ∀ x : BkV, Fn PR NoX f (.agg #[.int .i64 x.1, .int .i64 x.2] :: cap).toArray w' (fun r w'' => r = .bool (p x) ∧ But [] w' w'')) :
    Fn PR NoX 86 #[v, .func (.func f) #[] cap.toArray] w (fun r w' => r = .int .i64 (idxV p l) ∧ But [] w w') := by
  refine Fn.pure (mk_slices_IndexFunc_api_Backend_api_Backend (TW.go (κ := false) (S := []) ?_))
  unfold sh_slices_IndexFunc_api_Backend_api_Backend
  obtain ⟨a, c, rfl, hr⟩ := hv.form
  (have hQq := trivial; repeat ((first | clear hQq | (with_reducible first | refine T_drw ?_ | refine T_bx fun _ => ?_ | refine s_al fun _ => ?_ | refine s_bs0 fun _ => ?_ | refine s_bs1 (hK := fun _ => ?_) | refine s_bs2 (hK := fun _ => ?_) | refine s_bs3 (hK := fun _ => ?_) | refine s_bs5 (hK := fun _ => ?_) | refine s_bs6 (hK := fun _ => ?_))); (try simp (disch := first | omega | assumption | ((repeat (first | exact mem_h | exact Up.here | apply mem_t | apply Up.there)); first | done | fail) | (simp; first | done | omega | fail)) [])))
  refine T_for1 (α := Unit) l.length (fun _ _ => .int .i64 0) (fun _ _ => []) (fun i _ => ∀ j y, j < i → l[j]? = some y → p y = false) () (by intro j _ hj; omega) ?_
  rintro i _ hi hpre L hL
  by_cases hlt : i < l.length
  · obtain ⟨b, o, rfl, hrow⟩ := hr (by omega)
    obtain ⟨x, hx⟩ : ∃ x, l[i]? = some x := ⟨_, List.getElem?_eq_getElem (by omega)⟩
    have h1 := hrow.at (f := encB) (k := 2) (fun _ => rfl) hx
    rw [encB] at h1
    (have hQq := trivial; repeat ((first | clear hQq | (with_reducible first | refine T_drw ?_ | refine T_bx fun _ => ?_ | refine s_al fun _ => ?_ | refine s_bs0 fun _ => ?_ | refine s_bs1 (hK := fun _ => ?_) | refine s_bs2 (hK := fun _ => ?_) | refine s_bs3 (hK := fun _ => ?_) | refine s_bs5 (hK := fun _ => ?_) | refine s_bs6 (hK := fun _ => ?_))); (try simp (disch := first | omega | assumption | ((repeat (first | exact mem_h | exact Up.here | apply mem_t | apply Up.there)); first | done | fail) | (simp; first | done | omega | fail)) [hlt, h1])))
    refine T_c0 he (φ := fun r => r = .bool (p x)) (fun w' hw' => by simpa using hf w' hw'.ks x) ?_
    rintro _ rfl
    cases hb : p x with
    | true =>
      (have hQq := trivial; repeat ((first | clear hQq | (with_reducible first | refine T_drw ?_ | refine T_bx fun _ => ?_ | refine s_al fun _ => ?_ | refine s_bs0 fun _ => ?_ | refine s_bs1 (hK := fun _ => ?_) | refine s_bs2 (hK := fun _ => ?_) | refine s_bs3 (hK := fun _ => ?_) | refine s_bs5 (hK := fun _ => ?_) | refine s_bs6 (hK := fun _ => ?_))); (try simp (disch := first | omega | assumption | ((repeat (first | exact mem_h | exact Up.here | apply mem_t | apply Up.there)); first | done | fail) | (simp; first | done | omega | fail)) [])))
      exact T_ret (by rw [idxV_some hx hb hpre])
    | false =>
      (have hQq := trivial; repeat ((first | clear hQq | (with_reducible first | refine T_drw ?_ | refine T_bx fun _ => ?_ | refine s_al fun _ => ?_ | refine s_bs0 fun _ => ?_ | refine s_bs1 (hK := fun _ => ?_) | refine s_bs2 (hK := fun _ => ?_) | refine s_bs3 (hK := fun _ => ?_) | refine s_bs5 (hK := fun _ => ?_) | refine s_bs6 (hK := fun _ => ?_))); (try simp (disch := first | omega | assumption | ((repeat (first | exact mem_h | exact Up.here | apply mem_t | apply Up.there)); first | done | fail) | (simp; first | done | omega | fail)) [])))
      refine Sels.tw .nil (hL hlt () ?_)
      intro j y hj hy
      by_cases hji : j = i
      · subst hji; rw [hx] at hy; cases hy; exact hb
      · exact hpre j y (by omega) hy
  · obtain rfl : i = l.length := by omega
    (have hQq := trivial; repeat ((first | clear hQq | (with_reducible first | refine T_drw ?_ | refine T_bx fun _ => ?_ | refine s_al fun _ => ?_ | refine s_bs0 fun _ => ?_ | refine s_bs1 (hK := fun _ => ?_) | refine s_bs2 (hK := fun _ => ?_) | refine s_bs3 (hK := fun _ => ?_) | refine s_bs5 (hK := fun _ => ?_) | refine s_bs6 (hK := fun _ => ?_))); (try simp (disch := first | omega | assumption | ((repeat (first | exact mem_h | exact Up.here | apply mem_t | apply Up.there)); first | done | fail) | (simp; first | done | omega | fail)) [])))
    exact T_ret (by rw [idxV_none fun j y hy => hpre j y (List.getElem?_eq_some_iff.1 hy).1 hy])
theorem IndexFunc2_ok (w : World) (v : Value) (l : List (Int × Int)) (p : Int × Int → Bool) (f : FuncId) (cap : List Value) (hn : l.length ≤ 1000000) (hv : Rd1 w v l.length (l.flatMap encB)) (he : Enters PR f)
    (hf : ∀ w', KS false [] w w' → ∀ x : Int × Int, Fn PR NoX f (.agg #[.int .i64 x.1, .int .i64 x.2] :: cap).toArray w' (fun r w'' => r = .bool (p x) ∧ But [] w' w'')) :
    Fn PR NoX 169 #[v, .func (.func f) #[] cap.toArray] w (fun r w' => r = .int .i64 (idxV p l) ∧ But [] w w') := by
  refine Fn.pure (mk_slices_IndexFunc_2_int_2_int (TW.go (κ := false) (S := []) ?_))
  unfold sh_slices_IndexFunc_2_int_2_int
  obtain ⟨a, c, rfl, hr⟩ := hv.form
  (have hQq := trivial; repeat ((first | clear hQq | (with_reducible first | refine T_drw ?_ | refine T_bx fun _ => ?_ | refine s_al fun _ => ?_ | refine s_bs0 fun _ => ?_ | refine s_bs1 (hK := fun _ => ?_) | refine s_bs2 (hK := fun _ => ?_) | refine s_bs3 (hK := fun _ => ?_) | refine s_bs5 (hK := fun _ => ?_) | refine s_bs6 (hK := fun _ => ?_))); (try simp (disch := first | omega | assumption | ((repeat (first | exact mem_h | exact Up.here | apply mem_t | apply Up.there)); first | done | fail) | (simp; first | done | omega | fail)) [])))
  refine T_for1 (α := Unit) l.length (fun _ _ => .int .i64 0) (fun _ _ => []) (fun i _ => ∀ j y, j < i → l[j]? = some y → p y = false) () (by intro j _ hj; omega) ?_
  rintro i _ hi hpre L hL
  by_cases hlt : i < l.length
  · obtain ⟨b, o, rfl, hrow⟩ := hr (by omega)
    obtain ⟨x, hx⟩ : ∃ x, l[i]? = some x := ⟨_, List.getElem?_eq_getElem (by omega)⟩
    have h1 := hrow.at (f := encB) (k := 2) (fun _ => rfl) hx
    rw [encB] at h1
    (have hQq := trivial; repeat ((first | clear hQq | (with_reducible first | refine T_drw ?_ | refine T_bx fun _ => ?_ | refine s_al fun _ => ?_ | refine s_bs0 fun _ => ?_ | refine s_bs1 (hK := fun _ => ?_) | refine s_bs2 (hK := fun _ => ?_) | refine s_bs3 (hK := fun _ => ?_) | refine s_bs5 (hK := fun _ => ?_) | refine s_bs6 (hK := fun _ => ?_))); (try simp (disch := first | omega | assumption | ((repeat (first | exact mem_h | exact Up.here | apply mem_t | apply Up.there)); first | done | fail) | (simp; first | done | omega | fail)) [hlt, h1])))
    refine T_c0 he (φ := fun r => r = .bool (p x)) (fun w' hw' => by simpa using hf w' hw'.ks x) ?_
    rintro _ rfl
    cases hb : p x with
    | true =>
      (have hQq := trivial; repeat ((first | clear hQq | (with_reducible first | refine T_drw ?_ | refine T_bx fun _ => ?_ | refine s_al fun _ => ?_ | refine s_bs0 fun _ => ?_ | refine s_bs1 (hK := fun _ => ?_) | refine s_bs2 (hK := fun _ => ?_) | refine s_bs3 (hK := fun _ => ?_) | refine s_bs5 (hK := fun _ => ?_) | refine s_bs6 (hK := fun _ => ?_))); (try simp (disch := first | omega | assumption | ((repeat (first | exact mem_h | exact Up.here | apply mem_t | apply Up.there)); first | done | fail) | (simp; first | done | omega | fail)) [])))
      exact T_ret (by rw [idxV_some hx hb hpre])
    | false =>
      (have hQq := trivial; repeat ((first | clear hQq | (with_reducible first | refine T_drw ?_ | refine T_bx fun _ => ?_ | refine s_al fun _ => ?_ | refine s_bs0 fun _ => ?_ | refine s_bs1 (hK := fun _ => ?_) | refine s_bs2 (hK := fun _ => ?_) | refine s_bs3 (hK := fun _ => ?_) | refine s_bs5 (hK := fun _ => ?_) | refine s_bs6 (hK := fun _ => ?_))); (try simp (disch := first | omega | assumption | ((repeat (first | exact mem_h | exact Up.here | apply mem_t | apply Up.there)); first | done | fail) | (simp; first | done | omega | fail)) [])))
      refine Sels.tw .nil (hL hlt () ?_)
      intro j y hj hy
      by_cases hji : j = i
      · subst hji; rw [hx] at hy; cases hy; exact hb
      · exact hpre j y (by omega) hy
  · obtain rfl : i = l.length := by omega
    (have hQq := trivial; repeat ((first | clear hQq | (with_reducible first | refine T_drw ?_ | refine T_bx fun _ => ?_ | refine s_al fun _ => ?_ | refine s_bs0 fun _ => ?_ | refine s_bs1 (hK := fun _ => ?_) | refine s_bs2 (hK := fun _ => ?_) | refine s_bs3 (hK := fun _ => ?_) | refine s_bs5 (hK := fun _ => ?_) | refine s_bs6 (hK := fun _ => ?_))); (try simp (disch := first | omega | assumption | ((repeat (first | exact mem_h | exact Up.here | apply mem_t | apply Up.there)); first | done | fail) | (simp; first | done | omega | fail)) [])))
    exact T_ret (by rw [idxV_none fun j y hy => hpre j y (List.getElem?_eq_some_iff.1 hy).1 hy])
theorem idxV_geq {α : Type} (p : α → Bool) (l : List α) : decide (0 ≤ idxV p l) = l.any p := by
  unfold idxV
  cases h : l.findIdx? p with
  | none =>
    have := List.findIdx?_eq_none_iff.1 h
    rw [Bool.eq_iff_iff]; simp [List.any_eq_true]; intro x hx; have := this x hx; simp_all
  | some i =>
    obtain ⟨hi, h1, _⟩ := List.findIdx?_eq_some_iff_getElem.1 h
    rw [Bool.eq_iff_iff]; simp only [List.any_eq_true, decide_eq_true_eq]
    exact ⟨fun _ => ⟨_, List.getElem_mem hi, h1⟩, fun _ => by omega⟩
theorem ContainsFunc2_ok (w : World) (v : Value) (l : List (Int × Int)) (p : Int × Int → Bool) (f : FuncId) (cap : List Value) (hn : l.length ≤ 1000000) (hv : Rd1 w v l.length (l.flatMap encB)) (he : Enters PR f)
    (hf : ∀ w', KS false [] w w' → ∀ x : Int × Int, Fn PR NoX f (.agg #[.int .i64 x.1, .int .i64 x.2] :: cap).toArray w' (fun r w'' => r = .bool (p x) ∧ But [] w' w'')) :
    Fn PR NoX 129 #[v, .func (.func f) #[] cap.toArray] w (fun r w' => r = .bool (l.any p) ∧ But [] w w') := by
  refine Fn.pure (mk_slices_ContainsFunc_2_int_2_int (TW.go (κ := false) (S := []) ?_))
  unfold sh_slices_ContainsFunc_2_int_2_int
  refine T_cv ent_slices_IndexFunc_2_int_2_int (fun w' hw' => IndexFunc2_ok w' v l p f cap hn (hv.ks hw'.ks (by simp)) he fun w2 h => hf w2 (hw'.ks.trans h)) ?_
  (have hQq := trivial; repeat ((first | clear hQq | (with_reducible first | refine T_drw ?_ | refine T_bx fun _ => ?_ | refine s_al fun _ => ?_ | refine s_bs0 fun _ => ?_ | refine s_bs1 (hK := fun _ => ?_) | refine s_bs2 (hK := fun _ => ?_) | refine s_bs3 (hK := fun _ => ?_) | refine s_bs5 (hK := fun _ => ?_) | refine s_bs6 (hK := fun _ => ?_))); (try simp (disch := first | omega | assumption | ((repeat (first | exact mem_h | exact Up.here | apply mem_t | apply Up.there)); first | done | fail) | (simp; first | done | omega | fail)) [])))
  exact T_ret (by rw [idxV_geq])
end Go.Proofs.YtggakcpabomliaaGreat
namespace Go.Proofs.YtggakcpabomliaaGreat
open Go
def sh_fnv_Sum (X : Nat → Prop) (t0 : Value) (R : Value → WP) : WP :=
  cal PR X 90 [(.int .u64 14695981039346656037), t0] fun t4 =>
  R t4
theorem sh_fnv_Sum_eq (X : Nat → Prop) (t0 : Value) (R : Value → WP) : vcFun PR X Tryz.f39 [t0] R = sh_fnv_Sum X t0 R := by kernel_rfl
theorem ent_fnv_Sum : Enters PR 39 := enters_of Tryz.func39 (by kernel_rfl) rfl
theorem mk_fnv_Sum {X : Nat → Prop} {t0 : Value} {R : Value → WP} {w : World} (h : sh_fnv_Sum X t0 R w) : Fn PR X 39 #[t0] w R := fn_of_vc (args := [t0]) mixed Tryz.func39 (by rw [sh_fnv_Sum_eq]; exact h)
def sh_fnv_Join (X : Nat → Prop) (t0 t1 : Value) (R : Value → WP) : WP :=
  lou PR X (Instr.alloc 200 true (.tuple #[])) fun t5 =>
  lou PR X (Instr.alloc 202 true (.tuple #[])) fun t6 =>
  sto PR X (Instr.storeAt 200 t5 (.func (.func 138) #[] #[])) <|
  sto PR X (Instr.storeAt 202 t6 t0) <|
  jn (n := 0) (
  rds PR (Instr.loadAt 202 t6) fun t16 =>
  unw (R t16)) fun J1 =>
  cal PR X 139 [t1] fun t10 =>
  rng (N := 1) PR X (fun t11 K2 =>
  bgn <|
  rds PR (Instr.loadAt 200 t5) fun t12 =>
  rds PR (Instr.loadAt 202 t6) fun t13 =>
  cav PR (fun _ => False) t12 [t13, t11] fun t15 =>
  sto PR (fun _ => False) (Instr.storeAt 202 t6 t15) <|
  K2 none) t10 (fun j => match j with | none => (J1) | some (.exit i) => (match Nat.beq i 0 with | true => (J1) | false => (nowp)) | some .ret => (unw (R (.int .u64 0))) | some _ => nowp)
theorem sh_fnv_Join_eq (X : Nat → Prop) (t0 t1 : Value) (R : Value → WP) : vcFun PR X Tryz.f90 [t0, t1] R = sh_fnv_Join X t0 t1 R := by kernel_rfl
theorem ent_fnv_Join : Enters PR 90 := enters_of Tryz.func90 (by kernel_rfl) rfl
theorem mk_fnv_Join {X : Nat → Prop} {t0 t1 : Value} {R : Value → WP} {w : World} (h : sh_fnv_Join X t0 t1 R w) : Fn PR X 90 #[t0, t1] w R := fn_of_vc (args := [t0, t1]) mixed Tryz.func90 (by rw [sh_fnv_Join_eq]; exact h)
def sh_fnv_hash_on (X : Nat → Prop) (t0 t1 : Value) (R : Value → WP) : WP :=
  pur PR (convert 5 202 t1) fun t7 =>
  pur PR (binOp .xor 202 t0 t7) fun t8 =>
  pur PR (binOp .mul 202 t8 (.int .u64 1099511628211)) fun t9 =>
  R t9
theorem sh_fnv_hash_on_eq (X : Nat → Prop) (t0 t1 : Value) (R : Value → WP) : vcFun PR X Tryz.f138 [t0, t1] R = sh_fnv_hash_on X t0 t1 R := by kernel_rfl
theorem ent_fnv_hash_on : Enters PR 138 := enters_of Tryz.func138 (by kernel_rfl) rfl
theorem mk_fnv_hash_on {X : Nat → Prop} {t0 t1 : Value} {R : Value → WP} {w : World} (h : sh_fnv_hash_on X t0 t1 R w) : Fn PR X 138 #[t0, t1] w R := fn_of_vc (args := [t0, t1]) mixed Tryz.func138 (by rw [sh_fnv_hash_on_eq]; exact h)
def sh_fnv_each (X : Nat → Prop) (t0 : Value) (R : Value → WP) : WP :=
  lou PR X (Instr.box 9 t0) fun t1 =>
  pur PR (Instr.makeFunc (.func 178) #[] #[t1]) fun t3 =>
  R t3
theorem sh_fnv_each_eq (X : Nat → Prop) (t0 : Value) (R : Value → WP) : vcFun PR X Tryz.f139 [t0] R = sh_fnv_each X t0 R := by kernel_rfl
theorem ent_fnv_each : Enters PR 139 := enters_of Tryz.func139 (by kernel_rfl) rfl
theorem mk_fnv_each {X : Nat → Prop} {t0 : Value} {R : Value → WP} {w : World} (h : sh_fnv_each X t0 R w) : Fn PR X 139 #[t0] w R := fn_of_vc (args := [t0]) mixed Tryz.func139 (by rw [sh_fnv_each_eq]; exact h)
def sh_fnv_each_c1 (X : Nat → Prop) (t0 t1 : Value) (R : Value → WP) : WP :=
  rds PR (Instr.loadAt 9 t1) fun t4 =>
  pur PR (builtinS .len #[9] 0 [t4]) fun t5 =>
  lp (n := 1) (fun L1 t6 =>
  pur PR (binOp .lss 3 t6 t5) fun t7 =>
  jn (n := 0) (
  jn (n := 0) (
  pur PR (binOp .add 3 t6 (.int .i64 1)) fun t15 =>
  L1 t15) fun J2 =>
  rds PR (Instr.loadAt 9 t1) fun t10 =>
  pur PR (Instr.index 9 t10 t6) fun t12 =>
  cav PR X t0 [t12] fun t13 =>
  pur PR (Op.unary .not t13) fun t14 =>
  cnd t14 (
  R (.tuple #[])) (
  J2)) fun J3 =>
  cnd t7 (
  J3) (
  R (.tuple #[]))) (.int .i64 0)
theorem sh_fnv_each_c1_eq (X : Nat → Prop) (t0 t1 : Value) (R : Value → WP) : vcFun PR X Tryz.f178 [t0, t1] R = sh_fnv_each_c1 X t0 t1 R := by kernel_rfl
theorem ent_fnv_each_c1 : Enters PR 178 := enters_of Tryz.func178 (by kernel_rfl) rfl
theorem mk_fnv_each_c1 {X : Nat → Prop} {t0 t1 : Value} {R : Value → WP} {w : World} (h : sh_fnv_each_c1 X t0 t1 R w) : Fn PR X 178 #[t0, t1] w R := fn_of_vc (args := [t0, t1]) mixed Tryz.func178 (by rw [sh_fnv_each_c1_eq]; exact h)
theorem ce_fnv_each_c1 {X : Nat → Prop} {t0 t1 : Value} {K : Value → WP} {w : World} (h : Fn PR X 178 #[t0, t1] w K) : calE PR X 178 [t0, t1] K w := ⟨ent_fnv_each_c1, h⟩
end Go.Proofs.YtggakcpabomliaaGreat
namespace Go.Proofs.YtggakcpabomliaaGreat
open Go
def fnvN (h b : Nat) : Nat := ((h ^^^ b) * 1099511628211) % 18446744073709551616
def fnvI (h : Nat) (s : ByteArray) : Nat → Nat
  | 0 => h
  | i + 1 => fnvN (fnvI h s i) (byteAt s i)
def fnvJ (h : Nat) (s : ByteArray) : Nat := fnvI h s s.size
def fnvS (s : ByteArray) : Nat := fnvJ 14695981039346656037 s
theorem fnvN_lt (h b : Nat) : fnvN h b < 2 ^ 64 := by unfold fnvN; omega
theorem fnvI_lt {h : Nat} (hh : h < 2 ^ 64) (s : ByteArray) (i : Nat) : fnvI h s i < 2 ^ 64 := by
  cases i with
  | zero => exact hh
  | succ i => exact fnvN_lt _ _
theorem on_ok (w : World) (h b : Nat) (hh : h < 2 ^ 64) (hb : b < 256) : Fn PR NoX 138 #[.int .u64 (h : Int), .int .u8 (b : Int)] w (fun v w' => v = .int .u64 (fnvN h b : Nat) ∧ But [] w w') := by
  refine Fn.pure (mk_fnv_hash_on (TW.go (κ := false) (S := []) ?_))
  unfold sh_fnv_hash_on
  (have hQq := trivial; repeat ((first | clear hQq | (with_reducible first | refine T_drw ?_ | refine T_bx fun _ => ?_ | refine s_al fun _ => ?_)); (try simp (disch := first | omega | assumption | ((repeat (first | exact mem_h | exact Up.here | apply mem_t | apply Up.there)); first | done | fail) | (simp; first | done | omega | fail)) [])))
  have e1 : (h % 2 ^ IntKind.u64.bits ^^^ b % 2 ^ IntKind.u64.bits) = h ^^^ b := by rw [show (2 : Nat) ^ IntKind.u64.bits = 2 ^ 64 from rfl, Nat.mod_eq_of_lt hh, Nat.mod_eq_of_lt (by omega)]
  have e2 : h ^^^ b < 2 ^ 64 := Nat.xor_lt_two_pow hh (by omega)
  rw [e1, wrapu64 (n := ((h ^^^ b : Nat) : Int)) (by omega) (by omega)]
  refine T_ret ?_
  have e3 : IntKind.u64.wrap (((h ^^^ b : Nat) : Int) * 1099511628211) = (fnvN h b : Nat) := by
    simp only [IntKind.wrap, IntKind.bits, IntKind.signed, fnvN]
    simp
  rw [e3]
abbrev eachF (b : Nat) : Value := .func (.func 178) #[] #[.pointer (some ⟨b, 0, none⟩)]
theorem each_ok (w : World) (s : ByteArray) : Fn PR NoX 139 #[.string s] w (Rn [] w (fun b v => v = eachF b) fun b => [.pt b (.cells #[.string s] 9)]) := by
  refine mk_fnv_each (TW.go (κ := false) (S := []) ?_)
  unfold sh_fnv_each
  (have hQq := trivial; repeat ((first | clear hQq | (with_reducible first | refine T_drw ?_ | refine T_bx fun _ => ?_ | refine s_al fun _ => ?_)); (try simp (disch := first | omega | assumption | ((repeat (first | exact mem_h | exact Up.here | apply mem_t | apply Up.there)); first | done | fail) | (simp; first | done | omega | fail)) [])))
  rename_i b
  exact T_retn b rfl (by simp)
def byteL (s : ByteArray) (i : Nat) : List Value := [.int .u8 (byteAt s i : Nat)]
theorem each_it (b : Nat) (s : ByteArray) (hs : s.size < 2 ^ 60) : IterT (eachF b) [.pt b (.cells #[.string s] 9)] (fun _ _ => True) ((List.range s.size).map (byteL s)) := by
  refine ⟨_, _, _, rfl, fun l J E hJ hE stJ stE hy w0 h0 => ?_⟩
  refine ce_fnv_each_c1 (mk_fnv_each_c1 (TW.at (κ := true) ?_ (hJ _ _ _ h0).1))
  unfold sh_fnv_each_c1
  (have hQq := trivial; repeat ((first | clear hQq | (with_reducible first | refine T_drw ?_ | refine T_bx fun _ => ?_ | refine s_al fun _ => ?_)); (try simp (disch := first | omega | assumption | ((repeat (first | exact mem_h | exact Up.here | apply mem_t | apply Up.there)); first | done | fail) | (simp; first | done | omega | fail)) [])))
  refine T_forJ s.size (fun i => i) (fun _ => _) hJ stJ h0 fun i a hi hJi _ L hL => ?_
  by_cases hlt : i < s.size
  · obtain ⟨by0, hb0, hb1⟩ := byte_get (s := s) (i := i) hlt
    have hb0' : s[((i : Nat) : Int).toNat]? = some by0 := by rw [Int.toNat_natCast]; exact hb0
    (have hQq := trivial; repeat ((first | clear hQq | (with_reducible first | refine T_drw ?_ | refine T_bx fun _ => ?_ | refine s_al fun _ => ?_)); (try simp (disch := first | omega | assumption | ((repeat (first | exact mem_h | exact Up.here | apply mem_t | apply Up.there)); first | done | fail) | (simp; first | done | omega | fail)) [hlt, i_is_9])))
    rw [hb1]
    refine T_yie hJ hE stJ hy hJi (by simpa using hlt) (by simp [byteL]) (fun w3 h => ?_) (fun w3 h => ?_)
    · (have hQq := trivial; repeat ((first | clear hQq | (with_reducible first | refine T_drw ?_ | refine T_bx fun _ => ?_ | refine s_al fun _ => ?_)); (try simp (disch := first | omega | assumption | ((repeat (first | exact mem_h | exact Up.here | apply mem_t | apply Up.there)); first | done | fail) | (simp; first | done | omega | fail)) [])))
      exact fun w' hw' => hL hlt w' (stJ _ _ _ _ _ h hw')
    · (have hQq := trivial; repeat ((first | clear hQq | (with_reducible first | refine T_drw ?_ | refine T_bx fun _ => ?_ | refine s_al fun _ => ?_)); (try simp (disch := first | omega | assumption | ((repeat (first | exact mem_h | exact Up.here | apply mem_t | apply Up.there)); first | done | fail) | (simp; first | done | omega | fail)) [])))
      exact T_endE stE h
  · obtain rfl : i = s.size := by omega
    (have hQq := trivial; repeat ((first | clear hQq | (with_reducible first | refine T_drw ?_ | refine T_bx fun _ => ?_ | refine s_al fun _ => ?_)); (try simp (disch := first | omega | assumption | ((repeat (first | exact mem_h | exact Up.here | apply mem_t | apply Up.there)); first | done | fail) | (simp; first | done | omega | fail)) [])))
    exact T_endJ stJ (by simpa using hJi)
theorem Join_ok (w : World) (h : Nat) (s : ByteArray) (hh : h < 2 ^ 64) (hs : s.size < 2 ^ 60) : Fn PR NoX 90 #[.int .u64 (h : Int), .string s] w (fun v w' => v = .int .u64 (fnvJ h s : Nat) ∧ But [] w w') := by
  refine Fn.pure (mk_fnv_Join (TW.go (κ := false) (S := []) ?_))
  unfold sh_fnv_Join
  (have hQq := trivial; repeat ((first | clear hQq | (with_reducible first | refine T_drw ?_ | refine T_bx fun _ => ?_ | refine s_al fun _ => ?_)); (try simp (disch := first | omega | assumption | ((repeat (first | exact mem_h | exact Up.here | apply mem_t | apply Up.there)); first | done | fail) | (simp; first | done | omega | fail)) [])))
  rename_i bf bx
  refine T_cn ent_fnv_each (fun w' _ => each_ok w' s) ?_
  rintro b v rfl
  refine T_rng (each_it b s hs) (by simp [byteL]) (fun _ (_ : Unit) => True) (fun i _ => [.pt bx (.cells #[.int .u64 ((fnvI h s i : Nat) : Int)] 202), .pt bf (.cells #[.func (.func 138) #[] #[]] 200)])
    (fun _ (_ : Unit) => False) (fun _ => []) () trivial ?_ ?_ ?_ ?_ (by simp [fnvI])
  · intros; trivial
  · rintro i hi _ F _ K' hK _
    simp only [List.getElem_map, List.getElem_range, byteL, VF.app]
    (have hQq := trivial; repeat ((first | clear hQq | (with_reducible first | refine T_drw ?_ | refine T_bx fun _ => ?_ | refine s_al fun _ => ?_)); (try simp (disch := first | omega | assumption | ((repeat (first | exact mem_h | exact Up.here | apply mem_t | apply Up.there)); first | done | fail) | (simp; first | done | omega | fail)) [])))
    refine T_cv ent_fnv_hash_on (fun w' _ => on_ok w' _ _ (fnvI_lt hh s i) (byteAt_lt s i)) ?_
    (have hQq := trivial; repeat ((first | clear hQq | (with_reducible first | refine T_drw ?_ | refine T_bx fun _ => ?_ | refine s_al fun _ => ?_)); (try simp (disch := first | omega | assumption | ((repeat (first | exact mem_h | exact Up.here | apply mem_t | apply Up.there)); first | done | fail) | (simp; first | done | omega | fail)) [])))
    exact TW.eqH (by simp [fnvI]) (hK () trivial)
  · rintro _ _
    (have hQq := trivial; repeat ((first | clear hQq | (with_reducible first | refine T_drw ?_ | refine T_bx fun _ => ?_ | refine s_al fun _ => ?_)); (try simp (disch := first | omega | assumption | ((repeat (first | exact mem_h | exact Up.here | apply mem_t | apply Up.there)); first | done | fail) | (simp; first | done | omega | fail)) [])))
    exact T_ret (by simp [fnvJ])
  · rintro _ _ h; exact h.elim
theorem fnvSum_ok (w : World) (s : ByteArray) (hs : s.size < 2 ^ 60) : Fn PR NoX 39 #[.string s] w (fun v w' => v = .int .u64 (fnvS s : Nat) ∧ But [] w w') := by
  refine Fn.pure (mk_fnv_Sum (TW.go (κ := false) (S := []) ?_))
  unfold sh_fnv_Sum
  refine T_cv ent_fnv_Join (fun w' _ => Join_ok w' 14695981039346656037 s (by omega) hs) ?_
  exact T_ret rfl
end Go.Proofs.YtggakcpabomliaaGreat
namespace Go.Proofs.YtggakcpabomliaaGreat
open Go
def homeV (key : ByteArray) (n : Nat) : Nat := fnvS key % n
theorem fnvS_lt (s : ByteArray) : fnvS s < 2 ^ 64 := fnvI_lt (by omega) s _
theorem Home_ok (w : World) (key : ByteArray) (n : Nat) (hk : key.size < 2 ^ 60) (hn : n ≤ 1000000) : Fn PR NoX 132 #[.string key, .int .i64 (n : Int)] w (fun v w' => v = .int .i64 (if n = 0 then 0 else homeV key n : Nat) ∧ But [] w w') := by
  refine Fn.pure (mk_probe_Home (TW.go (κ := false) (S := []) ?_))
  unfold sh_probe_Home
  by_cases c1 : n = 0
  · have c1' : (n : Int) < 1 := by omega
    (have hQq := trivial; repeat ((first | clear hQq | (with_reducible first | refine T_drw ?_ | refine T_bx fun _ => ?_ | refine s_al fun _ => ?_)); (try simp (disch := first | omega | assumption | ((repeat (first | exact mem_h | exact Up.here | apply mem_t | apply Up.there)); first | done | fail) | (simp; first | done | omega | fail)) [c1'])))
    exact T_ret (by simp [c1])
  have c1' : ¬ (n : Int) < 1 := by omega
  have c1'' : ¬ (n : Int) = 0 := by omega
  (have hQq := trivial; repeat ((first | clear hQq | (with_reducible first | refine T_drw ?_ | refine T_bx fun _ => ?_ | refine s_al fun _ => ?_)); (try simp (disch := first | omega | assumption | ((repeat (first | exact mem_h | exact Up.here | apply mem_t | apply Up.there)); first | done | fail) | (simp; first | done | omega | fail)) [c1'])))
  refine T_cv ent_fnv_Sum (fun w' _ => fnvSum_ok w' key hk) ?_
  have hl := fnvS_lt key
  have hm : homeV key n < n := Nat.mod_lt _ (by omega)
  have e1 : ((fnvS key : Nat) : Int).tmod n = (homeV key n : Nat) := by unfold homeV; rw [Int.tmod_eq_emod_of_nonneg (by omega)]; omega
  have e2 : ((fnvS key : Nat) : Int) % n = (homeV key n : Nat) := by unfold homeV; omega
  (have hQq := trivial; repeat ((first | clear hQq | (with_reducible first | refine T_drw ?_ | refine T_bx fun _ => ?_ | refine s_al fun _ => ?_)); (try simp (disch := first | omega | assumption | ((repeat (first | exact mem_h | exact Up.here | apply mem_t | apply Up.there)); first | done | fail) | (simp; first | done | omega | fail)) [c1'', e1, p_rem])))
  exact T_ret (by simp [c1])
def noE : EnV := ⟨0, noB, 0, 0⟩
/-- a key's way: places, and what stands there -/
def wayL (l : List EnV) (key : ByteArray) : List (Nat × EnV) := (List.range l.length).map fun i => ((homeV key l.length + i) % l.length, l.getD ((homeV key l.length + i) % l.length) noE)
def wayA (p : Nat × EnV) : List Value := [.int .i64 (p.1 : Nat), .agg #[.int .i64 p.2.st, .string p.2.key, .int .i64 p.2.bk, .int .i64 p.2.dl]]
abbrev wayF (x : Nat × Nat) : Value := .func (.func 131) #[] #[.pointer (some ⟨x.1, 0, none⟩), .pointer (some ⟨x.2, 0, none⟩)]
abbrev wayH (x : Nat × Nat) (v : Value) (key : ByteArray) : List Res := [.pt x.1 (.cells #[.string key] 9), .pt x.2 (.cells #[v] 50)]
theorem way_ok (w : World) (v : Value) (key : ByteArray) (hv : ∃ a n c, v = .slice a n c) : Fn PR NoX 84 #[v, .string key] w (Rn [] w (fun x u => u = wayF x) fun x => wayH x v key) := by
  obtain ⟨a, n, c, rfl⟩ := hv
  refine mk_probe_way (TW.go (κ := false) (S := []) ?_)
  unfold sh_probe_way
  (have hQq := trivial; repeat ((first | clear hQq | (with_reducible first | refine T_drw ?_ | refine T_bx fun _ => ?_ | refine s_al fun _ => ?_)); (try simp (disch := first | omega | assumption | ((repeat (first | exact mem_h | exact Up.here | apply mem_t | apply Up.there)); first | done | fail) | (simp; first | done | omega | fail)) [])))
  rename_i b1 b2
  exact T_rets (b2, b1) rfl (by ((repeat (first | exact Sels.nil | (apply Sels.cons; · ((repeat (first | exact mem_h | exact Up.here | exact Sel.here | apply mem_t | apply Up.there | apply Sel.there)); first | done | fail)))); first | done | fail))
/-- a slice that is not the iterator's own may be read -/
def RqS (v : Value) (n : Nat) (xs : List Value) (F : List Res) (w : World) : Prop := ∃ a c, v = .slice a n c ∧ (0 < n → ∃ b o, a = some ⟨b, o, none⟩ ∧ Row w b o xs ∧ b ∉ foots F)
theorem RqS.of {v : Value} {n : Nat} {xs : List Value} {w0 w : World} {A F : List Res} (h : Rd1 w0 v n xs) (hx : 0 < n → 0 < xs.length) (hw : LW false [] w0 (A ++ F) w) : RqS v n xs F w := by
  obtain ⟨a, c, rfl, hr⟩ := h.form
  refine ⟨a, c, rfl, fun hn => ?_⟩
  obtain ⟨b, o, rfl, hrow⟩ := hr hn
  refine ⟨b, o, rfl, hw.ks.row (by simp) hrow, hw.notin_old ?_ (by simp)⟩
  have h0 := hrow 0 (hx hn)
  rw [List.getElem?_eq_getElem (hx hn)] at h0
  obtain ⟨c', t', z', h1, h2⟩ := cell_some h0
  exact bl_lt h1
theorem enE_len (l : List EnV) : (l.flatMap encE).length = l.length * 4 := by
  induction l with
  | nil => rfl
  | cons x l ih => rw [List.flatMap_cons, List.length_append, ih]; simp [encE]; omega
theorem way_it (x : Nat × Nat) (v : Value) (l : List EnV) (key : ByteArray) (hk : key.size < 2 ^ 60) (hn : l.length ≤ 1000000) : IterT (wayF x) (wayH x v key) (RqS v l.length (l.flatMap encE)) ((wayL l key).map wayA) := by
  obtain ⟨bk, bt⟩ := x
  refine ⟨_, _, _, rfl, fun y J E hJ hE stJ stE hy w0 h0 => ?_⟩
  obtain ⟨a, c, hv, hr⟩ := (hJ _ _ _ h0).2
  subst hv
  refine ce_probe_way_c1 (mk_probe_way_c1 (TW.at (κ := true) ?_ (hJ _ _ _ h0).1))
  unfold sh_probe_way_c1
  simp only [wayH]
  (have hQq := trivial; repeat ((first | clear hQq | (with_reducible first | refine T_drw ?_ | refine T_bx fun _ => ?_ | refine s_al fun _ => ?_)); (try simp (disch := first | omega | assumption | ((repeat (first | exact mem_h | exact Up.here | apply mem_t | apply Up.there)); first | done | fail) | (simp; first | done | omega | fail)) [])))
  refine T_cv ent_probe_Home (fun w' _ => Home_ok w' key l.length hk hn) ?_
  (have hQq := trivial; repeat ((first | clear hQq | (with_reducible first | refine T_drw ?_ | refine T_bx fun _ => ?_ | refine s_al fun _ => ?_)); (try simp (disch := first | omega | assumption | ((repeat (first | exact mem_h | exact Up.here | apply mem_t | apply Up.there)); first | done | fail) | (simp; first | done | omega | fail)) [])))
  refine T_forJ l.length (fun i => i) (fun _ => _) hJ stJ h0 fun i a' hi hJi hRi L hL => ?_
  by_cases hlt : i < l.length
  · obtain ⟨_, _, hv, hr⟩ := hRi
    obtain ⟨b, o, hb, hrow, hnb⟩ := hr (by omega)
    cases hv
    have hh : homeV key l.length < l.length := Nat.mod_lt _ (by omega)
    have e0 : (if l.length = 0 then 0 else homeV key l.length) = homeV key l.length := if_neg (by omega)
    have hj : (homeV key l.length + i) % l.length < l.length := Nat.mod_lt _ (by omega)
    have hx : l[(homeV key l.length + i) % l.length]? = some (l.getD ((homeV key l.length + i) % l.length) noE) := by
      rw [List.getD_eq_getElem?_getD, List.getElem?_eq_getElem hj]; rfl
    have h1 := hrow.at (f := encE) (k := 4) (fun _ => rfl) hx
    have e1 : (((homeV key l.length : Nat) : Int) + (i : Nat)).tmod l.length = ((homeV key l.length + i) % l.length : Nat) := by rw [Int.tmod_eq_emod_of_nonneg (by omega), Int.natCast_emod, Int.natCast_add]
    have hwi : ∀ h, ((wayL l key).map wayA)[i]'h = wayA ((homeV key l.length + i) % l.length, l.getD ((homeV key l.length + i) % l.length) noE) := by
      intro h; simp only [List.getElem_map, wayL, List.getElem_range]
    generalize hjd : (homeV key l.length + i) % l.length = j at *
    generalize hxd : l.getD j noE = x at *
    rw [encE] at h1
    have hnz : ¬ (l.length : Int) = 0 := by omega
    subst hb
    rw [e0]
    (have hQq := trivial; repeat ((first | clear hQq | (with_reducible first | refine T_drw ?_ | refine T_bx fun _ => ?_ | refine s_al fun _ => ?_)); (try simp (disch := first | omega | assumption | ((repeat (first | exact mem_h | exact Up.here | apply mem_t | apply Up.there)); first | done | fail) | (simp; first | done | omega | fail)) [hlt, e1, h1, hnz, p_rem])))
    refine T_yie hJ hE stJ hy hJi (by simpa [wayL] using hlt) (hwi _) (fun w3 h => ?_) (fun w3 h => ?_)
    · (have hQq := trivial; repeat ((first | clear hQq | (with_reducible first | refine T_drw ?_ | refine T_bx fun _ => ?_ | refine s_al fun _ => ?_)); (try simp (disch := first | omega | assumption | ((repeat (first | exact mem_h | exact Up.here | apply mem_t | apply Up.there)); first | done | fail) | (simp; first | done | omega | fail)) [])))
      exact fun w' hw' => hL hlt w' (stJ _ _ _ _ _ h hw')
    · (have hQq := trivial; repeat ((first | clear hQq | (with_reducible first | refine T_drw ?_ | refine T_bx fun _ => ?_ | refine s_al fun _ => ?_)); (try simp (disch := first | omega | assumption | ((repeat (first | exact mem_h | exact Up.here | apply mem_t | apply Up.there)); first | done | fail) | (simp; first | done | omega | fail)) [])))
      exact T_endE stE h
  · obtain rfl : i = l.length := by omega
    (have hQq := trivial; repeat ((first | clear hQq | (with_reducible first | refine T_drw ?_ | refine T_bx fun _ => ?_ | refine s_al fun _ => ?_)); (try simp (disch := first | omega | assumption | ((repeat (first | exact mem_h | exact Up.here | apply mem_t | apply Up.there)); first | done | fail) | (simp; first | done | omega | fail)) [])))
    exact T_endJ stJ (by simpa [wayL] using hJi)
def findW (key : ByteArray) : List (Nat × EnV) → Int
  | [] => -1
  | p :: r => if p.2.st = 0 then -1 else if p.2.st = 1 ∧ p.2.key = key then p.1 else findW key r
/-- where a key stands; -1: nowhere -/
def findE (l : List EnV) (key : ByteArray) : Int := findW key (wayL l key)
theorem drop_at {α : Type} {l : List α} {i : Nat} (h : i < l.length) : l.drop i = l[i] :: l.drop (i + 1) := List.drop_eq_getElem_cons h
theorem wayA_len (L : List (Nat × EnV)) : ∀ x ∈ L.map wayA, x.length = 2 := by
  intro x hx; obtain ⟨p, _, rfl⟩ := List.mem_map.1 hx; rfl
theorem probeFind_ok (w : World) (v : Value) (l : List EnV) (key : ByteArray) (hk : key.size < 2 ^ 60) (hn : l.length ≤ 1000000) (hv : Rd1 w v l.length (l.flatMap encE)) :
    Fn PR NoX 35 #[v, .string key] w (fun r w' => r = .int .i64 (findE l key) ∧ But [] w w') := by
  refine Fn.pure (mk_probe_Find (TW.go (κ := false) (S := []) ?_))
  unfold sh_probe_Find
  (have hQq := trivial; repeat ((first | clear hQq | (with_reducible first | refine T_drw ?_ | refine T_bx fun _ => ?_ | refine s_al fun _ => ?_)); (try simp (disch := first | omega | assumption | ((repeat (first | exact mem_h | exact Up.here | apply mem_t | apply Up.there)); first | done | fail) | (simp; first | done | omega | fail)) [])))
  rename_i bk bf
  refine T_cn ent_probe_way (fun w' _ => way_ok w' v key (by obtain ⟨a, c, rfl, _⟩ := hv.form; exact ⟨a, _, c, rfl⟩)) ?_
  rintro x u rfl
  refine T_rng (way_it x v l key hk hn) (wayA_len _) (fun i (_ : Unit) => findW key ((wayL l key).drop i) = findE l key) (fun _ _ => [.pt bf (.cells #[.int .i64 (-1)] 3), .pt bk (.cells #[.string key] 9)])
    (fun c (y : Unit) => c = .exit 0) (fun y => [.pt bf (.cells #[.int .i64 (findE l key)] 3)]) () rfl ?_ ?_ ?_ ?_ (by simp [wayH])
  · intro i _ F w1 _ hw
    exact RqS.of hv (fun h => by rw [enE_len]; omega) hw
  · rintro i hi _ F hψ K' hK hE
    have hi' : i < (wayL l key).length := by simpa using hi
    rw [drop_at hi'] at hψ
    simp only [List.getElem_map]
    generalize (wayL l key)[i] = p at *
    simp only [wayA, VF.app]
    by_cases c0 : p.2.st = 0
    · (have hQq := trivial; repeat ((first | clear hQq | (with_reducible first | refine T_drw ?_ | refine T_bx fun _ => ?_ | refine s_al fun _ => ?_)); (try simp (disch := first | omega | assumption | ((repeat (first | exact mem_h | exact Up.here | apply mem_t | apply Up.there)); first | done | fail) | (simp; first | done | omega | fail)) [c0])))
      refine TW.sub (hE (.exit 0) () rfl) ?_
      rw [← hψ]
      simp only [findW, c0, if_true]
      ((try simp only [List.cons_append, List.nil_append, List.append_assoc]); (repeat (first | exact List.Sublist.refl _ | exact List.nil_sublist _ | with_reducible apply List.Sublist.cons_cons | apply List.Sublist.cons)); first | done | fail)
    by_cases c1 : p.2.st = 1
    · by_cases c2 : p.2.key = key
      · (have hQq := trivial; repeat ((first | clear hQq | (with_reducible first | refine T_drw ?_ | refine T_bx fun _ => ?_ | refine s_al fun _ => ?_)); (try simp (disch := first | omega | assumption | ((repeat (first | exact mem_h | exact Up.here | apply mem_t | apply Up.there)); first | done | fail) | (simp; first | done | omega | fail)) [c0, c1, c2])))
        refine TW.sub (hE (.exit 0) () rfl) ?_
        rw [← hψ]
        simp [findW, c1, c2]
        ((try simp only [List.cons_append, List.nil_append, List.append_assoc]); (repeat (first | exact List.Sublist.refl _ | exact List.nil_sublist _ | with_reducible apply List.Sublist.cons_cons | apply List.Sublist.cons)); first | done | fail)
      · (have hQq := trivial; repeat ((first | clear hQq | (with_reducible first | refine T_drw ?_ | refine T_bx fun _ => ?_ | refine s_al fun _ => ?_)); (try simp (disch := first | omega | assumption | ((repeat (first | exact mem_h | exact Up.here | apply mem_t | apply Up.there)); first | done | fail) | (simp; first | done | omega | fail)) [c0, c1, c2])))
        refine TW.sub (hK () ?_) (by ((try simp only [List.cons_append, List.nil_append, List.append_assoc]); (repeat (first | exact List.Sublist.refl _ | exact List.nil_sublist _ | with_reducible apply List.Sublist.cons_cons | apply List.Sublist.cons)); first | done | fail))
        rw [← hψ]
        simp [findW, c1, c2]
    · (have hQq := trivial; repeat ((first | clear hQq | (with_reducible first | refine T_drw ?_ | refine T_bx fun _ => ?_ | refine s_al fun _ => ?_)); (try simp (disch := first | omega | assumption | ((repeat (first | exact mem_h | exact Up.here | apply mem_t | apply Up.there)); first | done | fail) | (simp; first | done | omega | fail)) [c0, c1])))
      refine TW.sub (hK () ?_) (by ((try simp only [List.cons_append, List.nil_append, List.append_assoc]); (repeat (first | exact List.Sublist.refl _ | exact List.nil_sublist _ | with_reducible apply List.Sublist.cons_cons | apply List.Sublist.cons)); first | done | fail))
      rw [← hψ]
      simp [findW, c0, c1]
  · intro _ hψ
    (have hQq := trivial; repeat ((first | clear hQq | (with_reducible first | refine T_drw ?_ | refine T_bx fun _ => ?_ | refine s_al fun _ => ?_)); (try simp (disch := first | omega | assumption | ((repeat (first | exact mem_h | exact Up.here | apply mem_t | apply Up.there)); first | done | fail) | (simp; first | done | omega | fail)) [])))
    simp only [List.length_map, List.drop_length, findW] at hψ
    exact T_ret (by rw [← hψ])
  · rintro _ _ rfl
    (have hQq := trivial; repeat ((first | clear hQq | (with_reducible first | refine T_drw ?_ | refine T_bx fun _ => ?_ | refine s_al fun _ => ?_)); (try simp (disch := first | omega | assumption | ((repeat (first | exact mem_h | exact Up.here | apply mem_t | apply Up.there)); first | done | fail) | (simp; first | done | omega | fail)) [])))
    exact T_ret rfl
def roomW : List (Nat × EnV) → Int
  | [] => -1
  | p :: r => if p.2.st = 1 then roomW r else p.1
/-- where a key may be put; -1: nowhere -/
def roomE (l : List EnV) (key : ByteArray) : Int := if 0 ≤ findE l key then -1 else roomW (wayL l key)
theorem probeRoom_ok (w : World) (v : Value) (l : List EnV) (key : ByteArray) (hk : key.size < 2 ^ 60) (hn : l.length ≤ 1000000) (hv : Rd1 w v l.length (l.flatMap encE)) :
    Fn PR NoX 164 #[v, .string key] w (fun r w' => r = .int .i64 (roomE l key) ∧ But [] w w') := by
  refine Fn.pure (mk_probe_Room (TW.go (κ := false) (S := []) ?_))
  unfold sh_probe_Room
  (have hQq := trivial; repeat ((first | clear hQq | (with_reducible first | refine T_drw ?_ | refine T_bx fun _ => ?_ | refine s_al fun _ => ?_)); (try simp (disch := first | omega | assumption | ((repeat (first | exact mem_h | exact Up.here | apply mem_t | apply Up.there)); first | done | fail) | (simp; first | done | omega | fail)) [])))
  rename_i bf
  refine T_cv ent_probe_Find (fun w' hw' => probeFind_ok w' v l key hk hn (hv.ks hw'.ks (by simp))) ?_
  by_cases c1 : 0 ≤ findE l key
  · (have hQq := trivial; repeat ((first | clear hQq | (with_reducible first | refine T_drw ?_ | refine T_bx fun _ => ?_ | refine s_al fun _ => ?_)); (try simp (disch := first | omega | assumption | ((repeat (first | exact mem_h | exact Up.here | apply mem_t | apply Up.there)); first | done | fail) | (simp; first | done | omega | fail)) [c1])))
    exact T_ret (by simp [roomE, c1])
  have e1 : roomE l key = roomW (wayL l key) := if_neg c1
  (have hQq := trivial; repeat ((first | clear hQq | (with_reducible first | refine T_drw ?_ | refine T_bx fun _ => ?_ | refine s_al fun _ => ?_)); (try simp (disch := first | omega | assumption | ((repeat (first | exact mem_h | exact Up.here | apply mem_t | apply Up.there)); first | done | fail) | (simp; first | done | omega | fail)) [c1])))
  refine T_cn ent_probe_way (fun w' _ => way_ok w' v key (by obtain ⟨a, c, rfl, _⟩ := hv.form; exact ⟨a, _, c, rfl⟩)) ?_
  rintro x u rfl
  refine T_rng (way_it x v l key hk hn) (wayA_len _) (fun i (_ : Unit) => roomW ((wayL l key).drop i) = roomE l key) (fun _ _ => [.pt bf (.cells #[.int .i64 0] 3)])
    (fun c (y : Unit) => c = .ret) (fun y => [.pt bf (.cells #[.int .i64 (roomE l key)] 3)]) () (by rw [List.drop_zero, e1]) ?_ ?_ ?_ ?_ (by simp [wayH])
  · intro i _ F w1 _ hw
    exact RqS.of hv (fun h => by rw [enE_len]; omega) hw
  · rintro i hi _ F hψ K' hK hE
    have hi' : i < (wayL l key).length := by simpa using hi
    rw [drop_at hi'] at hψ
    simp only [List.getElem_map]
    generalize (wayL l key)[i] = p at *
    simp only [wayA, VF.app]
    by_cases c1 : p.2.st = 1
    · (have hQq := trivial; repeat ((first | clear hQq | (with_reducible first | refine T_drw ?_ | refine T_bx fun _ => ?_ | refine s_al fun _ => ?_)); (try simp (disch := first | omega | assumption | ((repeat (first | exact mem_h | exact Up.here | apply mem_t | apply Up.there)); first | done | fail) | (simp; first | done | omega | fail)) [c1])))
      refine TW.sub (hK () ?_) (by ((try simp only [List.cons_append, List.nil_append, List.append_assoc]); (repeat (first | exact List.Sublist.refl _ | exact List.nil_sublist _ | with_reducible apply List.Sublist.cons_cons | apply List.Sublist.cons)); first | done | fail))
      rw [← hψ]
      simp [roomW, c1]
    · (have hQq := trivial; repeat ((first | clear hQq | (with_reducible first | refine T_drw ?_ | refine T_bx fun _ => ?_ | refine s_al fun _ => ?_)); (try simp (disch := first | omega | assumption | ((repeat (first | exact mem_h | exact Up.here | apply mem_t | apply Up.there)); first | done | fail) | (simp; first | done | omega | fail)) [c1])))
      refine TW.sub (hE .ret () rfl) ?_
      rw [← hψ]
      simp only [roomW, c1, if_false]
      ((try simp only [List.cons_append, List.nil_append, List.append_assoc]); (repeat (first | exact List.Sublist.refl _ | exact List.nil_sublist _ | with_reducible apply List.Sublist.cons_cons | apply List.Sublist.cons)); first | done | fail)
  · intro _ hψ
    (have hQq := trivial; repeat ((first | clear hQq | (with_reducible first | refine T_drw ?_ | refine T_bx fun _ => ?_ | refine s_al fun _ => ?_)); (try simp (disch := first | omega | assumption | ((repeat (first | exact mem_h | exact Up.here | apply mem_t | apply Up.there)); first | done | fail) | (simp; first | done | omega | fail)) [])))
    simp only [List.length_map, List.drop_length, roomW] at hψ
    exact T_ret (by rw [← hψ])
  · rintro _ _ rfl
    (have hQq := trivial; repeat ((first | clear hQq | (with_reducible first | refine T_drw ?_ | refine T_bx fun _ => ?_ | refine s_al fun _ => ?_)); (try simp (disch := first | omega | assumption | ((repeat (first | exact mem_h | exact Up.here | apply mem_t | apply Up.there)); first | done | fail) | (simp; first | done | omega | fail)) [])))
    exact T_ret rfl
theorem Countc1_ok (w : World) (x : EnV) (st : Int) (b : Nat) (hb : w.cell? ⟨b, 0, none⟩ = some (.int .i64 st)) : Fn PR NoX 163 #[.agg #[.int .i64 x.st, .string x.key, .int .i64 x.bk, .int .i64 x.dl], .pointer (some ⟨b, 0, none⟩)] w (fun r w' => r = .bool (decide (x.st = st)) ∧ But [] w w') := by
  refine Fn.pure (mk_probe_Count_c1 (TW.go (κ := false) (S := []) ?_))
  unfold sh_probe_Count_c1
  (have hQq := trivial; repeat ((first | clear hQq | (with_reducible first | refine T_drw ?_ | refine T_bx fun _ => ?_ | refine s_al fun _ => ?_)); (try simp (disch := first | omega | assumption | ((repeat (first | exact mem_h | exact Up.here | apply mem_t | apply Up.there)); first | done | fail) | (simp; first | done | omega | fail)) [hb])))
  exact T_ret rfl
def countE (l : List EnV) (st : Int) : Nat := l.countP fun x => decide (x.st = st)
theorem countP_take {α : Type} {p : α → Bool} {l : List α} {i : Nat} {x : α} (hx : l[i]? = some x) : (l.take (i + 1)).countP p = (l.take i).countP p + if p x then 1 else 0 := by
  rw [List.take_add_one, hx, List.countP_append]; simp [List.countP_cons]
theorem count_ok (w : World) (v : Value) (l : List EnV) (p : EnV → Bool) (f : FuncId) (cap : List Value) (hn : l.length ≤ 1000000) (hv : Rd1 w v l.length (l.flatMap encE)) (he : Enters PR f)
    (hf : ∀ w', KS false [] w w' → ∀ x : EnV, Fn PR NoX f (.agg #[.int .i64 x.st, .string x.key, .int .i64 x.bk, .int .i64 x.dl] :: cap).toArray w' (fun r w'' => r = .bool (p x) ∧ But [] w' w'')) :
    Fn PR NoX 162 #[v, .func (.func f) #[] cap.toArray] w (fun r w' => r = .int .i64 (l.countP p : Nat) ∧ But [] w w') := by
  refine Fn.pure (mk_probe_count_api_Entry (TW.go (κ := false) (S := []) ?_))
  unfold sh_probe_count_api_Entry
  obtain ⟨a, c, rfl, hr⟩ := hv.form
  (have hQq := trivial; repeat ((first | clear hQq | (with_reducible first | refine T_drw ?_ | refine T_bx fun _ => ?_ | refine s_al fun _ => ?_)); (try simp (disch := first | omega | assumption | ((repeat (first | exact mem_h | exact Up.here | apply mem_t | apply Up.there)); first | done | fail) | (simp; first | done | omega | fail)) [])))
  refine T_for1 (α := Unit) l.length (fun i _ => .int .i64 ((l.take i).countP p : Nat)) (fun _ _ => []) (fun i _ => True) () trivial ?_
  rintro i _ hi _ L hL
  by_cases hlt : i < l.length
  · obtain ⟨b, o, rfl, hrow⟩ := hr (by omega)
    obtain ⟨x, hx⟩ : ∃ x, l[i]? = some x := ⟨_, List.getElem?_eq_getElem (by omega)⟩
    have h1 := hrow.at (f := encE) (k := 4) (fun _ => rfl) hx
    rw [encE] at h1
    (have hQq := trivial; repeat ((first | clear hQq | (with_reducible first | refine T_drw ?_ | refine T_bx fun _ => ?_ | refine s_al fun _ => ?_)); (try simp (disch := first | omega | assumption | ((repeat (first | exact mem_h | exact Up.here | apply mem_t | apply Up.there)); first | done | fail) | (simp; first | done | omega | fail)) [hlt, h1])))
    refine T_c0 he (φ := fun r => r = .bool (p x)) (fun w' hw' => by simpa using hf w' hw'.ks x) ?_
    rintro _ rfl
    have hc := countP_take (p := p) hx
    have hle : (l.take i).countP p ≤ i := Nat.le_trans List.countP_le_length (by simp; omega)
    have hL' := hL hlt () trivial
    rw [hc] at hL'
    cases hb : p x with
    | true =>
      rw [hb] at hL'
      (have hQq := trivial; repeat ((first | clear hQq | (with_reducible first | refine T_drw ?_ | refine T_bx fun _ => ?_ | refine s_al fun _ => ?_)); (try simp (disch := first | omega | assumption | ((repeat (first | exact mem_h | exact Up.here | apply mem_t | apply Up.there)); first | done | fail) | (simp; first | done | omega | fail)) [])))
      exact Sels.tw .nil (by simpa using hL')
    | false =>
      rw [hb] at hL'
      (have hQq := trivial; repeat ((first | clear hQq | (with_reducible first | refine T_drw ?_ | refine T_bx fun _ => ?_ | refine s_al fun _ => ?_)); (try simp (disch := first | omega | assumption | ((repeat (first | exact mem_h | exact Up.here | apply mem_t | apply Up.there)); first | done | fail) | (simp; first | done | omega | fail)) [])))
      exact Sels.tw .nil (by simpa using hL')
  · obtain rfl : i = l.length := by omega
    (have hQq := trivial; repeat ((first | clear hQq | (with_reducible first | refine T_drw ?_ | refine T_bx fun _ => ?_ | refine s_al fun _ => ?_)); (try simp (disch := first | omega | assumption | ((repeat (first | exact mem_h | exact Up.here | apply mem_t | apply Up.there)); first | done | fail) | (simp; first | done | omega | fail)) [])))
    exact T_ret rfl
theorem Count_ok (w : World) (v : Value) (l : List EnV) (st : Int) (hn : l.length ≤ 1000000) (hv : Rd1 w v l.length (l.flatMap encE)) :
    Fn PR NoX 116 #[v, .int .i64 st] w (fun r w' => r = .int .i64 (countE l st : Nat) ∧ But [] w w') := by
  refine Fn.pure (mk_probe_Count (TW.go (κ := false) (S := []) ?_))
  unfold sh_probe_Count
  (have hQq := trivial; repeat ((first | clear hQq | (with_reducible first | refine T_drw ?_ | refine T_bx fun _ => ?_ | refine s_al fun _ => ?_)); (try simp (disch := first | omega | assumption | ((repeat (first | exact mem_h | exact Up.here | apply mem_t | apply Up.there)); first | done | fail) | (simp; first | done | omega | fail)) [])))
  rename_i b
  refine T_cv ent_probe_count_api_Entry (fun w' hw' => count_ok w' v l (fun x => decide (x.st = st)) 163 [.pointer (some ⟨b, 0, none⟩)] hn (hv.ks hw'.ks (by simp)) ent_probe_Count_c1
    fun w2 h x => Countc1_ok w2 x st b (h.cell (by simp) (hw'.cell1 (by ((repeat (first | exact mem_h | exact Up.here | exact Sel.here | apply mem_t | apply Up.there | apply Sel.there)); first | done | fail))))) ?_
  exact T_ret rfl
end Go.Proofs.YtggakcpabomliaaGreat
namespace Go.Proofs.YtggakcpabomliaaGreat
open Go
theorem enE_plain (l : List EnV) : (l.flatMap encE).all plain = true := by
  rw [List.all_eq_true]; intro v hv; rw [List.mem_flatMap] at hv
  obtain ⟨x, _, hx⟩ := hv
  simp only [encE, List.mem_cons, List.not_mem_nil, or_false] at hx
  rcases hx with rfl | rfl | rfl | rfl <;> rfl
theorem setL_flat {α : Type} {f : α → List Value} {k : Nat} (hk : ∀ x, (f x).length = k) (l : List α) (i : Nat) (y : α) (hi : i < l.length) : setL (l.flatMap f) (i * k) (f y) = (l.set i y).flatMap f := by
  have e1 := flat_take hk l i
  have e2 := flat_drop hk l (i + 1)
  rw [Nat.add_mul, Nat.one_mul] at e2
  rw [setL, hk, e1, e2, List.set_eq_take_append_cons_drop, if_pos hi, List.flatMap_append, List.flatMap_cons, List.append_assoc]
/-- a table of one's own -/
abbrev ownE (v : Value) (l : List EnV) : Res := .own 71 4 v l.length (l.flatMap encE)
def newE (n : Nat) : List EnV := List.replicate (min n 64) noE
theorem zeroE (n : Nat) : (Builtin.zeroCells (Value.agg #[.int .i64 0, .string noB, .int .i64 0, .int .i64 0]).cells n).toList = (List.replicate n noE).flatMap encE := by
  have h4 : (Value.agg #[.int .i64 0, .string noB, .int .i64 0, .int .i64 0]).cells.size = 4 := rfl
  have hz : (Builtin.zeroCells (Value.agg #[.int .i64 0, .string noB, .int .i64 0, .int .i64 0]).cells n).toList.length = n * 4 := by simp [size_zeroCells]
  have hr : ((List.replicate n noE).flatMap encE).length = n * 4 := by rw [flat_len (k := 4) fun _ => rfl]; simp
  apply List.ext_getElem (by rw [hz, hr])
  intro i h1 h2
  rw [hz] at h1
  have hf := flat_get (f := encE) (k := 4) (fun _ => rfl) (List.replicate n noE) (i / 4) (i % 4) (by omega)
  rw [show i / 4 * 4 + i % 4 = i by omega, List.getElem?_eq_getElem h2, List.getElem?_replicate_of_lt (by omega)] at hf
  have e : (Builtin.zeroCells (Value.agg #[.int .i64 0, .string noB, .int .i64 0, .int .i64 0]).cells n).toList[i]'(by rw [hz]; exact h1) = (Value.agg #[.int .i64 0, .string noB, .int .i64 0, .int .i64 0]).cells[i % 4]! := by
    simp [Builtin.zeroCells]
  rw [e]
  have h3 : i % 4 = 0 ∨ i % 4 = 1 ∨ i % 4 = 2 ∨ i % 4 = 3 := by omega
  rcases h3 with h3 | h3 | h3 | h3 <;> (rw [h3] at hf ⊢; simp [encE, noE] at hf ⊢; exact hf.symm)
theorem flowsNew_ok (w : World) (n : Nat) (hn : n ≤ 1000000) : Fn PR NoX 57 #[.int .i64 (n : Int)] w (Rn [] w (fun r u => u = r) fun r => [ownE r (newE n)]) := by
  refine mk_flows_New (TW.go (κ := false) (S := []) ?_)
  unfold sh_flows_New
  have e : max 0 (min (n : Int) 64) = ((min n 64 : Nat) : Int) := by omega
  (have hQq := trivial; repeat ((first | clear hQq | (with_reducible first | refine T_drw ?_ | refine T_bx fun _ => ?_ | refine s_al fun _ => ?_)); (try simp (disch := first | omega | assumption | ((repeat (first | exact mem_h | exact Up.here | apply mem_t | apply Up.there)); first | done | fail) | (simp; first | done | omega | fail)) [e])))
  refine s_ms (by omega) (by omega) (by omega) (by omega) fun bs => ?_
  rw [Int.toNat_natCast]
  refine T_retn _ rfl ?_
  simp only [ownE, newE, List.length_replicate, ← zeroE]
  exact List.Sublist.refl _
def putE (l : List EnV) (x : EnV) : Option (List EnV) :=
  let at0 := findE l x.key
  let at1 := if at0 < 0 then roomE l x.key else at0
  if at1 < 0 then none else some (l.set at1.toNat x)
theorem findW_lt {key : ByteArray} {n : Nat} : ∀ L : List (Nat × EnV), (∀ p ∈ L, p.1 < n) → 0 ≤ findW key L → (findW key L).toNat < n := by
  intro L
  induction L with
  | nil => intro _ h; simp [findW] at h
  | cons p L ih =>
    intro h h0
    simp only [findW] at h0 ⊢
    split
    · rw [if_pos ‹_›] at h0; simp at h0
    · rw [if_neg ‹_›] at h0
      split
      · simpa using h p (by simp)
      · rw [if_neg ‹_›] at h0; exact ih (fun q hq => h q (by simp [hq])) h0
theorem roomW_lt {n : Nat} : ∀ L : List (Nat × EnV), (∀ p ∈ L, p.1 < n) → 0 ≤ roomW L → (roomW L).toNat < n := by
  intro L
  induction L with
  | nil => intro _ h; simp [roomW] at h
  | cons p L ih =>
    intro h h0
    simp only [roomW] at h0 ⊢
    split
    · rw [if_pos ‹_›] at h0; exact ih (fun q hq => h q (by simp [hq])) h0
    · simpa using h p (by simp)
theorem wayL_lt (l : List EnV) (key : ByteArray) : ∀ p ∈ wayL l key, p.1 < l.length := by
  intro p hp
  obtain ⟨i, hi, rfl⟩ := List.mem_map.1 hp
  exact Nat.mod_lt _ (by simp at hi; omega)
theorem findE_lt {l : List EnV} {key : ByteArray} (h : 0 ≤ findE l key) : (findE l key).toNat < l.length := findW_lt _ (wayL_lt l key) h
theorem roomE_lt {l : List EnV} {key : ByteArray} (h : 0 ≤ roomE l key) : (roomE l key).toNat < l.length := by
  unfold roomE at h ⊢
  split
  · rw [if_pos ‹_›] at h; simp at h
  · rw [if_neg ‹_›] at h; exact roomW_lt _ (wayL_lt l key) h
theorem putE_len {l m : List EnV} {x : EnV} (h : putE l x = some m) : m.length = l.length := by
  unfold putE at h
  simp only at h
  by_cases c : (if findE l x.key < 0 then roomE l x.key else findE l x.key) < 0
  · rw [if_pos c] at h; cases h
  · rw [if_neg c] at h; injection h with h; rw [← h]; simp
theorem tput_ok (w : World) (v : Value) (l : List EnV) (x : EnV) (hk : x.key.size < 2 ^ 60) (hn : l.length ≤ 1000000) (hw : LW false (foots [ownE v l]) w [ownE v l] w) :
    Fn PR NoX 119 #[v, .agg #[.int .i64 x.st, .string x.key, .int .i64 x.bk, .int .i64 x.dl]] w (Rn (foots [ownE v l]) w (fun (_ : Unit) u => u = .bool (putE l x).isSome) fun _ => [ownE v ((putE l x).getD l)]) := by
  refine mk_flows_table_put (TW.goH (κ := false) (S := foots [ownE v l]) ?_ hw)
  unfold sh_flows_table_put
  (have hQq := trivial; repeat ((first | clear hQq | (with_reducible first | refine T_drw ?_ | refine T_bx fun _ => ?_ | refine s_al fun _ => ?_)); (try simp (disch := first | omega | assumption | ((repeat (first | exact mem_h | exact Up.here | apply mem_t | apply Up.there)); first | done | fail) | (simp; first | done | omega | fail)) [])))
  rename_i bx
  refine T_cv ent_probe_Find (fun w' hw' => probeFind_ok w' v l x.key hk hn (RdT.own (by ((repeat (first | exact mem_h | exact Up.here | exact Sel.here | apply mem_t | apply Up.there | apply Sel.there)); first | done | fail)) w' hw')) ?_
  have fin : ∀ r : Int, 0 ≤ r → r.toNat < l.length → putE l x = some (l.set r.toNat x) → TW false (foots [ownE v l]) w [.pt bx (.cells #[.int .i64 x.st, .string x.key, .int .i64 x.bk, .int .i64 x.dl] 71), ownE v l]
      (pur PR (Instr.indexAt 136 v (.int .i64 r)) fun t21 => sto PR NoX (Instr.storeAt 71 t21 (.agg #[.int .i64 x.st, .string x.key, .int .i64 x.bk, .int .i64 x.dl])) <|
        Rn (foots [ownE v l]) w (fun (_ : Unit) u => u = .bool (putE l x).isSome) (fun _ => [ownE v ((putE l x).getD l)]) (.bool true)) := by
    intro r h0 hi hp
    obtain ⟨i, rfl⟩ : ∃ i : Nat, r = i := ⟨r.toNat, by omega⟩
    rw [Int.toNat_natCast] at hi hp
    refine T_ptr (e := 71) (k := 4) (v := v) (q := l.length) (xs := l.flatMap encE) (by ((repeat (first | exact mem_h | exact Up.here | exact Sel.here | apply mem_t | apply Up.there | apply Sel.there)); first | done | fail)) (by omega) ?_
    rintro g c rfl
    (have hQq := trivial; repeat ((first | clear hQq | (with_reducible first | refine T_drw ?_ | refine T_bx fun _ => ?_ | refine s_al fun _ => ?_)); (try simp (disch := first | omega | assumption | ((repeat (first | exact mem_h | exact Up.here | apply mem_t | apply Up.there)); first | done | fail) | (simp; first | done | omega | fail)) [hi])))
    refine s_st_own (by ((repeat (first | exact mem_h | exact Up.here | exact Sel.here | apply mem_t | apply Up.there | apply Sel.there)); first | done | fail)) (by simp) (by rw [enE_len]; omega) (by simp) ?_
    refine T_rets () (by simp [hp]) ?_
    have := setL_flat (f := encE) (k := 4) (fun _ => rfl) l i x hi
    simp only [hp, Option.getD_some, ownE, List.length_set, ← this]
    ((repeat (first | exact Sels.nil | (apply Sels.cons; · ((repeat (first | exact mem_h | exact Up.here | exact Sel.here | apply mem_t | apply Up.there | apply Sel.there)); first | done | fail)))); first | done | fail)
  by_cases c1 : findE l x.key < 0
  · (have hQq := trivial; repeat ((first | clear hQq | (with_reducible first | refine T_drw ?_ | refine T_bx fun _ => ?_ | refine s_al fun _ => ?_)); (try simp (disch := first | omega | assumption | ((repeat (first | exact mem_h | exact Up.here | apply mem_t | apply Up.there)); first | done | fail) | (simp; first | done | omega | fail)) [c1])))
    refine T_cv ent_probe_Room (fun w' hw' => probeRoom_ok w' v l x.key hk hn (RdT.own (by ((repeat (first | exact mem_h | exact Up.here | exact Sel.here | apply mem_t | apply Up.there | apply Sel.there)); first | done | fail)) w' hw')) ?_
    by_cases c2 : roomE l x.key < 0
    · have hp : putE l x = none := by simp [putE, c1, c2]
      (have hQq := trivial; repeat ((first | clear hQq | (with_reducible first | refine T_drw ?_ | refine T_bx fun _ => ?_ | refine s_al fun _ => ?_)); (try simp (disch := first | omega | assumption | ((repeat (first | exact mem_h | exact Up.here | apply mem_t | apply Up.there)); first | done | fail) | (simp; first | done | omega | fail)) [c2])))
      exact T_rets () (by simp [hp]) (by simp only [hp, Option.getD_none]; ((repeat (first | exact Sels.nil | (apply Sels.cons; · ((repeat (first | exact mem_h | exact Up.here | exact Sel.here | apply mem_t | apply Up.there | apply Sel.there)); first | done | fail)))); first | done | fail))
    · have hp : putE l x = some (l.set (roomE l x.key).toNat x) := by simp [putE, c1, c2]
      have := fin _ (by omega) (roomE_lt (by omega)) hp
      simp (disch := first | omega | assumption | ((repeat (first | exact mem_h | exact Up.here | apply mem_t | apply Up.there)); first | done | fail) | (simp; first | done | omega | fail)) [c2]
      exact this
  · have hp : putE l x = some (l.set (findE l x.key).toNat x) := by simp [putE, c1]
    have := fin _ (by omega) (findE_lt (by omega)) hp
    simp (disch := first | omega | assumption | ((repeat (first | exact mem_h | exact Up.here | apply mem_t | apply Up.there)); first | done | fail) | (simp; first | done | omega | fail)) [c1]
    exact this
def liveF : Nat → List EnV → List (Nat × EnV)
  | _, [] => []
  | i, x :: r => if x.st = 1 then (i, x) :: liveF (i + 1) r else liveF (i + 1) r
def liveL (l : List EnV) : List (Nat × EnV) := liveF 0 l
theorem liveF_app (i : Nat) (l m : List EnV) : liveF i (l ++ m) = liveF i l ++ liveF (i + l.length) m := by
  induction l generalizing i with
  | nil => simp [liveF]
  | cons x l ih =>
    simp only [List.cons_append, liveF, ih, List.length_cons]
    split
    · simp only [List.cons_append]; congr 3; omega
    · congr 2; omega
theorem liveL_at {l : List EnV} {i : Nat} {x : EnV} (hx : l[i]? = some x) : liveL (l.take (i + 1)) = liveL (l.take i) ++ (if x.st = 1 then [(i, x)] else []) := by
  obtain ⟨hi, _⟩ := List.getElem?_eq_some_iff.1 hx
  rw [List.take_add_one, hx, liveL, liveF_app, Option.toList_some, List.length_take, Nat.zero_add, Nat.min_eq_left (by omega)]
  simp only [liveF, liveL]
theorem liveL_get {l : List EnV} {i : Nat} {x : EnV} (hx : l[i]? = some x) (h : x.st = 1) : (liveL l)[(liveL (l.take i)).length]? = some (i, x) := by
  have e : l = l.take (i + 1) ++ l.drop (i + 1) := (List.take_append_drop _ _).symm
  conv => lhs; arg 1; rw [e]
  rw [liveL, liveF_app, ← liveL, liveL_at hx, if_pos h, List.append_assoc, List.getElem?_append_right (by omega)]
  simp
abbrev liveG (b : Nat) : Value := .func (.func 126) #[] #[.pointer (some ⟨b, 0, none⟩)]
theorem live_ok (w : World) (v : Value) (hv : ∃ a n c, v = .slice a n c) : Fn PR NoX 81 #[v] w (Rn [] w (fun b u => u = liveG b) fun b => [.pt b (.cells #[v] 136)]) := by
  obtain ⟨a, n, c, rfl⟩ := hv
  refine mk_flows_table_live (TW.go (κ := false) (S := []) ?_)
  unfold sh_flows_table_live
  (have hQq := trivial; repeat ((first | clear hQq | (with_reducible first | refine T_drw ?_ | refine T_bx fun _ => ?_ | refine s_al fun _ => ?_)); (try simp (disch := first | omega | assumption | ((repeat (first | exact mem_h | exact Up.here | apply mem_t | apply Up.there)); first | done | fail) | (simp; first | done | omega | fail)) [])))
  rename_i b
  exact T_retn b rfl (by simp)
theorem live_it (b : Nat) (v : Value) (l : List EnV) (hn : l.length ≤ 1000000) : IterT (liveG b) [.pt b (.cells #[v] 136)] (RqS v l.length (l.flatMap encE)) ((liveL l).map wayA) := by
  refine ⟨_, _, _, rfl, fun y J E hJ hE stJ stE hy w0 h0 => ?_⟩
  obtain ⟨a, c, hv, hr⟩ := (hJ _ _ _ h0).2
  subst hv
  refine ce_flows_table_live_c1 (mk_flows_table_live_c1 (TW.at (κ := true) ?_ (hJ _ _ _ h0).1))
  unfold sh_flows_table_live_c1
  (have hQq := trivial; repeat ((first | clear hQq | (with_reducible first | refine T_drw ?_ | refine T_bx fun _ => ?_ | refine s_al fun _ => ?_)); (try simp (disch := first | omega | assumption | ((repeat (first | exact mem_h | exact Up.here | apply mem_t | apply Up.there)); first | done | fail) | (simp; first | done | omega | fail)) [])))
  refine T_forJ l.length (fun i => (liveL (l.take i)).length) (fun _ => _) hJ stJ (by simpa [liveL, liveF] using h0) fun i a' hi hJi hRi L hL => ?_
  by_cases hlt : i < l.length
  · obtain ⟨_, _, hv, hr⟩ := hRi
    obtain ⟨b', o, hb, hrow, hnb⟩ := hr (by omega)
    cases hv
    subst hb
    obtain ⟨x, hx⟩ : ∃ x, l[i]? = some x := ⟨_, List.getElem?_eq_getElem hlt⟩
    have h1 := hrow.at (f := encE) (k := 4) (fun _ => rfl) hx
    rw [encE] at h1
    have hat := liveL_at hx
    by_cases c1 : x.st = 1
    · have hg := liveL_get hx c1
      rw [if_pos c1] at hat
      obtain ⟨hgi, hg'⟩ := List.getElem?_eq_some_iff.1 hg
      have hlen : (liveL (l.take (i + 1))).length = (liveL (l.take i)).length + 1 := by rw [hat]; simp
      rw [hlen] at hL
      (have hQq := trivial; repeat ((first | clear hQq | (with_reducible first | refine T_drw ?_ | refine T_bx fun _ => ?_ | refine s_al fun _ => ?_)); (try simp (disch := first | omega | assumption | ((repeat (first | exact mem_h | exact Up.here | apply mem_t | apply Up.there)); first | done | fail) | (simp; first | done | omega | fail)) [hlt, h1, c1])))
      refine T_yie hJ hE stJ hy hJi (by simpa using hgi) (by rw [List.getElem_map, hg', wayA, c1]) (fun w3 h => ?_) (fun w3 h => ?_)
      · (have hQq := trivial; repeat ((first | clear hQq | (with_reducible first | refine T_drw ?_ | refine T_bx fun _ => ?_ | refine s_al fun _ => ?_)); (try simp (disch := first | omega | assumption | ((repeat (first | exact mem_h | exact Up.here | apply mem_t | apply Up.there)); first | done | fail) | (simp; first | done | omega | fail)) [])))
        exact fun w' hw' => hL hlt w' (stJ _ _ _ _ _ h (hw'.sub (by simp)))
      · (have hQq := trivial; repeat ((first | clear hQq | (with_reducible first | refine T_drw ?_ | refine T_bx fun _ => ?_ | refine s_al fun _ => ?_)); (try simp (disch := first | omega | assumption | ((repeat (first | exact mem_h | exact Up.here | apply mem_t | apply Up.there)); first | done | fail) | (simp; first | done | omega | fail)) [])))
        exact T_endE stE h
    · rw [if_neg c1, List.append_nil] at hat
      rw [hat] at hL
      (have hQq := trivial; repeat ((first | clear hQq | (with_reducible first | refine T_drw ?_ | refine T_bx fun _ => ?_ | refine s_al fun _ => ?_)); (try simp (disch := first | omega | assumption | ((repeat (first | exact mem_h | exact Up.here | apply mem_t | apply Up.there)); first | done | fail) | (simp; first | done | omega | fail)) [hlt, h1, c1])))
      exact fun w' hw' => hL hlt w' (stJ _ _ _ _ _ hJi (hw'.sub (by simp)))
  · obtain rfl : i = l.length := by omega
    rw [List.take_length] at hJi
    (have hQq := trivial; repeat ((first | clear hQq | (with_reducible first | refine T_drw ?_ | refine T_bx fun _ => ?_ | refine s_al fun _ => ?_)); (try simp (disch := first | omega | assumption | ((repeat (first | exact mem_h | exact Up.here | apply mem_t | apply Up.there)); first | done | fail) | (simp; first | done | omega | fail)) [])))
    exact T_endJ stJ (by simpa using hJi)
end Go.Proofs.YtggakcpabomliaaGreat
namespace Go.Proofs.YtggakcpabomliaaGreat
open Go
theorem rowN_cells {w : World} {b : Nat} {T : TypeId} {l : List Value} (h : bl w b = some (.cells l.toArray T (0, 0))) : rowN w b 0 l.length = some l := rowN_of fun i hi => by
  rw [cell_of h]; simp
theorem changed_ok (w : World) (v : Value) (l : List EnV) (f : FuncId) (cap : List Value) (o : Option (List EnV)) (ho : ∀ m, o = some m → m.length = l.length) (hn : l.length ≤ 1000000) (hv : Rd1 w v l.length (l.flatMap encE)) (he : Enters PR f)
    (hf : ∀ w' r, KS false [] w w' → (∀ b ∈ foots [ownE r l], sz w ≤ b) → LW false (foots [ownE r l]) w' [ownE r l] w' → Fn PR NoX f (r :: cap).toArray w' (Rn (foots [ownE r l]) w' (fun (_ : Unit) u => u = .bool o.isSome) fun _ => [ownE r (o.getD l)])) :
    Fn PR NoX 114 #[v, .func (.func f) #[] cap.toArray] w (Rn [] w (fun r u => u = .tuple #[if o.isSome then r else v, .bool o.isSome]) fun r => [ownE r (o.getD l)]) := by
  refine mk_flows_changed (TW.go (κ := false) (S := []) ?_)
  unfold sh_flows_changed
  refine T_cn ent_slices_Clone_api_Entry_api_Entry (fun w' hw' => CloneE_ok w' v l.length (l.flatMap encE) hn (enE_len l) (enE_plain l) (hv.ks hw'.ks (by simp))) ?_
  rintro _ r rfl
  (have hQq := trivial; repeat ((first | clear hQq | (with_reducible first | refine T_drw ?_ | refine T_bx fun _ => ?_ | refine s_al fun _ => ?_ | refine s_bs0 fun _ => ?_ | refine s_bs1 (hK := fun _ => ?_) | refine s_bs2 (hK := fun _ => ?_) | refine s_bs3 (hK := fun _ => ?_) | refine s_bs5 (hK := fun _ => ?_) | refine s_bs6 (hK := fun _ => ?_))); (try simp (disch := first | omega | assumption | ((repeat (first | exact mem_h | exact Up.here | apply mem_t | apply Up.there)); first | done | fail) | (simp; first | done | omega | fail)) [])))
  refine T_callP (Hc := [ownE r l]) he (fun w' hw hs => hf w' r hw.ks (fun b hb => by
    obtain ⟨s, hs1, hb1⟩ := mem_foots.1 hb
    rcases (hw.own s (List.mem_append_left _ hs1) b hb1).1 with h | h
    · simp at h
    · exact h) hs) (by ((repeat (first | exact Part.nil | (apply Part.cons; · ((repeat (first | exact mem_h | exact Up.here | exact Sel.here | apply mem_t | apply Up.there | apply Sel.there)); first | done | fail)))); first | done | fail)) ?_
  rintro _ _ rfl
  cases o with
  | none =>
    (have hQq := trivial; repeat ((first | clear hQq | (with_reducible first | refine T_drw ?_ | refine T_bx fun _ => ?_ | refine s_al fun _ => ?_ | refine s_bs0 fun _ => ?_ | refine s_bs1 (hK := fun _ => ?_) | refine s_bs2 (hK := fun _ => ?_) | refine s_bs3 (hK := fun _ => ?_) | refine s_bs5 (hK := fun _ => ?_) | refine s_bs6 (hK := fun _ => ?_))); (try simp (disch := first | omega | assumption | ((repeat (first | exact mem_h | exact Up.here | apply mem_t | apply Up.there)); first | done | fail) | (simp; first | done | omega | fail)) [])))
    exact T_rets r rfl (by ((repeat (first | exact Sels.nil | (apply Sels.cons; · ((repeat (first | exact mem_h | exact Up.here | exact Sel.here | apply mem_t | apply Up.there | apply Sel.there)); first | done | fail)))); first | done | fail))
  | some m =>
    (have hQq := trivial; repeat ((first | clear hQq | (with_reducible first | refine T_drw ?_ | refine T_bx fun _ => ?_ | refine s_al fun _ => ?_ | refine s_bs0 fun _ => ?_ | refine s_bs1 (hK := fun _ => ?_) | refine s_bs2 (hK := fun _ => ?_) | refine s_bs3 (hK := fun _ => ?_) | refine s_bs5 (hK := fun _ => ?_) | refine s_bs6 (hK := fun _ => ?_))); (try simp (disch := first | omega | assumption | ((repeat (first | exact mem_h | exact Up.here | apply mem_t | apply Up.there)); first | done | fail) | (simp; first | done | omega | fail)) [])))
    exact T_rets r rfl (by ((repeat (first | exact Sels.nil | (apply Sels.cons; · ((repeat (first | exact mem_h | exact Up.here | exact Sel.here | apply mem_t | apply Up.there | apply Sel.there)); first | done | fail)))); first | done | fail))
theorem Putc1_ok (w : World) (v : Value) (l : List EnV) (x : EnV) (b : Nat) (hk : x.key.size < 2 ^ 60) (hn : l.length ≤ 1000000) (hx : rowN w b 0 4 = some (encE x)) (hb : b ∉ foots [ownE v l]) (hw : LW false (foots [ownE v l]) w [ownE v l] w) :
    Fn PR NoX 118 #[v, .pointer (some ⟨b, 0, none⟩)] w (Rn (foots [ownE v l]) w (fun (_ : Unit) u => u = .bool (putE l x).isSome) fun _ => [ownE v ((putE l x).getD l)]) := by
  refine mk_flows_Put_c1 (TW.goH (κ := false) (S := foots [ownE v l]) ?_ hw)
  unfold sh_flows_Put_c1
  rw [encE] at hx
  (have hQq := trivial; repeat ((first | clear hQq | (with_reducible first | refine T_drw ?_ | refine T_bx fun _ => ?_ | refine s_al fun _ => ?_ | refine s_bs0 fun _ => ?_ | refine s_bs1 (hK := fun _ => ?_) | refine s_bs2 (hK := fun _ => ?_) | refine s_bs3 (hK := fun _ => ?_) | refine s_bs5 (hK := fun _ => ?_) | refine s_bs6 (hK := fun _ => ?_))); (try simp (disch := first | omega | assumption | ((repeat (first | exact mem_h | exact Up.here | apply mem_t | apply Up.there)); first | done | fail) | (simp; first | done | omega | fail)) [hx])))
  refine T_callP (Hc := [ownE v l]) ent_flows_table_put (fun w' hw hs => tput_ok w' v l x hk hn hs) (by ((repeat (first | exact Part.nil | (apply Part.cons; · ((repeat (first | exact mem_h | exact Up.here | exact Sel.here | apply mem_t | apply Up.there | apply Sel.there)); first | done | fail)))); first | done | fail)) ?_
  rintro _ _ rfl
  exact T_rets () rfl (by ((repeat (first | exact Sels.nil | (apply Sels.cons; · ((repeat (first | exact mem_h | exact Up.here | exact Sel.here | apply mem_t | apply Up.there | apply Sel.there)); first | done | fail)))); first | done | fail))
theorem flowsPut_ok (w : World) (v : Value) (l : List EnV) (key : ByteArray) (bk dl : Int) (hk : key.size < 2 ^ 60) (hn : l.length ≤ 1000000) (hv : Rd1 w v l.length (l.flatMap encE)) :
    Fn PR NoX 74 #[v, .string key, .int .i64 bk, .int .i64 dl] w (Rn [] w (fun r u => u = .tuple #[if (putE l ⟨1, key, bk, dl⟩).isSome then r else v, .int .i64 (if (putE l ⟨1, key, bk, dl⟩).isSome then 0 else 12)]) fun r => [ownE r ((putE l ⟨1, key, bk, dl⟩).getD l)]) := by
  refine mk_flows_Put (TW.go (κ := false) (S := []) ?_)
  unfold sh_flows_Put
  (have hQq := trivial; repeat ((first | clear hQq | (with_reducible first | refine T_drw ?_ | refine T_bx fun _ => ?_ | refine s_al fun _ => ?_ | refine s_bs0 fun _ => ?_ | refine s_bs1 (hK := fun _ => ?_) | refine s_bs2 (hK := fun _ => ?_) | refine s_bs3 (hK := fun _ => ?_) | refine s_bs5 (hK := fun _ => ?_) | refine s_bs6 (hK := fun _ => ?_))); (try simp (disch := first | omega | assumption | ((repeat (first | exact mem_h | exact Up.here | apply mem_t | apply Up.there)); first | done | fail) | (simp; first | done | omega | fail)) [])))
  rename_i b
  refine T_cn ent_flows_changed (fun w' hw' => changed_ok w' v l 118 [.pointer (some ⟨b, 0, none⟩)] (putE l ⟨1, key, bk, dl⟩) (fun m h => putE_len h) hn (hv.ks hw'.ks (by simp)) ent_flows_Put_c1
    fun w2 r h hf hr => ?_) ?_
  · have hp := hw'.pt (b := b) (by ((repeat (first | exact mem_h | exact Up.here | exact Sel.here | apply mem_t | apply Up.there | apply Sel.there)); first | done | fail))
    have hb : b < sz w' := bl_lt hp
    refine Putc1_ok w2 r l ⟨1, key, bk, dl⟩ b hk hn ?_ (fun hc => by have := hf b hc; omega) hr
    have hp2 := h.2.1 b _ (by simp) rfl hp
    exact rowN_cells hp2
  · rintro r _ rfl
    cases h : putE l ⟨1, key, bk, dl⟩ with
    | none =>
      (have hQq := trivial; repeat ((first | clear hQq | (with_reducible first | refine T_drw ?_ | refine T_bx fun _ => ?_ | refine s_al fun _ => ?_ | refine s_bs0 fun _ => ?_ | refine s_bs1 (hK := fun _ => ?_) | refine s_bs2 (hK := fun _ => ?_) | refine s_bs3 (hK := fun _ => ?_) | refine s_bs5 (hK := fun _ => ?_) | refine s_bs6 (hK := fun _ => ?_))); (try simp (disch := first | omega | assumption | ((repeat (first | exact mem_h | exact Up.here | apply mem_t | apply Up.there)); first | done | fail) | (simp; first | done | omega | fail)) [])))
      exact T_rets r (by simp) (by ((repeat (first | exact Sels.nil | (apply Sels.cons; · ((repeat (first | exact mem_h | exact Up.here | exact Sel.here | apply mem_t | apply Up.there | apply Sel.there)); first | done | fail)))); first | done | fail))
    | some m =>
      (have hQq := trivial; repeat ((first | clear hQq | (with_reducible first | refine T_drw ?_ | refine T_bx fun _ => ?_ | refine s_al fun _ => ?_ | refine s_bs0 fun _ => ?_ | refine s_bs1 (hK := fun _ => ?_) | refine s_bs2 (hK := fun _ => ?_) | refine s_bs3 (hK := fun _ => ?_) | refine s_bs5 (hK := fun _ => ?_) | refine s_bs6 (hK := fun _ => ?_))); (try simp (disch := first | omega | assumption | ((repeat (first | exact mem_h | exact Up.here | apply mem_t | apply Up.there)); first | done | fail) | (simp; first | done | omega | fail)) [])))
      exact T_rets r (by simp) (by ((repeat (first | exact Sels.nil | (apply Sels.cons; · ((repeat (first | exact mem_h | exact Up.here | exact Sel.here | apply mem_t | apply Up.there | apply Sel.there)); first | done | fail)))); first | done | fail))
def tombE : EnV := ⟨2, noB, 0, 0⟩
/-- no text of a table is longer than any machine's -/
def KeysOk (l : List EnV) : Prop := ∀ x ∈ l, x.key.size < 2 ^ 60
def putS (acc : List EnV) (x : EnV) : List EnV := (putE acc x).getD acc
theorem putS_len (acc : List EnV) (x : EnV) : (putS acc x).length = acc.length := by
  unfold putS
  cases h : putE acc x with
  | none => rfl
  | some m => exact putE_len h
def tidyE (l : List EnV) : List EnV := (liveL l).foldl (fun acc p => putS acc p.2) (newE l.length)
theorem tidy_len (L : List (Nat × EnV)) (a : List EnV) : (L.foldl (fun acc p => putS acc p.2) a).length = a.length := by
  induction L generalizing a with
  | nil => rfl
  | cons p L ih => rw [List.foldl_cons, ih, putS_len]
theorem newE_len (n : Nat) : (newE n).length = min n 64 := by simp [newE]
theorem liveF_mem {i : Nat} {l : List EnV} : ∀ p ∈ liveF i l, p.2 ∈ l ∧ p.2.st = 1 := by
  induction l generalizing i with
  | nil => intro p hp; cases hp
  | cons x l ih =>
    intro p hp
    simp only [liveF] at hp
    split at hp
    · rcases List.mem_cons.1 hp with rfl | hp
      · exact ⟨by simp, ‹_›⟩
      · obtain ⟨h1, h2⟩ := ih p hp; exact ⟨by simp [h1], h2⟩
    · obtain ⟨h1, h2⟩ := ih p hp; exact ⟨by simp [h1], h2⟩
theorem T_open {κ : Bool} {S : List Nat} {w0 : World} {H : List Res} {K0 : WP} {e : TypeId} {k : Nat} {v : Value} {q : Nat} {xs : List Value} (hm : Res.own e k v q xs ∈ H) (h : v.cells = #[v] → v.cells.size = 1 → v.cells.toList.all plain = true → TW κ S w0 H K0) : TW κ S w0 H K0 := fun w hw => by
  obtain ⟨a, c, rfl⟩ := Own.form (hw.hold _ hm); exact h rfl rfl rfl w hw
theorem T_opn {κ : Bool} {S : List Nat} {w0 : World} {H : List Res} {K0 : WP} {e : TypeId} {k : Nat} {v : Value} {q : Nat} {xs : List Value} (hm : Res.own e k v q xs ∈ H) (h : ∀ a c, v = .slice a q c → TW κ S w0 H K0) : TW κ S w0 H K0 := fun w hw => by
  obtain ⟨a, c, rfl⟩ := Own.form (hw.hold _ hm); exact h a c rfl w hw
theorem Tidy_ok (w : World) (v : Value) (l : List EnV) (hks : KeysOk l) (hn : l.length ≤ 1000000) (hv : Rd1 w v l.length (l.flatMap encE)) :
    Fn PR NoX 117 #[v] w (Rn [] w (fun r u => u = r) fun r => [ownE r (tidyE l)]) := by
  refine mk_flows_Tidy (TW.go (κ := false) (S := []) ?_)
  unfold sh_flows_Tidy
  obtain ⟨a, c, rfl, _⟩ := hv.form
  (have hQq := trivial; repeat ((first | clear hQq | (with_reducible first | refine T_drw ?_ | refine T_bx fun _ => ?_ | refine s_al fun _ => ?_ | refine s_bs0 fun _ => ?_ | refine s_bs1 (hK := fun _ => ?_) | refine s_bs2 (hK := fun _ => ?_) | refine s_bs3 (hK := fun _ => ?_) | refine s_bs5 (hK := fun _ => ?_) | refine s_bs6 (hK := fun _ => ?_))); (try simp (disch := first | omega | assumption | ((repeat (first | exact mem_h | exact Up.here | apply mem_t | apply Up.there)); first | done | fail) | (simp; first | done | omega | fail)) [])))
  refine T_cn ent_flows_New (fun w' _ => flowsNew_ok w' l.length hn) ?_
  rintro _ r rfl
  refine T_open (e := 71) (k := 4) (v := r) (q := (newE l.length).length) (xs := (newE l.length).flatMap encE) (by ((repeat (first | exact mem_h | exact Up.here | exact Sel.here | apply mem_t | apply Up.there | apply Sel.there)); first | done | fail)) fun hr1 hr2 hr3 => ?_
  (have hQq := trivial; repeat ((first | clear hQq | (with_reducible first | refine T_drw ?_ | refine T_bx fun _ => ?_ | refine s_al fun _ => ?_ | refine s_bs0 fun _ => ?_ | refine s_bs1 (hK := fun _ => ?_) | refine s_bs2 (hK := fun _ => ?_) | refine s_bs3 (hK := fun _ => ?_) | refine s_bs5 (hK := fun _ => ?_) | refine s_bs6 (hK := fun _ => ?_))); (try simp (disch := first | omega | assumption | ((repeat (first | exact mem_h | exact Up.here | apply mem_t | apply Up.there)); first | done | fail) | (simp; first | done | omega | fail)) [hr1])))
  rename_i bt
  refine T_cn ent_flows_table_live (fun w' _ => live_ok w' (.slice a l.length c) ⟨_, _, _, rfl⟩) ?_
  rintro b _ rfl
  refine T_rng (live_it b (.slice a l.length c) l hn) (wayA_len _) (fun i (acc : List EnV) => acc = ((liveL l).take i).foldl (fun acc p => putS acc p.2) (newE l.length)) (fun _ acc => [.pt bt (.cells #[r] 136), ownE r acc])
    (fun c (y : Unit) => False) (fun y => []) (newE l.length) (by simp) ?_ ?_ ?_ ?_ (by simp)
  · intro i _ F w1 _ hw
    exact RqS.of hv (fun h => by rw [enE_len]; omega) hw
  · rintro i hi acc F hψ K' hK _
    have hi' : i < (liveL l).length := by simpa using hi
    have hm : (liveL l)[i] ∈ liveL l := List.getElem_mem hi'
    have hst : ((liveL l).take (i + 1)).foldl (fun acc p => putS acc p.2) (newE l.length) = putS acc (liveL l)[i].2 := by
      rw [List.take_add_one, List.getElem?_eq_getElem hi', Option.toList_some, List.foldl_append, ← hψ]; rfl
    have hlen : acc.length ≤ 64 := by rw [hψ, tidy_len, newE_len]; omega
    simp only [List.getElem_map]
    generalize (liveL l)[i] = p at *
    have hkp := hks p.2 (liveF_mem p hm).1
    simp only [wayA, VF.app]
    (have hQq := trivial; repeat ((first | clear hQq | (with_reducible first | refine T_drw ?_ | refine T_bx fun _ => ?_ | refine s_al fun _ => ?_ | refine s_bs0 fun _ => ?_ | refine s_bs1 (hK := fun _ => ?_) | refine s_bs2 (hK := fun _ => ?_) | refine s_bs3 (hK := fun _ => ?_) | refine s_bs5 (hK := fun _ => ?_) | refine s_bs6 (hK := fun _ => ?_))); (try simp (disch := first | omega | assumption | ((repeat (first | exact mem_h | exact Up.here | apply mem_t | apply Up.there)); first | done | fail) | (simp; first | done | omega | fail)) [])))
    refine T_callP (Hc := [ownE r acc]) ent_flows_table_put (fun w' hw hs => tput_ok w' r acc p.2 hkp (by omega) hs) (by ((repeat (first | exact Part.nil | (apply Part.cons; · ((repeat (first | exact mem_h | exact Up.here | exact Sel.here | apply mem_t | apply Up.there | apply Sel.there)); first | done | fail)))); first | done | fail)) ?_
    rintro _ _ rfl
    refine TW.sub (TW.perm (hK (putS acc p.2) hst.symm) ?_) (H' := ownE r (putS acc p.2) :: .pt bt (.cells #[r] 136) :: F) ?_
    · exact List.Perm.swap ..
    · simp only [putS]; ((try simp only [List.cons_append, List.nil_append, List.append_assoc]); (repeat (first | exact List.Sublist.refl _ | exact List.nil_sublist _ | with_reducible apply List.Sublist.cons_cons | apply List.Sublist.cons)); first | done | fail)
  · intro acc hψ
    simp only [List.length_map, List.take_length] at hψ
    subst hψ
    (have hQq := trivial; repeat ((first | clear hQq | (with_reducible first | refine T_drw ?_ | refine T_bx fun _ => ?_ | refine s_al fun _ => ?_ | refine s_bs0 fun _ => ?_ | refine s_bs1 (hK := fun _ => ?_) | refine s_bs2 (hK := fun _ => ?_) | refine s_bs3 (hK := fun _ => ?_) | refine s_bs5 (hK := fun _ => ?_) | refine s_bs6 (hK := fun _ => ?_))); (try simp (disch := first | omega | assumption | ((repeat (first | exact mem_h | exact Up.here | apply mem_t | apply Up.there)); first | done | fail) | (simp; first | done | omega | fail)) [])))
    exact T_rets r rfl (by simp only [tidyE]; ((repeat (first | exact Sels.nil | (apply Sels.cons; · ((repeat (first | exact mem_h | exact Up.here | exact Sel.here | apply mem_t | apply Up.there | apply Sel.there)); first | done | fail)))); first | done | fail))
  · rintro _ _ h; exact h.elim
def del0 (l : List EnV) (key : ByteArray) : Option (List EnV) := if findE l key < 0 then none else some (l.set (findE l key).toNat tombE)
theorem del0_len {l m : List EnV} {key : ByteArray} (h : del0 l key = some m) : m.length = l.length := by
  unfold del0 at h
  by_cases c : findE l key < 0
  · rw [if_pos c] at h; cases h
  · rw [if_neg c] at h; injection h with h; rw [← h]; simp
def settleE (u : List EnV) : List EnV := if u.length < 2 * countE u 2 then tidyE u else u
def delE (l : List EnV) (key : ByteArray) : List EnV := match del0 l key with | some u => settleE u | none => l
theorem Deletec1_ok (w : World) (v : Value) (l : List EnV) (key : ByteArray) (b : Nat) (hk : key.size < 2 ^ 60) (hn : l.length ≤ 1000000) (hx : w.cell? ⟨b, 0, none⟩ = some (.string key)) (hb : b ∉ foots [ownE v l]) (hw : LW false (foots [ownE v l]) w [ownE v l] w) :
    Fn PR NoX 115 #[v, .pointer (some ⟨b, 0, none⟩)] w (Rn (foots [ownE v l]) w (fun (_ : Unit) u => u = .bool (del0 l key).isSome) fun _ => [ownE v ((del0 l key).getD l)]) := by
  refine mk_flows_Delete_c1 (TW.goH (κ := false) (S := foots [ownE v l]) ?_ hw)
  unfold sh_flows_Delete_c1
  (have hQq := trivial; repeat ((first | clear hQq | (with_reducible first | refine T_drw ?_ | refine T_bx fun _ => ?_ | refine s_al fun _ => ?_ | refine s_bs0 fun _ => ?_ | refine s_bs1 (hK := fun _ => ?_) | refine s_bs2 (hK := fun _ => ?_) | refine s_bs3 (hK := fun _ => ?_) | refine s_bs5 (hK := fun _ => ?_) | refine s_bs6 (hK := fun _ => ?_))); (try simp (disch := first | omega | assumption | ((repeat (first | exact mem_h | exact Up.here | apply mem_t | apply Up.there)); first | done | fail) | (simp; first | done | omega | fail)) [hx])))
  refine T_cv ent_probe_Find (fun w' hw' => probeFind_ok w' v l key hk hn (RdT.own (by ((repeat (first | exact mem_h | exact Up.here | exact Sel.here | apply mem_t | apply Up.there | apply Sel.there)); first | done | fail)) w' hw')) ?_
  by_cases c1 : findE l key < 0
  · have hd : del0 l key = none := if_pos c1
    (have hQq := trivial; repeat ((first | clear hQq | (with_reducible first | refine T_drw ?_ | refine T_bx fun _ => ?_ | refine s_al fun _ => ?_ | refine s_bs0 fun _ => ?_ | refine s_bs1 (hK := fun _ => ?_) | refine s_bs2 (hK := fun _ => ?_) | refine s_bs3 (hK := fun _ => ?_) | refine s_bs5 (hK := fun _ => ?_) | refine s_bs6 (hK := fun _ => ?_))); (try simp (disch := first | omega | assumption | ((repeat (first | exact mem_h | exact Up.here | apply mem_t | apply Up.there)); first | done | fail) | (simp; first | done | omega | fail)) [c1])))
    exact T_rets () (by simp [hd]) (by simp only [hd, Option.getD_none]; ((repeat (first | exact Sels.nil | (apply Sels.cons; · ((repeat (first | exact mem_h | exact Up.here | exact Sel.here | apply mem_t | apply Up.there | apply Sel.there)); first | done | fail)))); first | done | fail))
  · have hd : del0 l key = some (l.set (findE l key).toNat tombE) := if_neg c1
    have hlt := findE_lt (l := l) (key := key) (by omega)
    have h0 : 0 ≤ findE l key := by omega
    obtain ⟨i, hi⟩ : ∃ i : Nat, findE l key = i := ⟨(findE l key).toNat, by omega⟩
    rw [hi] at hd hlt c1 ⊢
    rw [Int.toNat_natCast] at hd hlt
    refine T_ptr (e := 71) (k := 4) (v := v) (q := l.length) (xs := l.flatMap encE) (by ((repeat (first | exact mem_h | exact Up.here | exact Sel.here | apply mem_t | apply Up.there | apply Sel.there)); first | done | fail)) (by omega) ?_
    rintro g c rfl
    (have hQq := trivial; repeat ((first | clear hQq | (with_reducible first | refine T_drw ?_ | refine T_bx fun _ => ?_ | refine s_al fun _ => ?_ | refine s_bs0 fun _ => ?_ | refine s_bs1 (hK := fun _ => ?_) | refine s_bs2 (hK := fun _ => ?_) | refine s_bs3 (hK := fun _ => ?_) | refine s_bs5 (hK := fun _ => ?_) | refine s_bs6 (hK := fun _ => ?_))); (try simp (disch := first | omega | assumption | ((repeat (first | exact mem_h | exact Up.here | apply mem_t | apply Up.there)); first | done | fail) | (simp; first | done | omega | fail)) [c1, hlt])))
    refine s_st_own (by ((repeat (first | exact mem_h | exact Up.here | exact Sel.here | apply mem_t | apply Up.there | apply Sel.there)); first | done | fail)) (by simp) (by rw [enE_len]; omega) (by simp) ?_
    refine T_rets () (by simp [hd]) ?_
    have := setL_flat (f := encE) (k := 4) (fun _ => rfl) l i tombE hlt
    simp only [hd, Option.getD_some, ownE, List.length_set, ← this]
    ((repeat (first | exact Sels.nil | (apply Sels.cons; · ((repeat (first | exact mem_h | exact Up.here | exact Sel.here | apply mem_t | apply Up.there | apply Sel.there)); first | done | fail)))); first | done | fail)
theorem flowsDelete_ok (w : World) (v : Value) (l : List EnV) (key : ByteArray) (hk : key.size < 2 ^ 60) (hks : KeysOk l) (hn : l.length ≤ 1000000) (hv : Rd1 w v l.length (l.flatMap encE)) :
    Fn PR NoX 73 #[v, .string key] w (Rn [] w (fun r u => u = .tuple #[if (del0 l key).isSome then r else v, .bool (del0 l key).isSome]) fun r => [ownE r (delE l key)]) := by
  refine mk_flows_Delete (TW.go (κ := false) (S := []) ?_)
  unfold sh_flows_Delete
  (have hQq := trivial; repeat ((first | clear hQq | (with_reducible first | refine T_drw ?_ | refine T_bx fun _ => ?_ | refine s_al fun _ => ?_ | refine s_bs0 fun _ => ?_ | refine s_bs1 (hK := fun _ => ?_) | refine s_bs2 (hK := fun _ => ?_) | refine s_bs3 (hK := fun _ => ?_) | refine s_bs5 (hK := fun _ => ?_) | refine s_bs6 (hK := fun _ => ?_))); (try simp (disch := first | omega | assumption | ((repeat (first | exact mem_h | exact Up.here | apply mem_t | apply Up.there)); first | done | fail) | (simp; first | done | omega | fail)) [])))
  rename_i b
  refine T_cn ent_flows_changed (fun w' hw' => changed_ok w' v l 115 [.pointer (some ⟨b, 0, none⟩)] (del0 l key) (fun m h => del0_len h) hn (hv.ks hw'.ks (by simp)) ent_flows_Delete_c1
    fun w2 r h hf hr => ?_) ?_
  · have hp := hw'.pt (b := b) (by ((repeat (first | exact mem_h | exact Up.here | exact Sel.here | apply mem_t | apply Up.there | apply Sel.there)); first | done | fail))
    have hb : b < sz w' := bl_lt hp
    exact Deletec1_ok w2 r l key b hk hn (h.cell (by simp) (hw'.cell1 (by ((repeat (first | exact mem_h | exact Up.here | exact Sel.here | apply mem_t | apply Up.there | apply Sel.there)); first | done | fail)))) (fun hc => by have := hf b hc; omega) hr
  · rintro r _ rfl
    cases h : del0 l key with
    | none =>
      have e : delE l key = l := by simp [delE, h]
      (have hQq := trivial; repeat ((first | clear hQq | (with_reducible first | refine T_drw ?_ | refine T_bx fun _ => ?_ | refine s_al fun _ => ?_ | refine s_bs0 fun _ => ?_ | refine s_bs1 (hK := fun _ => ?_) | refine s_bs2 (hK := fun _ => ?_) | refine s_bs3 (hK := fun _ => ?_) | refine s_bs5 (hK := fun _ => ?_) | refine s_bs6 (hK := fun _ => ?_))); (try simp (disch := first | omega | assumption | ((repeat (first | exact mem_h | exact Up.here | apply mem_t | apply Up.there)); first | done | fail) | (simp; first | done | omega | fail)) [])))
      exact T_rets r (by simp) (by rw [e]; ((repeat (first | exact Sels.nil | (apply Sels.cons; · ((repeat (first | exact mem_h | exact Up.here | exact Sel.here | apply mem_t | apply Up.there | apply Sel.there)); first | done | fail)))); first | done | fail))
    | some m =>
      have e : delE l key = settleE m := by simp [delE, h]
      have hml := del0_len h
      have hmk : KeysOk m := by
        unfold del0 at h
        by_cases c : findE l key < 0
        · rw [if_pos c] at h; cases h
        · rw [if_neg c] at h; injection h with h; rw [← h]
          intro x hx
          rcases List.mem_or_eq_of_mem_set hx with hx | rfl
          · exact hks x hx
          · simp [tombE]
      simp only [Option.isSome_some, if_true, Option.getD_some]
      refine T_opn (e := 71) (k := 4) (v := r) (q := m.length) (xs := m.flatMap encE) (by ((repeat (first | exact mem_h | exact Up.here | exact Sel.here | apply mem_t | apply Up.there | apply Sel.there)); first | done | fail)) ?_
      rintro ra rc rfl
      (have hQq := trivial; repeat ((first | clear hQq | (with_reducible first | refine T_drw ?_ | refine T_bx fun _ => ?_ | refine s_al fun _ => ?_ | refine s_bs0 fun _ => ?_ | refine s_bs1 (hK := fun _ => ?_) | refine s_bs2 (hK := fun _ => ?_) | refine s_bs3 (hK := fun _ => ?_) | refine s_bs5 (hK := fun _ => ?_) | refine s_bs6 (hK := fun _ => ?_))); (try simp (disch := first | omega | assumption | ((repeat (first | exact mem_h | exact Up.here | apply mem_t | apply Up.there)); first | done | fail) | (simp; first | done | omega | fail)) [])))
      refine T_cv ent_probe_Count (fun w' hw' => Count_ok w' _ m 2 (by omega) (RdT.own (by ((repeat (first | exact mem_h | exact Up.here | exact Sel.here | apply mem_t | apply Up.there | apply Sel.there)); first | done | fail)) w' hw')) ?_
      have hcl : countE m 2 ≤ m.length := List.countP_le_length
      by_cases c1 : m.length < 2 * countE m 2
      · have c1' : (m.length : Int) < 2 * (countE m 2 : Nat) := by omega
        have e2 : delE l key = tidyE m := by rw [e, settleE, if_pos c1]
        (have hQq := trivial; repeat ((first | clear hQq | (with_reducible first | refine T_drw ?_ | refine T_bx fun _ => ?_ | refine s_al fun _ => ?_ | refine s_bs0 fun _ => ?_ | refine s_bs1 (hK := fun _ => ?_) | refine s_bs2 (hK := fun _ => ?_) | refine s_bs3 (hK := fun _ => ?_) | refine s_bs5 (hK := fun _ => ?_) | refine s_bs6 (hK := fun _ => ?_))); (try simp (disch := first | omega | assumption | ((repeat (first | exact mem_h | exact Up.here | apply mem_t | apply Up.there)); first | done | fail) | (simp; first | done | omega | fail)) [c1'])))
        refine T_cn ent_flows_Tidy (fun w' hw' => Tidy_ok w' _ m hmk (by omega) (RdT.own (by ((repeat (first | exact mem_h | exact Up.here | exact Sel.here | apply mem_t | apply Up.there | apply Sel.there)); first | done | fail)) w' hw')) ?_
        rintro _ r rfl
        exact T_rets r rfl (by rw [e2]; ((repeat (first | exact Sels.nil | (apply Sels.cons; · ((repeat (first | exact mem_h | exact Up.here | exact Sel.here | apply mem_t | apply Up.there | apply Sel.there)); first | done | fail)))); first | done | fail))
      · have c1' : ¬ (m.length : Int) < 2 * (countE m 2 : Nat) := by omega
        have e2 : delE l key = m := by rw [e, settleE, if_neg c1]
        (have hQq := trivial; repeat ((first | clear hQq | (with_reducible first | refine T_drw ?_ | refine T_bx fun _ => ?_ | refine s_al fun _ => ?_ | refine s_bs0 fun _ => ?_ | refine s_bs1 (hK := fun _ => ?_) | refine s_bs2 (hK := fun _ => ?_) | refine s_bs3 (hK := fun _ => ?_) | refine s_bs5 (hK := fun _ => ?_) | refine s_bs6 (hK := fun _ => ?_))); (try simp (disch := first | omega | assumption | ((repeat (first | exact mem_h | exact Up.here | apply mem_t | apply Up.there)); first | done | fail) | (simp; first | done | omega | fail)) [c1'])))
        exact T_rets (.slice ra m.length rc) rfl (by rw [e2]; ((repeat (first | exact Sels.nil | (apply Sels.cons; · ((repeat (first | exact mem_h | exact Up.here | exact Sel.here | apply mem_t | apply Up.there | apply Sel.there)); first | done | fail)))); first | done | fail))
/-- are all flows found where they stand? -/
def rightE (l : List EnV) : Bool := (liveL l).all fun p => decide (findE l p.2.key = p.1)
end Go.Proofs.YtggakcpabomliaaGreat
namespace Go.Proofs.YtggakcpabomliaaGreat
open Go
def sh_points_Of (X : Nat → Prop) (t0 : Value) (R : Value → WP) : WP :=
  jn (n := 2) (fun t3 t10 =>
  R t3) fun J1 =>
  cal PR X 136 [t0] fun t7 =>
  cal PR X 135 [t7, (.func (.func 137) #[] #[])] fun t8 =>
  pur PR (builtinS .len #[190] 0 [t8]) fun t9 =>
  lp (n := 2) (fun L2 t3_1 t10_1 =>
  pur PR (binOp .lss 3 t10_1 t9) fun t11 =>
  jn (n := 0) (
  jn (n := 1) (fun t3_2 =>
  pur PR (binOp .add 3 t10_1 (.int .i64 1)) fun t18 =>
  L2 t3_2 t18) fun J3 =>
  pur PR (Instr.indexAt 190 t8 t10_1) fun t12 =>
  rds PR (Instr.loadAt 193 t12) fun t13 =>
  lou PR X (Instr.alloc 193 true (.tuple #[])) fun t5 =>
  sto PR X (Instr.storeAt 193 t5 t13) <|
  rds PR (Instr.loadAt 193 t5) fun t15 =>
  lou PR X (Instr.buildSlice 146 1 #[(0, t15)]) fun t16 =>
  lou PR X (builtinS .append #[146, 146] 146 [t3_1, t16]) fun t17 =>
  J3 t17) fun J4 =>
  cnd t11 (
  J4) (
  J1 t3_1 t10_1)) (.slice none 0 0) (.int .i64 0)
theorem sh_points_Of_eq (X : Nat → Prop) (t0 : Value) (R : Value → WP) : vcFun PR X Tryz.f89 [t0] R = sh_points_Of X t0 R := by kernel_rfl
theorem ent_points_Of : Enters PR 89 := enters_of Tryz.func89 (by kernel_rfl) rfl
theorem mk_points_Of {X : Nat → Prop} {t0 : Value} {R : Value → WP} {w : World} (h : sh_points_Of X t0 R w) : Fn PR X 89 #[t0] w R := fn_of_vc (args := [t0]) mixed Tryz.func89 (by rw [sh_points_Of_eq]; exact h)
def sh_points_each (X : Nat → Prop) (t0 : Value) (R : Value → WP) : WP :=
  lou PR X (Instr.box 32 t0) fun t1 =>
  pur PR (Instr.makeFunc (.func 174) #[] #[t1]) fun t3 =>
  R t3
theorem sh_points_each_eq (X : Nat → Prop) (t0 : Value) (R : Value → WP) : vcFun PR X Tryz.f136 [t0] R = sh_points_each X t0 R := by kernel_rfl
theorem ent_points_each : Enters PR 136 := enters_of Tryz.func136 (by kernel_rfl) rfl
theorem mk_points_each {X : Nat → Prop} {t0 : Value} {R : Value → WP} {w : World} (h : sh_points_each X t0 R w) : Fn PR X 136 #[t0] w R := fn_of_vc (args := [t0]) mixed Tryz.func136 (by rw [sh_points_each_eq]; exact h)
def sh_points_place_order (X : Nat → Prop) (t0 t1 : Value) (R : Value → WP) : WP :=
  lou PR X (Instr.box 193 t0) fun t2 =>
  lou PR X (Instr.box 193 t1) fun t3 =>
  drw <|
  pur PR (Instr.fieldAt 193 t2 0) fun t5 =>
  rds PR (Instr.loadAt 68 t5) fun t6 =>
  pur PR (Instr.fieldAt 193 t3 0) fun t7 =>
  rds PR (Instr.loadAt 68 t7) fun t8 =>
  pur PR (Instr.fieldAt 193 t2 1) fun t10 =>
  rds PR (Instr.loadAt 3 t10) fun t11 =>
  pur PR (Instr.fieldAt 193 t3 1) fun t12 =>
  rds PR (Instr.loadAt 3 t12) fun t13 =>
  cal PR X 177 [t6, t8] fun t9 =>
  watch PR [(none, (Instr.loadAt 3 t12), t13), (none, (Instr.loadAt 3 t10), t11)] <|
  cal PR X 96 [t11, t13] fun t14 =>
  lou PR X (Instr.buildSlice 34 2 #[(0, t9), (1, t14)]) fun t15 =>
  cal PR X 176 [t15] fun t16 =>
  R t16
theorem sh_points_place_order_eq (X : Nat → Prop) (t0 t1 : Value) (R : Value → WP) : vcFun PR X Tryz.f137 [t0, t1] R = sh_points_place_order X t0 t1 R := by kernel_rfl
theorem ent_points_place_order : Enters PR 137 := enters_of Tryz.func137 (by kernel_rfl) rfl
theorem mk_points_place_order {X : Nat → Prop} {t0 t1 : Value} {R : Value → WP} {w : World} (h : sh_points_place_order X t0 t1 R w) : Fn PR X 137 #[t0, t1] w R := fn_of_vc (args := [t0, t1]) mixed Tryz.func137 (by rw [sh_points_place_order_eq]; exact h)
def sh_points_each_c1 (X : Nat → Prop) (t0 t1 : Value) (R : Value → WP) : WP :=
  rds PR (Instr.loadAt 32 t1) fun t6 =>
  pur PR (builtinS .len #[32] 0 [t6]) fun t7 =>
  lp (n := 1) (fun L1 t8 =>
  pur PR (binOp .lss 3 t8 t7) fun t9 =>
  jn (n := 0) (
  jn (n := 1) (fun t17 =>
  pur PR (binOp .add 3 t8 (.int .i64 1)) fun t31 =>
  L1 t31) fun J2 =>
  pur PR (Instr.indexAt 32 t6 t8) fun t10 =>
  rds PR (Instr.loadAt 103 t10) fun t11 =>
  lou PR X (Instr.alloc 103 true (.tuple #[])) fun t4 =>
  sto PR X (Instr.storeAt 103 t4 t11) <|
  pur PR (Instr.fieldAt 103 t4 1) fun t12 =>
  rds PR (Instr.loadAt 3 t12) fun t13 =>
  pur PR (builtinS .min #[3, 3] 0 [t13, (.int .i64 16)]) fun t14 =>
  pur PR (builtinS .max #[3, 3] 0 [(.int .i64 0), t14]) fun t15 =>
  pur PR (binOp .mul 3 (.int .i64 8) t15) fun t16 =>
  lp (n := 1) (fun L3 t17_1 =>
  pur PR (binOp .lss 3 t17_1 t16) fun t18 =>
  jn (n := 0) (
  jn (n := 0) (
  pur PR (binOp .add 3 t17_1 (.int .i64 1)) fun t30 =>
  L3 t30) fun J4 =>
  drw <|
  pur PR (Instr.fieldAt 103 t4 0) fun t21 =>
  rds PR (Instr.loadAt 3 t21) fun t22 =>
  pur PR (Instr.fieldAt 103 t4 0) fun t25 =>
  rds PR (Instr.loadAt 3 t25) fun t26 =>
  cal PR X 175 [t22, t17_1] fun t24 =>
  watch PR [(none, (Instr.loadAt 3 t25), t26)] <|
  pur PR (Instr.build 193 #[(0, t24), (1, t26)]) fun t27 =>
  cav PR X t0 [t27] fun t28 =>
  pur PR (Op.unary .not t28) fun t29 =>
  cnd t29 (
  R (.tuple #[])) (
  J4)) fun J5 =>
  cnd t18 (
  J5) (
  J2 t17_1)) (.int .i64 0)) fun J6 =>
  cnd t9 (
  J6) (
  R (.tuple #[]))) (.int .i64 0)
theorem sh_points_each_c1_eq (X : Nat → Prop) (t0 t1 : Value) (R : Value → WP) : vcFun PR X Tryz.f174 [t0, t1] R = sh_points_each_c1 X t0 t1 R := by kernel_rfl
theorem ent_points_each_c1 : Enters PR 174 := enters_of Tryz.func174 (by kernel_rfl) rfl
theorem mk_points_each_c1 {X : Nat → Prop} {t0 t1 : Value} {R : Value → WP} {w : World} (h : sh_points_each_c1 X t0 t1 R w) : Fn PR X 174 #[t0, t1] w R := fn_of_vc (args := [t0, t1]) mixed Tryz.func174 (by rw [sh_points_each_c1_eq]; exact h)
theorem ce_points_each_c1 {X : Nat → Prop} {t0 t1 : Value} {K : Value → WP} {w : World} (h : Fn PR X 174 #[t0, t1] w K) : calE PR X 174 [t0, t1] K w := ⟨ent_points_each_c1, h⟩
def sh_points_Hash (X : Nat → Prop) (t0 t1 : Value) (R : Value → WP) : WP :=
  pur PR (convert 3 68 t0) fun t6 =>
  cal PR X 151 [t6, (.int .i64 4)] fun t7 =>
  cal PR X 39 [t7] fun t8 =>
  pur PR (convert 3 68 t1) fun t10 =>
  cal PR X 151 [t10, (.int .i64 2)] fun t11 =>
  cal PR X 151 [(.int .u64 0), (.int .i64 4)] fun t12 =>
  pur PR (binOp .add 9 t11 t12) fun t13 =>
  cal PR X 90 [t8, t13] fun t14 =>
  R t14
theorem sh_points_Hash_eq (X : Nat → Prop) (t0 t1 : Value) (R : Value → WP) : vcFun PR X Tryz.f175 [t0, t1] R = sh_points_Hash X t0 t1 R := by kernel_rfl
theorem ent_points_Hash : Enters PR 175 := enters_of Tryz.func175 (by kernel_rfl) rfl
theorem mk_points_Hash {X : Nat → Prop} {t0 t1 : Value} {R : Value → WP} {w : World} (h : sh_points_Hash X t0 t1 R w) : Fn PR X 175 #[t0, t1] w R := fn_of_vc (args := [t0, t1]) mixed Tryz.func175 (by rw [sh_points_Hash_eq]; exact h)
end Go.Proofs.YtggakcpabomliaaGreat
namespace Go.Proofs.YtggakcpabomliaaGreat
open Go
def hashP (id : Int) (n : Nat) : Nat := fnvJ (fnvS (putV (IntKind.u64.wrap id) 4)) (putV n 2 ++ putV 0 4)
theorem Hash_ok (w : World) (id : Int) (n : Nat) (hn : n < 2 ^ 62) : Fn PR NoX 175 #[.int .i64 id, .int .i64 (n : Int)] w (fun v w' => v = .int .u64 (hashP id n : Nat) ∧ But [] w w') := by
  refine Fn.pure (mk_points_Hash (TW.go (κ := false) (S := []) ?_))
  unfold sh_points_Hash
  (have hQq := trivial; repeat ((first | clear hQq | (with_reducible first | refine T_drw ?_ | refine T_bx fun _ => ?_ | refine s_al fun _ => ?_)); (try simp (disch := first | omega | assumption | ((repeat (first | exact mem_h | exact Up.here | apply mem_t | apply Up.there)); first | done | fail) | (simp; first | done | omega | fail)) [])))
  refine T_cv ent_octet_Put (fun w' hw' => Put_ok w' _ _) ?_
  (have hQq := trivial; repeat ((first | clear hQq | (with_reducible first | refine T_drw ?_ | refine T_bx fun _ => ?_ | refine s_al fun _ => ?_)); (try simp (disch := first | omega | assumption | ((repeat (first | exact mem_h | exact Up.here | apply mem_t | apply Up.there)); first | done | fail) | (simp; first | done | omega | fail)) [])))
  refine T_cv ent_fnv_Sum (fun w' _ => fnvSum_ok w' _ (by simp)) ?_
  (have hQq := trivial; repeat ((first | clear hQq | (with_reducible first | refine T_drw ?_ | refine T_bx fun _ => ?_ | refine s_al fun _ => ?_)); (try simp (disch := first | omega | assumption | ((repeat (first | exact mem_h | exact Up.here | apply mem_t | apply Up.there)); first | done | fail) | (simp; first | done | omega | fail)) [])))
  refine T_cv ent_octet_Put (fun w' hw' => Put_ok w' _ _) ?_
  (have hQq := trivial; repeat ((first | clear hQq | (with_reducible first | refine T_drw ?_ | refine T_bx fun _ => ?_ | refine s_al fun _ => ?_)); (try simp (disch := first | omega | assumption | ((repeat (first | exact mem_h | exact Up.here | apply mem_t | apply Up.there)); first | done | fail) | (simp; first | done | omega | fail)) [])))
  refine T_cv ent_octet_Put (fun w' hw' => Put_ok w' _ _) ?_
  (have hQq := trivial; repeat ((first | clear hQq | (with_reducible first | refine T_drw ?_ | refine T_bx fun _ => ?_ | refine s_al fun _ => ?_)); (try simp (disch := first | omega | assumption | ((repeat (first | exact mem_h | exact Up.here | apply mem_t | apply Up.there)); first | done | fail) | (simp; first | done | omega | fail)) [p_addS])))
  refine T_cv ent_fnv_Join (fun w' _ => Join_ok w' _ _ (fnvS_lt _) (by simp)) ?_
  exact T_ret rfl
def wtN (b : BkV) : Nat := 8 * (max 0 (min b.2 16)).toNat
def ptsB (b : BkV) : List (Nat × Int) := (List.range (wtN b)).map fun n => (hashP b.1 n, b.1)
/-- the points of a pool -/
def ptsL (p : List BkV) : List (Nat × Int) := p.flatMap ptsB
def encP (x : Nat × Int) : List Value := [.int .u64 (x.1 : Nat), .int .i64 x.2]
def ptA (x : Nat × Int) : List Value := [.agg #[.int .u64 (x.1 : Nat), .int .i64 x.2]]
abbrev eachG (b : Nat) : Value := .func (.func 174) #[] #[.pointer (some ⟨b, 0, none⟩)]
theorem peach_ok (w : World) (v : Value) (hv : ∃ a n c, v = .slice a n c) : Fn PR NoX 136 #[v] w (Rn [] w (fun b u => u = eachG b) fun b => [.pt b (.cells #[v] 32)]) := by
  obtain ⟨a, n, c, rfl⟩ := hv
  refine mk_points_each (TW.go (κ := false) (S := []) ?_)
  unfold sh_points_each
  (have hQq := trivial; repeat ((first | clear hQq | (with_reducible first | refine T_drw ?_ | refine T_bx fun _ => ?_ | refine s_al fun _ => ?_)); (try simp (disch := first | omega | assumption | ((repeat (first | exact mem_h | exact Up.here | apply mem_t | apply Up.there)); first | done | fail) | (simp; first | done | omega | fail)) [])))
  rename_i b
  exact T_retn b rfl (by simp)
theorem ptsL_at {p : List BkV} {i : Nat} {x : BkV} (hx : p[i]? = some x) : ptsL (p.take (i + 1)) = ptsL (p.take i) ++ ptsB x := by
  rw [List.take_add_one, hx]; simp [ptsL]
theorem ptsL_get {p : List BkV} {i n : Nat} {x : BkV} (hx : p[i]? = some x) (hn : n < wtN x) : (ptsL p)[(ptsL (p.take i)).length + n]? = some (hashP x.1 n, x.1) := by
  have e : p = p.take (i + 1) ++ p.drop (i + 1) := (List.take_append_drop _ _).symm
  conv => lhs; arg 1; rw [e]
  have h2 : ptsL (p.take (i + 1) ++ p.drop (i + 1)) = ptsL (p.take (i + 1)) ++ ptsL (p.drop (i + 1)) := by simp only [ptsL, List.flatMap_append]
  rw [h2, ptsL_at hx, List.append_assoc, List.getElem?_append_right (by omega), Nat.add_sub_cancel_left, List.getElem?_append_left (by simp [ptsB, hn])]
  simp [ptsB, hn]
theorem peach_it (b : Nat) (v : Value) (p : List BkV) (hn : p.length ≤ 1000000) : IterT (eachG b) [.pt b (.cells #[v] 32)] (RqS v p.length (p.flatMap encB)) ((ptsL p).map ptA) := by
  refine ⟨_, _, _, rfl, fun y J E hJ hE stJ stE hy w0 h0 => ?_⟩
  obtain ⟨a, c, hv, hr⟩ := (hJ _ _ _ h0).2
  subst hv
  refine ce_points_each_c1 (mk_points_each_c1 (TW.at (κ := true) ?_ (hJ _ _ _ h0).1))
  unfold sh_points_each_c1
  (have hQq := trivial; repeat ((first | clear hQq | (with_reducible first | refine T_drw ?_ | refine T_bx fun _ => ?_ | refine s_al fun _ => ?_)); (try simp (disch := first | omega | assumption | ((repeat (first | exact mem_h | exact Up.here | apply mem_t | apply Up.there)); first | done | fail) | (simp; first | done | omega | fail)) [])))
  refine T_forJ p.length (fun i => (ptsL (p.take i)).length) (fun _ => _) hJ stJ (by simpa [ptsL] using h0) fun i a' hi hJi hRi L hL => ?_
  by_cases hlt : i < p.length
  · obtain ⟨_, _, hv, hr⟩ := hRi
    obtain ⟨b', o, hb, hrow, hnb⟩ := hr (by omega)
    cases hv
    subst hb
    obtain ⟨x, hx⟩ : ∃ x, p[i]? = some x := ⟨_, List.getElem?_eq_getElem hlt⟩
    have h1 := hrow.at (f := encB) (k := 2) (fun _ => rfl) hx
    rw [encB] at h1
    have hlen : (ptsL (p.take (i + 1))).length = (ptsL (p.take i)).length + wtN x := by rw [ptsL_at hx]; simp [ptsB]
    rw [hlen] at hL
    have hw : 8 * max 0 (min x.2 16) = (wtN x : Nat) := by unfold wtN; omega
    have hwl : wtN x ≤ 128 := by unfold wtN; omega
    (have hQq := trivial; repeat ((first | clear hQq | (with_reducible first | refine T_drw ?_ | refine T_bx fun _ => ?_ | refine s_al fun _ => ?_)); (try simp (disch := first | omega | assumption | ((repeat (first | exact mem_h | exact Up.here | apply mem_t | apply Up.there)); first | done | fail) | (simp; first | done | omega | fail)) [hlt, h1])))
    rename_i b4
    rw [hw]
    refine T_forJ (wtN x) (fun n => (ptsL (p.take i)).length + n) (fun _ => _) hJ stJ hJi fun n a2 hi2 hJn hRn L2 hL2 => ?_
    by_cases hlt2 : n < wtN x
    · have hg := ptsL_get hx hlt2
      obtain ⟨hgi, hg'⟩ := List.getElem?_eq_some_iff.1 hg
      (have hQq := trivial; repeat ((first | clear hQq | (with_reducible first | refine T_drw ?_ | refine T_bx fun _ => ?_ | refine s_al fun _ => ?_)); (try simp (disch := first | omega | assumption | ((repeat (first | exact mem_h | exact Up.here | apply mem_t | apply Up.there)); first | done | fail) | (simp; first | done | omega | fail)) [hlt2])))
      refine T_cv ent_points_Hash (fun w' _ => Hash_ok w' x.1 n (by omega)) ?_
      (have hQq := trivial; repeat ((first | clear hQq | (with_reducible first | refine T_drw ?_ | refine T_bx fun _ => ?_ | refine s_al fun _ => ?_)); (try simp (disch := first | omega | assumption | ((repeat (first | exact mem_h | exact Up.here | apply mem_t | apply Up.there)); first | done | fail) | (simp; first | done | omega | fail)) [])))
      refine T_yie hJ hE stJ hy hJn (by simpa using hgi) (by rw [List.getElem_map, hg', ptA]) (fun w3 h => ?_) (fun w3 h => ?_)
      · (have hQq := trivial; repeat ((first | clear hQq | (with_reducible first | refine T_drw ?_ | refine T_bx fun _ => ?_ | refine s_al fun _ => ?_)); (try simp (disch := first | omega | assumption | ((repeat (first | exact mem_h | exact Up.here | apply mem_t | apply Up.there)); first | done | fail) | (simp; first | done | omega | fail)) [])))
        exact fun w' hw' => hL2 hlt2 w' (stJ _ _ _ _ _ h hw')
      · (have hQq := trivial; repeat ((first | clear hQq | (with_reducible first | refine T_drw ?_ | refine T_bx fun _ => ?_ | refine s_al fun _ => ?_)); (try simp (disch := first | omega | assumption | ((repeat (first | exact mem_h | exact Up.here | apply mem_t | apply Up.there)); first | done | fail) | (simp; first | done | omega | fail)) [])))
        exact T_endE stE h
    · obtain rfl : n = wtN x := by omega
      (have hQq := trivial; repeat ((first | clear hQq | (with_reducible first | refine T_drw ?_ | refine T_bx fun _ => ?_ | refine s_al fun _ => ?_)); (try simp (disch := first | omega | assumption | ((repeat (first | exact mem_h | exact Up.here | apply mem_t | apply Up.there)); first | done | fail) | (simp; first | done | omega | fail)) [])))
      exact fun w' hw' => hL hlt w' (stJ _ _ _ _ _ hJn (hw'.sub (by simp)))
  · obtain rfl : i = p.length := by omega
    rw [List.take_length] at hJi
    (have hQq := trivial; repeat ((first | clear hQq | (with_reducible first | refine T_drw ?_ | refine T_bx fun _ => ?_ | refine s_al fun _ => ?_)); (try simp (disch := first | omega | assumption | ((repeat (first | exact mem_h | exact Up.here | apply mem_t | apply Up.there)); first | done | fail) | (simp; first | done | omega | fail)) [])))
    exact T_endJ stJ (by simpa using hJi)
end Go.Proofs.YtggakcpabomliaaGreat
