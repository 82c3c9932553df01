/- image: what is written is read back, in plain Lean. No condition. -/
import Derived.Test.YtbcldlbmbdfejaaQ16ImageBytes
import Derived.Test.YtbcldlbmbdfejaaQ18ImageBytes
import Derived.Test.YtbcldlbmbdfejaaQ10ImageBytes
import Derived.Test.YtbcldlbmbdfejaaQ17ImageBytes
namespace Go.Proofs.Ytbcldlbmbdfejaa
open Go.ChangeShapes Go.WideShapes Go.ChangeAt Go.RowKit
/-- A reader reads a value out of what was written, wherever that stands. -/
def Reads {α : Type} (B : List UInt8) (R : List UInt8 → RM α) (v : α) : Prop :=
  ∀ pre t : List UInt8, R (pre ++ (B ++ t)) (pre.length, 0) = (v, (pre.length + B.length, 0))
theorem Reads.pure {α : Type} (v : α) : Reads [] (fun _ => pureR v) v := fun pre t => rfl
theorem Reads.bind {α β : Type} {B1 B2 : List UInt8} {R1 : List UInt8 → RM α} {G : List UInt8 → α → RM β} {v1 : α} {v2 : β} (h1 : Reads B1 R1 v1) (h2 : Reads B2 (fun bs => G bs v1) v2) : Reads (B1 ++ B2) (fun bs => bindR (R1 bs) (G bs)) v2 := by
  intro pre t
  have e1 := h1 pre (B2 ++ t)
  have e2 := h2 (pre ++ B1) t
  rw [List.append_assoc] at e2
  show bindR (R1 _) (G _) (pre.length, 0) = _
  rw [List.append_assoc]
  unfold bindR
  rw [e1]
  simp only
  rw [List.length_append] at e2
  simp only at e2
  rw [e2, List.length_append, Nat.add_assoc]
theorem Reads.last {α β : Type} {B1 : List UInt8} {R1 : List UInt8 → RM α} {G : List UInt8 → α → RM β} {v1 : α} {v2 : β} (h1 : Reads B1 R1 v1) (h2 : ∀ bs, G bs v1 = pureR v2) : Reads B1 (fun bs => bindR (R1 bs) (G bs)) v2 := by
  have h : Reads (B1 ++ []) (fun bs => bindR (R1 bs) (G bs)) v2 := Reads.bind h1 (fun pre t => by show G _ v1 _ = _; rw [h2]; rfl)
  rwa [List.append_nil] at h
theorem room4 {v : Int} {n : Nat} (h1 : 1 ≤ n) (hn : n ≤ 4) (h : roomB v n = true) : ((u64V v % 256 ^ n : Nat) : Int) = v := by
  unfold roomB at h
  have h2 := of_decide_eq_true h
  have e : (2 : Int) ^ (8 * n) = ((256 ^ n : Nat) : Int) := by
    have : n = 1 ∨ n = 2 ∨ n = 3 ∨ n = 4 := by omega
    rcases this with rfl | rfl | rfl | rfl <;> decide
  have h3 : (256 ^ n : Nat) ≤ 4294967296 := by
    have : n = 1 ∨ n = 2 ∨ n = 3 ∨ n = 4 := by omega
    rcases this with rfl | rfl | rfl | rfl <;> decide
  rw [e] at h2
  unfold u64V
  rw [Nat.mod_eq_of_lt (by omega)]
  omega
theorem Reads.get {v : Int} {n : Nat} (h1 : 1 ≤ n) (hn : n ≤ 4) (h : roomB v n = true) : Reads (putB (u64V v) n) (fun bs => getS bs n) v := by
  intro pre t
  show getS _ n _ = _
  unfold getS
  rw [if_neg (by simp), get_put_atI pre t _ n h1 (by omega), room4 h1 hn h, putB_length]
theorem Reads.less {v : Int} (h : roomB (v + 1) 2 = true) : Reads (putB (u64V (v + 1)) 2) lessS v := by
  intro pre t
  have e := Reads.get (v := v + 1) (n := 2) (by omega) (by omega) h pre t
  unfold lessS
  simp only at e
  rw [e]
  show (v + 1 - 1, _) = _
  rw [show v + 1 - 1 = v by omega]
theorem Reads.textT {s : List UInt8} : Reads s (fun bs => textT bs (s.length : Nat)) s := by
  intro pre t
  show Go.Proofs.Ytbcldlbmbdfejaa.textT _ _ _ = _
  unfold Go.Proofs.Ytbcldlbmbdfejaa.textT
  rw [if_neg (by simp), if_neg (by simp only [List.length_append]; omega)]
  simp only [Int.toNat_natCast]
  rw [List.drop_left, List.take_left]
theorem Reads.text {s : List UInt8} {n : Nat} (h1 : 1 ≤ n) (hn : n ≤ 4) (h : roomB s.length n = true) : Reads (textB s n) (fun bs => textS bs n) s := by
  unfold textB textS
  exact Reads.bind (Reads.get h1 hn h) Reads.textT
theorem Reads.row {α β : Type} {F : α → List UInt8} {R : List UInt8 → RM β} {f : α → β} (l : List α) (h : ∀ x ∈ l, Reads (F x) R (f x)) : Reads (l.flatMap F) (fun bs => rowS (R bs) l.length) (l.map f) := by
  induction l with
  | nil => exact Reads.pure _
  | cons x l ih =>
    intro pre t
    have e1 := h x (List.mem_cons_self ..) pre (l.flatMap F ++ t)
    have e2 := ih (fun y hy => h y (List.mem_cons_of_mem _ hy)) (pre ++ F x) t
    rw [List.append_assoc, List.length_append] at e2
    simp only [List.flatMap_cons, List.length_cons, List.map_cons, rowS]
    rw [if_neg (by simp), List.append_assoc, e1]
    simp only
    simp only at e2
    rw [e2, List.length_append, Nat.add_assoc]
theorem Reads.many {α β : Type} {F : α → List UInt8} {R : List UInt8 → RM β} {f : α → β} (l : List α) (hl : roomB l.length 2 = true) (h : ∀ x ∈ l, Reads (F x) R (f x)) : Reads (rowB F l) (fun bs => manyS bs (R bs)) (l.map f) := by
  unfold rowB manyS
  exact Reads.bind (Reads.get (by omega) (by omega) hl) (Reads.row l h)
theorem rowO_no {α : Type} {B : α → Bool} {l : List α} (h : rowO B l = false) : roomB l.length 2 = true ∧ ∀ x ∈ l, B x = false := by
  unfold rowO at h
  simp only [Bool.or_eq_false_iff, Bool.not_eq_false', List.any_eq_false] at h
  exact ⟨h.1, fun x hx => by simpa using h.2 x hx⟩
theorem Reads.ints {l : List Int} (h : intsO l = false) : Reads (intsB l) (fun bs => manyS bs (getS bs 2)) l := by
  have h2 := rowO_no h
  have h3 := Reads.many (F := fun v => putB (u64V v) 2) (R := fun bs => getS bs 2) (f := fun v => v) l h2.1 (fun v hv => Reads.get (by omega) (by omega) (by simpa using h2.2 v hv))
  rwa [List.map_id'] at h3
theorem Reads.cls {c : CW} (h : c.odd = false) : Reads c.bytes classS c.p := by
  unfold CW.odd at h
  rw [badN1] at h
  simp only [Bool.or_eq_false_iff, Bool.not_eq_false'] at h
  obtain ⟨⟨⟨⟨h1, h2⟩, h3⟩, h4⟩, h5⟩ := h
  unfold CW.bytes
  rw [nexts1, List.append_assoc, List.append_assoc, List.append_assoc]
  exact Reads.bind (Reads.text (by omega) (by omega) h1) (Reads.bind (Reads.less h2) (Reads.bind (Reads.get (by omega) (by omega) h3) (Reads.bind (Reads.ints h4) (Reads.last (Reads.ints h5) fun bs => rfl))))
theorem Reads.stat (b : Bool) : Reads [] (fun _ => statS (statI b)) () := by
  intro pre t
  show statS _ _ = _
  unfold statS
  rw [if_neg (by unfold statI; cases b <;> simp)]
  rfl
theorem Reads.meth {m : MW} (h : m.odd = false) : Reads m.bytes methodS m := by
  unfold MW.odd at h
  rw [badN2] at h
  simp only [Bool.or_eq_false_iff, Bool.not_eq_false'] at h
  obtain ⟨⟨⟨⟨h1, h2⟩, h3⟩, h4⟩, h5, h6⟩ := h
  unfold MW.bytes
  rw [nexts2, List.append_assoc, List.append_assoc, List.append_assoc]
  refine Reads.bind (Reads.get (by omega) (by omega) h1) (Reads.bind (Reads.text (by omega) (by omega) h2) (Reads.bind (Reads.text (by omega) (by omega) h3) (Reads.bind (Reads.get (by omega) (by omega) h4) ?_)))
  rw [← List.nil_append (putB (u64V (m.slot + 1)) 2 ++ _)]
  refine Reads.bind (Reads.stat m.stat) (Reads.bind (Reads.less h5) (Reads.last (Reads.less h6) fun bs => ?_))
  rw [show decide (statI m.stat = 1) = m.stat by unfold statI; cases m.stat <;> rfl]
theorem Reads.trap {t : TW} (h : t.odd = false) : Reads t.bytes trapS t := by
  unfold TW.odd at h
  rw [badN1, bad3] at h
  simp only [Bool.or_eq_false_iff, Bool.not_eq_false'] at h
  obtain ⟨⟨⟨h1, h2⟩, h3⟩, h4⟩ := h
  unfold TW.bytes
  rw [nexts1, puts3, List.append_assoc, List.append_assoc]
  exact Reads.bind (Reads.get (by omega) (by omega) h1) (Reads.bind (Reads.get (by omega) (by omega) h2) (Reads.bind (Reads.get (by omega) (by omega) h3) (Reads.last (Reads.less h4) fun bs => rfl)))
/-- How a code's head reads. -/
def kpP (pos : Int) (k : KW) (d : List UInt8) : KP := ⟨hereI pos d, (d.length : Int), k.stack, k.locals, k.args, k.traps⟩
def kpL (pos : Int) : List (KW × List UInt8) → List KP
  | [] => []
  | p :: r => kpP pos p.1 p.2 :: kpL (pos + p.2.length) r
theorem Reads.code {pos : Int} {k : KW} {d : List UInt8} (h : codeO pos k d = false) : Reads (codeB pos k d) codeS (kpP pos k d) := by
  unfold codeO at h
  rw [bad4] at h
  simp only [Bool.or_eq_false_iff, Bool.not_eq_false'] at h
  obtain ⟨⟨h1, ⟨⟨h2, h3⟩, h4⟩, h5⟩, h6⟩ := h
  have h7 := rowO_no h6
  have h8 := Reads.many (F := TW.bytes) (R := trapS) (f := fun t => t) k.traps h7.1 (fun t ht => Reads.trap (h7.2 t ht))
  rw [List.map_id'] at h8
  unfold codeB
  rw [puts4]
  simp only [List.append_assoc]
  exact Reads.bind (Reads.get (by omega) (by omega) h1) (Reads.bind (Reads.get (by omega) (by omega) h2) (Reads.bind (Reads.get (by omega) (by omega) h3) (Reads.bind (Reads.get (by omega) (by omega) h4) (Reads.bind (Reads.get (by omega) (by omega) h5) (Reads.last h8 fun bs => rfl)))))
theorem Reads.heads (P : List (KW × List UInt8)) (pos : Int) (h : headsO pos P = false) : Reads (headsB pos P) (fun bs => rowS (codeS bs) P.length) (kpL pos P) := by
  induction P generalizing pos with
  | nil => exact Reads.pure _
  | cons p P ih =>
    simp only [headsO, Bool.or_eq_false_iff] at h
    intro pre t
    have e1 := Reads.code h.1 pre (headsB (pos + p.2.length) P ++ t)
    have e2 := ih _ h.2 (pre ++ codeB pos p.1 p.2) t
    rw [List.append_assoc, List.length_append] at e2
    simp only [headsB, List.length_cons, kpL, rowS]
    rw [if_neg (by simp), List.append_assoc, e1]
    simp only
    simp only at e2
    rw [e2, List.length_append, Nat.add_assoc]
theorem laid_kpL (P : List (KW × List UInt8)) (pos : Int) : laidP (kpL pos P) pos (pos + (lensL (P.map (·.2)) : Nat)) = true := by
  induction P generalizing pos with
  | nil => simp [kpL, laidP, lensL]
  | cons p P ih =>
    simp only [kpL, laidP, kpP]
    rw [if_neg (by unfold hereI; split <;> omega)]
    have := ih (pos + p.2.length)
    rw [show pos + (lensL ((p :: P).map (·.2)) : Nat) = pos + p.2.length + (lensL (P.map (·.2)) : Nat) by unfold lensL; simp; omega]
    exact this
def bodyB (x : XW) (D : List (List UInt8)) : List UInt8 :=
  rowB CW.bytes x.cs ++ (rowB MW.bytes x.ms ++ (putB (u64V x.st) 2 ++ (intsB x.ss ++ (rowB (fun s => textB s 1) x.ys ++ (rowB (fun s => textB s 2) x.xs ++ (putB (u64V x.main) 2 ++ headsB (startX x : Nat) (x.ks.zip D)))))))
theorem bytesX_body (x : XW) (D : List (List UInt8)) : bytesX x D = magicB ++ (bodyB x D ++ D.flatten) := by unfold bytesX tabB bodyB; simp only [List.append_assoc]
def readP (x : XW) (D : List (List UInt8)) : XP := ⟨x.cs.map CW.p, x.ms, x.st, x.ss, x.ys, x.xs, kpL (startX x : Nat) (x.ks.zip D), x.main⟩
theorem Reads.image {x : XW} {D : List (List UInt8)} (h : oddX x D = false) (hm : x.ks.length = x.ms.length) (hd : D.length = x.ks.length) : Reads (bodyB x D) imageS (readP x D) := by
  unfold oddX tabO at h
  simp only [Bool.or_eq_false_iff, Bool.not_eq_false'] at h
  obtain ⟨⟨⟨⟨⟨⟨⟨h1, h2⟩, h3⟩, h4⟩, h5⟩, h6⟩, h7⟩, h8⟩ := h
  have r1 := Reads.many (F := CW.bytes) (R := classS) (f := CW.p) x.cs (rowO_no h1).1 (fun c hc => Reads.cls ((rowO_no h1).2 c hc))
  have r2 := Reads.many (F := MW.bytes) (R := methodS) (f := fun m => m) x.ms (rowO_no h2).1 (fun c hc => Reads.meth ((rowO_no h2).2 c hc))
  have r5 := Reads.many (F := fun s => textB s 1) (R := fun bs => textS bs 1) (f := fun m => m) x.ys (rowO_no h5).1 (fun s hs => Reads.text (by omega) (by omega) (by simpa using (rowO_no h5).2 s hs))
  have r6 := Reads.many (F := fun s => textB s 2) (R := fun bs => textS bs 2) (f := fun m => m) x.xs (rowO_no h6).1 (fun s hs => Reads.text (by omega) (by omega) (by simpa using (rowO_no h6).2 s hs))
  have r8 := Reads.heads (x.ks.zip D) (startX x : Nat) h8
  rw [List.map_id'] at r2 r5 r6
  rw [List.length_zip, show min x.ks.length D.length = x.ms.length by omega] at r8
  exact Reads.bind r1 (Reads.bind r2 (Reads.bind (Reads.get (by omega) (by omega) h3) (Reads.bind (Reads.ints h4) (Reads.bind r5 (Reads.bind r6 (Reads.bind (Reads.get (by omega) (by omega) h7) (Reads.last r8 fun bs => rfl)))))))
/-- What is written is read back. -/
theorem parse_image {x : XW} {D : List (List UInt8)} {bs : List UInt8} (h : imgBytes x D = (0, bs)) : parseR bs = (readP x D, 0) ∧ bs = bytesX x D ∧ oddX x D = false ∧ x.ks.length = x.ms.length ∧ D.length = x.ks.length := by
  unfold imgBytes at h
  split at h
  · simp at h
  rename_i hl
  split at h
  · simp at h
  rename_i ho
  split at h
  · simp at h
  rename_i hs
  simp only [Prod.mk.injEq, true_and] at h
  subst h
  have ho' : oddX x D = false := by simpa using ho
  have hm : x.ks.length = x.ms.length := by omega
  have hd : D.length = x.ks.length := by omega
  refine ⟨?_, rfl, ho', hm, hd⟩
  have e := Reads.image ho' hm hd magicB D.flatten
  rw [← bytesX_body] at e
  have hlen := bytesX_len x D hd
  have hbl : magicB.length + (bodyB x D).length = startX x := by
    have h1 : (bytesX x D).length = magicB.length + ((bodyB x D).length + D.flatten.length) := by rw [bytesX_body, List.length_append, List.length_append]
    rw [flatten_len] at h1
    omega
  unfold parseR
  rw [if_neg hs]
  have hmg : ¬ ((bytesX x D).length < 4 ∨ (bytesX x D).take 4 ≠ magicB) := by
    rw [bytesX_body]
    have : magicB.length = 4 := rfl
    rw [show (4 : Nat) = magicB.length from rfl, List.take_left]
    simp only [List.length_append, ne_eq, not_true_eq_false, or_false]
    omega
  rw [if_neg hmg, show ((4 : Nat), (0 : Int)) = (magicB.length, 0) from rfl, e]
  simp only
  rw [if_neg (by simp), hbl]
  have hL := laid_kpL (x.ks.zip D) (startX x : Nat)
  have hz : (x.ks.zip D).map (·.2) = D := by rw [List.map_snd_zip]; omega
  rw [hz] at hL
  rw [hlen]
  rw [if_neg (by
    show ¬ laidP (kpL _ _) _ _ = false
    rw [show (((startX x + lensL D : Nat)) : Int) = (startX x : Nat) + (lensL D : Nat) by omega, hL]
    simp)]
end Go.Proofs.Ytbcldlbmbdfejaa
/- image: the same layouts. No condition. -/
namespace Go.Proofs.Ytbcldlbmbdfejaa
open Go.ChangeShapes Go.WideShapes Go.ChangeAt Go.RowKit
theorem meth_fields : Try.prog.underlying 87 = some (.struct (Try.prog.fieldsOf 87)) := by kernel_rfl
theorem meth_held : Try.prog.stoodInHeld 87 = false := by kernel_rfl
theorem meth_guard : Try.prog.eqGuardType Try.prog.depth 87 = false := by kernel_rfl
theorem meth_list : (Try.prog.fieldsOf 87).toList.map (fun f => (f.name, f.type, f.offset)) = [("Class", 3, 0), ("Name", 9, 1), ("Desc", 9, 2), ("Static", 4, 3), ("Slot", 3, 4), ("Native", 3, 5)] := by kernel_rfl
theorem run_equalM (w : World) (d : Nat) (c : Int) (nm ds : List UInt8) (st : Bool) (sl nt : Int) : (Op.equalIn (d + 1 + 1) 87 (.agg #[.int .i64 c, .string ⟨nm.toArray⟩, .string ⟨ds.toArray⟩, .bool st, .int .i64 sl, .int .i64 nt]) (.agg #[.int .i64 c, .string ⟨nm.toArray⟩, .string ⟨ds.toArray⟩, .bool st, .int .i64 sl, .int .i64 nt])).run Try.prog w = .ok true w := by
  rw [run_equalIn_struct w (d + 1) _ _ _ meth_fields meth_held]
  have hl := meth_list
  match hf : (Try.prog.fieldsOf 87).toList, hl with
  | [f0, f1, f2, f3, f4, f5], hl =>
    simp only [List.map_cons, List.map_nil, List.cons.injEq, Prod.mk.injEq, and_true] at hl
    obtain ⟨⟨n0, t0, o0⟩, ⟨n1, t1, o1⟩, ⟨n2, t2, o2⟩, ⟨n3, t3, o3⟩, ⟨n4, t4, o4⟩, ⟨n5, t5, o5⟩⟩ := hl
    simp only [Op.eqFields, n0, n1, n2, n3, n4, n5, t0, t1, t2, t3, t4, t5, o0, o1, o2, o3, o4, o5]
    have i0 : ∀ (i : Nat) (cs : Array Value) (w : World) (h : i < cs.size), (part 3 cs i).run Try.prog w = .ok cs[i] w := fun i cs w h => part_plain Try.underlying3 rfl w cs i _ (Array.getElem?_eq_getElem h)
    have i1 : ∀ (i : Nat) (cs : Array Value) (w : World) (h : i < cs.size), (part 9 cs i).run Try.prog w = .ok cs[i] w := fun i cs w h => part_plain Try.underlying9 rfl w cs i _ (Array.getElem?_eq_getElem h)
    have i2 : ∀ (i : Nat) (cs : Array Value) (w : World) (h : i < cs.size), (part 4 cs i).run Try.prog w = .ok cs[i] w := fun i cs w h => part_plain Try.underlying4 rfl w cs i _ (Array.getElem?_eq_getElem h)
    simp [i0, i1, i2, run_equalIn_int _ _ _ _ _ _ _ Try.underlying3, run_equalIn_string _ _ _ _ _ Try.underlying9, run_equalIn_bool' _ _ _ _ _ Try.underlying4]
  | [], hl | [_], hl | [_, _], hl | [_, _, _], hl | [_, _, _, _], hl | [_, _, _, _, _], hl | _ :: _ :: _ :: _ :: _ :: _ :: _ :: _, hl => simp at hl
theorem run_neqM (w : World) (c : Int) (nm ds : List UInt8) (st : Bool) (sl nt : Int) (o1 o2 : Operand) : ((eqGuard .neq 87 o1 o2 (.agg #[.int .i64 c, .string ⟨nm.toArray⟩, .string ⟨ds.toArray⟩, .bool st, .int .i64 sl, .int .i64 nt]) (.agg #[.int .i64 c, .string ⟨nm.toArray⟩, .string ⟨ds.toArray⟩, .bool st, .int .i64 sl, .int .i64 nt])).run Try.prog w).andThen (fun _ w' => (binOp .neq 87 (.agg #[.int .i64 c, .string ⟨nm.toArray⟩, .string ⟨ds.toArray⟩, .bool st, .int .i64 sl, .int .i64 nt]) (.agg #[.int .i64 c, .string ⟨nm.toArray⟩, .string ⟨ds.toArray⟩, .bool st, .int .i64 sl, .int .i64 nt])).run Try.prog w') = .ok (.bool false) w := by
  have h := run_equalM w 9998 c nm ds st sl nt
  rw [run_eqGuard_agg w _ _ _ _ _ _ meth_guard, Result.andThen_ok, run_neq_struct, h, Result.andThen_ok]
  rfl
theorem eqw_cell {W u : World} {a : Addr} {v : Value} (h : EqW W.drew u) (hc : W.cell? a = some v) : u.cell? a = some v := by rw [show u = W.drew from h]; exact hc
theorem map_at {α β : Type} {f : α → β} {l m : List α} (h : l.map f = m.map f) {j : Nat} {x y : α} (hx : l[j]? = some x) (hy : m[j]? = some y) : f x = f y := by
  have e : (l.map f)[j]? = (m.map f)[j]? := by rw [h]
  rw [List.getElem?_map, List.getElem?_map, hx, hy] at e
  simpa using e
set_option maxRecDepth 100000 in
set_option maxHeartbeats 16000000 in
theorem same24_any (w : World) (x y : XW) (hx : x.Rd w) (hy : y.Rd w) (hcs : x.cs.map CW.p = y.cs.map CW.p) (hms : x.ms = y.ms) (hst : x.st = y.st) (hss : x.ss = y.ss) (hsn : x.sn ≤ 140737488355328) (hcb : x.cn ≤ 140737488355328) (hmb : x.mn ≤ 140737488355328) (hcn : ∀ c ∈ x.cs, c.rn ≤ 140737488355328 ∧ c.tn ≤ 140737488355328) :
    Calls Try.prog 40 #[.agg #[.slice x.ca x.cn x.cc, .slice x.ma x.mn x.mc, .int .i64 x.st, .slice x.sa x.sn x.sc], .agg #[.slice y.ca y.cn y.cc, .slice y.ma y.mn y.mc, .int .i64 y.st, .slice y.sa y.sn y.sc]] w fun e w' => e = .returned (.bool true) ∧ Below w.heap.size w w' := by
  have hal1 : Below w.heap.size w (w.alloc (.cells #[.slice x.ca x.cn x.cc, .slice x.ma x.mn x.mc, .int .i64 x.st, .slice x.sa x.sn x.sc] 26)) := (Below.refl _ _).alloc (Nat.le_refl _) _
  have HSI := Lib.hid (fun (w1 : World) (h : Below w.heap.size w w1) => sameInts_any w1 x.sa x.sn x.sc x.ss (hx.s.below h) y.sa y.sn y.sc y.ss (hy.s.below h) (by omega) (by have h1 := hx.s.1; have h2 := hy.s.1; rw [← hss] at h2; omega))
  rw [decide_eq_true hss] at HSI
  have HX := Lib.hid hx
  have HY := Lib.hid hy
  have HCS := Lib.hid hcs
  have HCN := Lib.hid hcn
  have e1 : x.cn = y.cn := by have h1 := congrArg List.length hcs; rw [List.length_map, List.length_map] at h1; rw [← hy.c.1, ← hx.c.1, h1]
  have e2 : x.mn = y.mn := by rw [← hy.m.1, ← hx.m.1, hms]
  have HLC := Lib.hid hx.c.1
  have HMC := Lib.hid hx.m.1
  clear hx hy hcs hcn hss hsn
  obtain ⟨ca, cn, cc, cs, ma, mn, mc, ms, st, sa, sn, sc, ss, ya, yn, yc, ys, xa, xn, xc, xs, ka, kn, kc, ks, main⟩ := x
  obtain ⟨ca2, cn2, cc2, cs2, ma2, mn2, mc2, ms2, st2, sa2, sn2, sc2, ss2, ya2, yn2, yc2, ys2, xa2, xn2, xc2, xs2, ka2, kn2, kc2, ks2, main2⟩ := y
  simp only at hms hst e1 e2 HSI HCS HCN HLC HMC hal1 hcb hmb
  subst hms hst e1 e2
  simp only
  have HI1 := Lib.hid (heap_alloc_last w (.cells #[.slice ca cn cc, .slice ma mn mc, .int .i64 st, .slice sa sn sc] 26))
  have hal2 : Below (w.alloc (.cells #[.slice ca cn cc, .slice ma mn mc, .int .i64 st, .slice sa sn sc] 26)).heap.size (w.alloc (.cells #[.slice ca cn cc, .slice ma mn mc, .int .i64 st, .slice sa sn sc] 26)) ((w.alloc (.cells #[.slice ca cn cc, .slice ma mn mc, .int .i64 st, .slice sa sn sc] 26)).alloc (.cells #[.slice ca2 cn cc2, .slice ma2 mn mc2, .int .i64 st, .slice sa2 sn2 sc2] 26)) := (Below.refl _ _).alloc (Nat.le_refl _) _
  have HI2 := Lib.hid (heap_alloc_last (w.alloc (.cells #[.slice ca cn cc, .slice ma mn mc, .int .i64 st, .slice sa sn sc] 26)) (.cells #[.slice ca2 cn cc2, .slice ma2 mn mc2, .int .i64 st, .slice sa2 sn2 sc2] 26))
  replace HI1 := Lib.hid (row_below HI1.out hal2)
  have HB2 := Lib.hid (hal1.trans (hal2.mono hal1.size))
  clear hal1 hal2
  go_enter Try.func40, Try.ntmps40
  rw [show (w.alloc (.cells #[.slice ca cn cc, .slice ma mn mc, .int .i64 st, .slice sa sn sc] 26)).heap.size = w.heap.size + 1 by simp] at HI2
  go_upto_region 1 with fail
  have hlt1 := row_lt HI1.out
  have hlt2 := row_lt HI2.out
  generalize hW : (w.alloc (.cells #[.slice ca cn cc, .slice ma mn mc, .int .i64 st, .slice sa sn sc] 26)).alloc (.cells #[.slice ca2 cn cc2, .slice ma2 mn mc2, .int .i64 st, .slice sa2 sn2 sc2] 26) = W2 at HI1 HI2 HB2 hlt1 hlt2 ⊢
  clear hW
  have c0 := row_cell HI1.out 0 rfl
  have c1 := row_cell HI1.out 1 rfl
  have c2 := row_cell HI1.out 2 rfl
  have c3 := row_cell HI1.out 3 rfl
  have d0 := row_cell HI2.out 0 rfl
  have d1 := row_cell HI2.out 1 rfl
  have d2 := row_cell HI2.out 2 rfl
  have d3 := row_cell HI2.out 3 rfl
  go_wp2_with fail
  refine (HSI.out W2 HB2.out).mono ?_
  rintro e' W3 ⟨rfl, hb⟩
  have HB3 := Lib.hid (HB2.out.trans (hb.mono HB2.out.size))
  replace HI1 := Lib.hid (row_below HI1.out hb)
  replace HI2 := Lib.hid (row_below HI2.out hb)
  clear hb c0 c1 c2 c3 d0 d1 d2 d3 hlt1 hlt2 HB2 HSI
  have c0 := row_cell HI1.out 0 rfl
  go_wp2_with fail
  go_loopg [43] cn (fun gn i wr => ∃ j : Nat, j ≤ cn ∧ gn = cn - j ∧ i = .int .i64 j ∧ Hid (Below W3.heap.size W3 wr))
  case atStart => exact ⟨0, by omega, by omega, by go_num, Lib.hid (Below.refl _ _)⟩
  case round =>
    obtain ⟨j, hj, rfl, rfl, HB⟩ := hrel
    by_cases hlt : j < cn
    · have HBW := Lib.hid (HB3.out.trans (HB.out.mono HB3.out.size))
      obtain ⟨b1, off1, x, rfl, hb1, hxj, p⟩ := (HX.out.c.below HBW.out).get1 j hlt
      obtain ⟨b2, off2, y, rfl, hb2, hyj, q⟩ := (HY.out.c.below HBW.out).get1 j hlt
      have hxr := HX.out.cr x (List.mem_of_getElem? hxj)
      have hyr := HY.out.cr y (List.mem_of_getElem? hyj)
      have hcn := HCN.out x (List.mem_of_getElem? hxj)
      have hpp := map_at HCS.out hxj hyj
      obtain ⟨nm, sup, cells, ra, rn, rc, refs, ta, tn, tc, table⟩ := x
      obtain ⟨nm2, sup2, cells2, ra2, rn2, rc2, refs2, ta2, tn2, tc2, table2⟩ := y
      simp only [CW.p, CP.mk.injEq] at hpp
      obtain ⟨rfl, rfl, rfl, rfl, rfl⟩ := hpp
      have HS1 := Lib.hid (fun (w1 : World) (h : Below w.heap.size w w1) => sameInts_any w1 ra rn rc refs (hxr.r.below h) ra2 rn2 rc2 refs (hyr.r.below h) (by have := hcn.1; simp only at this; omega) (by have h1 := hxr.r.1; have h2 := hyr.r.1; have := hcn.1; simp only at this h1 h2; omega))
      have HS2 := Lib.hid (fun (w1 : World) (h : Below w.heap.size w w1) => sameInts_any w1 ta tn tc table (hxr.t.below h) ta2 tn2 tc2 table (hyr.t.below h) (by have := hcn.2; simp only at this; omega) (by have h1 := hxr.t.1; have h2 := hyr.t.1; have := hcn.2; simp only at this h1 h2; omega))
      rw [decide_eq_true rfl] at HS1 HS2
      have p0 := p 0 (by omega)
      have p1 := p 1 (by omega)
      have p2 := p 2 (by omega)
      have p3 := p 3 (by omega)
      have p4 := p 4 (by omega)
      have q0 := q 0 (by omega)
      have q1 := q 1 (by omega)
      have q2 := q 2 (by omega)
      have q3 := q 3 (by omega)
      have q4 := q 4 (by omega)
      simp only [CW.vals, List.getElem?_cons_zero, List.getElem?_cons_succ, Nat.add_zero] at p0 p1 p2 p3 p4 q0 q1 q2 q3 q4
      have HDB := Lib.hid (row_below HI2.out HB.out)
      clear p q hxj hyj hxr hyr hcn c0
      go_upto_region 6 with fail
      have hal : Below wr.heap.size wr (wr.alloc (.cells #[.string ⟨nm.toArray⟩, .int .i64 sup, .int .i64 cells, .slice ra rn rc, .slice ta tn tc] 82)) := (Below.refl _ _).alloc (Nat.le_refl _) _
      have HRA := Lib.hid (heap_alloc_last wr (.cells #[.string ⟨nm.toArray⟩, .int .i64 sup, .int .i64 cells, .slice ra rn rc, .slice ta tn tc] 82))
      have HBA := Lib.hid (HB.out.trans (hal.mono HB.out.size))
      replace HDB := Lib.hid (row_below HDB.out hal)
      replace q0 := cellS_below hal q0
      replace q1 := cellS_below hal q1
      replace q2 := cellS_below hal q2
      replace q3 := cellS_below hal q3
      replace q4 := cellS_below hal q4
      clear hal HB HBW p0 p1 p2 p3 p4
      generalize wr.alloc (.cells #[.string ⟨nm.toArray⟩, .int .i64 sup, .int .i64 cells, .slice ra rn rc, .slice ta tn tc] 82) = WA at *
      generalize wr.heap.size = gA at *
      have d0 := row_cell HDB.out 0 rfl
      go_upto_region 7 with fail
      have hal : Below WA.heap.size WA (WA.alloc (.cells #[.string ⟨nm.toArray⟩, .int .i64 sup, .int .i64 cells, .slice ra2 rn2 rc2, .slice ta2 tn2 tc2] 82)) := (Below.refl _ _).alloc (Nat.le_refl _) _
      have HRB := Lib.hid (heap_alloc_last WA (.cells #[.string ⟨nm.toArray⟩, .int .i64 sup, .int .i64 cells, .slice ra2 rn2 rc2, .slice ta2 tn2 tc2] 82))
      have HBB := Lib.hid (HBA.out.trans (hal.mono HBA.out.size))
      replace HRA := Lib.hid (row_below HRA.out hal)
      clear hal HBA HDB q0 q1 q2 q3 q4 d0
      generalize WA.alloc (.cells #[.string ⟨nm.toArray⟩, .int .i64 sup, .int .i64 cells, .slice ra2 rn2 rc2, .slice ta2 tn2 tc2] 82) = WB at *
      generalize WA.heap.size = gB at *
      have a0 := row_cell HRA.out 0 rfl
      have a1 := row_cell HRA.out 1 rfl
      have a2 := row_cell HRA.out 2 rfl
      have a3 := row_cell HRA.out 3 rfl
      have b0 := row_cell HRB.out 0 rfl
      have b1' := row_cell HRB.out 1 rfl
      have b2' := row_cell HRB.out 2 rfl
      have b3 := row_cell HRB.out 3 rfl
      go_wp2_with fail
      refine (HS1.out _ (HB3.out.trans (HBB.out.mono HB3.out.size))).mono ?_
      rintro e' WC ⟨rfl, hb⟩
      have HBC := Lib.hid (HBB.out.trans (hb.mono HBB.out.size))
      replace HRA := Lib.hid (row_below HRA.out hb)
      replace HRB := Lib.hid (row_below HRB.out hb)
      clear hb a0 a1 a2 a3 b0 b1' b2' b3 HBB HS1
      have a4 := row_cell HRA.out 4 rfl
      have b4 := row_cell HRB.out 4 rfl
      go_wp2_with fail
      refine (HS2.out _ (HB3.out.trans (HBC.out.mono HB3.out.size))).mono ?_
      rintro e' WD ⟨rfl, hb⟩
      have HBD := Lib.hid (HBC.out.trans (hb.mono HBC.out.size))
      clear hb a4 b4 HBC HS2 HRA HRB
      go_wp2_with fail
      go_roundg (cn - (j + 1))
      case measure => omega
      case rel => exact ⟨j + 1, by omega, rfl, by go_num, HBD⟩
    · obtain rfl : cn = j := by omega
      have HJ1 := Lib.hid (row_below HI1.out HB.out)
      have HJ2 := Lib.hid (row_below HI2.out HB.out)
      have HBW := Lib.hid (HB3.out.trans (HB.out.mono HB3.out.size))
      clear HB c0 HI1 HI2
      generalize wr = W4 at *
      have c1 := row_cell HJ1.out 1 rfl
      go_wp2_with fail
      go_loopg [92] mn (fun gn i wr => ∃ j : Nat, j ≤ mn ∧ gn = mn - j ∧ i = .int .i64 j ∧ Hid (Below W4.heap.size W4 wr))
      case atStart => exact ⟨0, by omega, by omega, by go_num, Lib.hid (Below.refl _ _)⟩
      case round =>
        obtain ⟨j, hj, rfl, rfl, HB⟩ := hrel
        by_cases hlt : j < mn
        · have HBX := Lib.hid (HBW.out.trans (HB.out.mono HBW.out.size))
          obtain ⟨b1, off1, x, rfl, hb1, hxj, p⟩ := (HX.out.m.below HBX.out).get1 j hlt
          obtain ⟨b2, off2, y, rfl, hb2, hyj, q⟩ := (HY.out.m.below HBX.out).get1 j hlt
          obtain rfl : x = y := by rw [hxj] at hyj; exact Option.some.inj hyj
          obtain ⟨cls, nm, ds, stat, slot, nat⟩ := x
          have p0 := p 0 (by omega)
          have p1 := p 1 (by omega)
          have p2 := p 2 (by omega)
          have p3 := p 3 (by omega)
          have p4 := p 4 (by omega)
          have p5 := p 5 (by omega)
          have q0 := q 0 (by omega)
          have q1 := q 1 (by omega)
          have q2 := q 2 (by omega)
          have q3 := q 3 (by omega)
          have q4 := q 4 (by omega)
          have q5 := q 5 (by omega)
          simp only [MW.vals, List.getElem?_cons_zero, List.getElem?_cons_succ, Nat.add_zero] at p0 p1 p2 p3 p4 p5 q0 q1 q2 q3 q4 q5
          have d1 := row_cell (row_below HJ1.out HB.out) 1 rfl
          have d2 := row_cell (row_below HJ2.out HB.out) 1 rfl
          clear p q hxj hyj c1
          go_upto_region 13 with fail
          have hEQ : EqW wr.drew wr.drew := rfl
          have l0 := fun u (h : EqW wr.drew u) => eqw_cell h p0
          have l1 := fun u (h : EqW wr.drew u) => eqw_cell h p1
          have l2 := fun u (h : EqW wr.drew u) => eqw_cell h p2
          have l3 := fun u (h : EqW wr.drew u) => eqw_cell h p3
          have l4 := fun u (h : EqW wr.drew u) => eqw_cell h p4
          have l5 := fun u (h : EqW wr.drew u) => eqw_cell h p5
          have m0 := fun u (h : EqW wr.drew u) => eqw_cell h q0
          have m1 := fun u (h : EqW wr.drew u) => eqw_cell h q1
          have m2 := fun u (h : EqW wr.drew u) => eqw_cell h q2
          have m3 := fun u (h : EqW wr.drew u) => eqw_cell h q3
          have m4 := fun u (h : EqW wr.drew u) => eqw_cell h q4
          have m5 := fun u (h : EqW wr.drew u) => eqw_cell h q5
          have n1 := fun u (h : EqW wr.drew u) => eqw_cell h d1
          have n2 := fun u (h : EqW wr.drew u) => eqw_cell h d2
          have HNE := Lib.hid (fun u o1 o2 => run_neqM u cls nm ds stat slot nat o1 o2)
          clear p0 p1 p2 p3 p4 p5 q0 q1 q2 q3 q4 q5 d1 d2
          refine wp_region_lexS (EqW wr.drew) (.stir [(0, true), (1, true), (2, true), (3, true), (4, true), (5, true), (6, true), (7, true), (8, true), (9, true), (10, true)]) (by kernel_rfl) (by kernel_rfl) (fun c a d v w h => by cases d <;> exact h) ?_
          refine lexS_stir (EqW wr.drew) (fun y hy => hy) rfl ?_
          iterate 10
            refine stir_step (fun K hK => ?_)
            simp only [stirOp, List.getElem?_toArray, List.getElem?_cons_succ, List.getElem?_cons_zero]
            rw [if_pos (by rfl)]
            apply Exists.intro
            refine ⟨fun w' hS' => ?_, ?_⟩
            · first | (go_simp <;> with_reducible rfl) | (go_simp; go_bits; with_reducible rfl)
            go_simp
            try go_bits
            refine hK _ ?_
            clear hK K
          refine stir_step (fun K hK => ?_)
          simp only [stirOp, List.getElem?_toArray, List.getElem?_cons_succ, List.getElem?_cons_zero]
          rw [if_pos (by rfl)]
          refine ⟨Value.bool false, fun w' hS' => ?_, ?_⟩
          · exact run_exec_binL (by rfl) (HNE.out w' _ _)
          go_simp
          refine hK _ ?_
          clear hK K
          refine stir_nil (fun u hu => ?_)
          obtain rfl : u = wr.drew := hu
          clear l0 l1 l2 l3 l4 l5 m0 m1 m2 m3 m4 m5 n1 n2 HNE
          go_wp2_with fail
          go_roundg (mn - (j + 1))
          case measure => omega
          case rel => exact ⟨j + 1, by omega, rfl, by go_num, Lib.hid HB.out.drew⟩
        · obtain rfl : mn = j := by omega
          go_wp2_with fail
          go_ret
          exact ⟨rfl, HBW.out.trans (HB.out.mono HBW.out.size)⟩
end Go.Proofs.Ytbcldlbmbdfejaa
