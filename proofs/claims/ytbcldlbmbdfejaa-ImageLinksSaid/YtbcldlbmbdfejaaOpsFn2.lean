/- ops: Form, Len and size, the program's and the reference's. No condition. -/
import Derived.Test.YtbcldlbmbdfejaaOpsFn
namespace Go.Proofs.Ytbcldlbmbdfejaa
open Go.ChangeShapes Go.WideShapes Go.ChangeAt Go.RowKit
theorem run_index_arr {t e : TypeId} {len : Nat} (ht : Try.prog.underlying t = some (.array len e)) (hs : ∀ w, (sizeOf e).run Try.prog w = .ok 1 w) (hp : ∀ w (cs : Array Value) (i : Nat) (v : Value), cs[i]? = some v → (part e cs i).run Try.prog w = .ok v w) {cs : Array Value} {k : Nat} (hk : k < len) {v : Value} (hx : cs[k]? = some v) (kd : IntKind) (w : World) :
    (Instr.index t (.agg cs) (.int kd k)).run Try.prog w = .ok v w := by
  have h2 : (0 : Int) ≤ (k : Int) ∧ (k : Int) < (len : Int) := ⟨by omega, by omega⟩
  simp [Instr.index, asIntOf, run_underlying ht, hk, hs, hp _ _ _ _ hx]
theorem size_u8 (w : World) : (sizeOf 5).run Try.prog w = .ok 1 w := by kernel_rfl
theorem part_plain {e : TypeId} {d : TypeDesc} (h1 : Try.prog.underlying e = some d) (h2 : (match d with | .struct _ | .array _ _ => false | _ => true) = true) (w : World) (cs : Array Value) (i : Nat) (v : Value) (h3 : cs[i]? = some v) : (part e cs i).run Try.prog w = .ok v w := by
  cases d <;> simp [part, isAgg, run_underlying h1, h3] at h2 ⊢
theorem idx_tab (w : World) (f : Nat → Nat) (k : Nat) (h : k < 256) (kd : IntKind) : (Instr.index 133 (.agg (tabN f)) (.int kd k)).run Try.prog w = .ok (.int .u8 (f k : Nat)) w :=
  run_index_arr Try.underlying133 size_u8 (part_plain Try.underlying5 rfl) h (tabN_at f k h) kd w
def QuietRet (v : Value) (w : World) (e : Ending) (w' : World) : Prop := e = .returned v ∧ Below w.heap.size w w'
set_option maxRecDepth 100000 in
set_option maxHeartbeats 4000000 in
theorem Form_any (w : World) (k : Nat) (hk : k < 256) : Calls Try.prog 72 #[.int .u8 (k : Nat)] w (QuietRet (.int .i64 (formN k : Nat)) w) := by
  have h9 := formN_le k
  go_enter Try.func72, Try.ntmps72
  go_wp2_with fail
  refine (forms_any _).mono ?_
  rintro e w1 ⟨rfl, hb1⟩
  have HB := Lib.hid hb1
  have hi := idx_tab w1 formN k hk .u8
  clear hb1
  generalize formN k = f at *
  go_wp2_with fail
  go_ret
  exact ⟨rfl, HB.out⟩
theorem sizeN_le (f : Nat) : sizeN f ≤ 3 := by
  unfold sizeN
  match f with
  | 0 | 1 | 2 | 3 | 4 | 5 | 6 | 7 | 8 | 9 => decide
  | n + 10 => simp
theorem formN_leaf {k : Nat} {m : Int} {c : Int} (h : ((k : Int) == m) = true) (hm : (formN m.toNat : Int) = c) : c = (formN k : Int) := by
  have : (k : Int) = m := by simpa using h
  subst this
  simpa using hm.symm
def exclB (k : Int) : Bool := [21, 22, 25, 54, 55, 58, 16, 17, 18, 20, 178, 179, 180, 181, 182, 184, 187, 189, 192, 193, 153, 154, 155, 156, 157, 158, 159, 160, 161, 162, 163, 164, 165, 166, 167, 198, 199, 132, 188, 0, 1, 9, 10, 46, 50, 51, 79, 83, 84, 87, 89, 95, 96, 97, 100, 101, 104, 105, 108, 109, 112, 113, 116, 117, 120, 121, 122, 123, 124, 125, 126, 127, 128, 129, 130, 131, 133, 136, 145, 148, 172, 173, 176, 177, 190, 191].all fun m : Int => (k == m) == false
set_option maxRecDepth 100000 in
theorem formN_zero' : ∀ k : Fin 256, 8 < k.val → exclB (k.val : Int) = true → formN k.val = 0 := by decide
theorem formN_zero {k : Nat} (hk : k < 256) (h8 : 8 < k) (h : exclB k = true) : (0 : Int) = (formN k : Int) := by
  have := formN_zero' ⟨k, hk⟩ h8 h
  simp only at this
  rw [this]; rfl
theorem formN_one' : ∀ k : Fin 9, formN k.val = 1 := by decide
theorem formN_one {k : Nat} (h8 : k ≤ 8) : (1 : Int) = (formN k : Int) := by
  have := formN_one' ⟨k, by omega⟩
  simp only at this
  rw [this]; rfl
set_option maxRecDepth 100000 in
set_option maxHeartbeats 40000000 in
theorem refForm_any (w : World) (k : Nat) (hk : k < 256) : Calls Try.prog 77 #[.int .u8 (k : Nat)] w fun e w' => e = .returned (.int .i64 (formN k : Nat)) ∧ w = w' := by
  obtain ⟨f, hf⟩ : ∃ f, f = formN k := ⟨_, rfl⟩
  rw [← hf]
  have HF := Lib.hid hf
  clear hf
  go_enter Try.func77, Try.ntmps77
  go_wp2_with fail
  all_goals first | (go_ret; exact ⟨ret_int (by rw [HF.out]; exact formN_leaf (by assumption) (by decide)), rfl⟩) | skip
  · go_ret
    exact ⟨ret_int (by rw [HF.out]; exact formN_one (by omega)), rfl⟩
  · go_ret
    exact ⟨ret_int (by rw [HF.out]; exact formN_zero hk (by omega) (by simp only [exclB, List.all_cons, List.all_nil, *]; rfl)), rfl⟩
  · exfalso
    have h0 : ((k : Int) == 0) = false := by assumption
    have h1 : ((k : Int) == 1) = false := by assumption
    simp at h0 h1
    omega
end Go.Proofs.Ytbcldlbmbdfejaa
