/- append as a lone step of a region that draws. No condition. -/
import Derived.Test.YtlpjcfiibbcdjaaGreatDoorSs
import Derived.Test.YtlpjcfiibbcdjaaGreatDoorRegion
namespace Go.Proofs.YtlpjcfiibbcdjaaGreatDoor
open Go.ChangeShapes Go.WideShapes Go.ChangeAt Go.RowKit
theorem wp_appK {t e : TypeId} {z : Value} {bytes : Nat} (hO : OneE t e z bytes) {w : World} {ops : Array Oper} {o : Oper} {a : Act} {K : Act → World → Prop} {Q : Exit → Act → World → Prop} (hgd : Region.wanted o (yielded ops a.tmps) = true) (s x : Operand) (tx : TypeId)
    (ho : o.op = .call { callee := .builtin .append, args := #[s, x], argTypes := #[t, tx] })
    (base : Nat) (v : Value) (n : Nat) (xs : List Value) (hv : a.eval s = v) (hown : w.ownsRow base e 1 v n xs)
    (y : Value) (m : Nat) (news : List Value) (hy : a.eval x = y) (hs : Src Tryz.prog 1 tx y m news w) (hlen : (n + m) * bytes ≤ 140737488355328) (hm : n + m ≤ maxLen) (hbase : base ≤ w.heap.size)
    (h : ∀ v' w', w'.ownsRow base e 1 v' (n + m) (xs ++ news) → w.grownBy w' v.ownBlock → Below base w w' → K (a.put o.dst v') w') : Oper.wp Tryz.prog o a w K Q := by
  have h1 := step_app1 (E := True) (ops := ops) (Q := Q) hO hgd s x tx ho base v n xs hv hown y m news hy hs hlen hm hbase h
  rwa [if_pos hgd] at h1
theorem strSrcK (w : World) (bs : List UInt8) : Src Tryz.prog 1 9 (.string ⟨bs.toArray⟩) bs.length (bs.map encB) w := by
  have h := Src.ofString (P := Tryz.prog) w Tryz.underlying9 ⟨bs.toArray⟩
  have e : byteCells ⟨bs.toArray⟩ = bs.map encB := by unfold byteCells; rfl
  rw [e] at h
  exact h
end Go.Proofs.YtlpjcfiibbcdjaaGreatDoor
