/- An engine for walks, part 9: conversions to unsigned numbers; loops of other forms. -/
import Derived.Test.YtfobgjhjigkigaaE8
namespace Go.Eng
open Go.RowKit
section
variable {P : Program} {m : Mode} {n B : Nat} {w0 : World} {ops : Array Oper} {Q : Exit → Act → World → Prop} {rest : List Oper} {env : Env} {H : List HP} {d : Nat} {ty : TypeId} {pos : String} {after : Array Edge} {x y : Operand} {k : IntKind} {a b : Int}

theorem VL_conv_u64 (T : Tab P) {src dst : TypeId} {j : IntKind} (hx : evo env x = some (.int k a)) (hs : look T.ik src = some j) (ht : look T.ik dst = some .u64) (hn : Nat.ble (d + 1) n = true) (hb : 0 ≤ a ∧ a ≤ 18446744073709551615)
    (h : VL P m n B w0 ops Q rest ((d, .int .u64 a) :: env) H) : VL P m n B w0 ops Q (⟨some d, .convert src dst x, ty, pos, after, none⟩ :: rest) env H :=
  VL_conv T hx hs ht hn (by rw [IntWalk.u64_in _ hb]; exact h)

/-- Calls that hand back a bool: both ways. -/
theorem VL_calltb {f : Nat} {args : List Operand} {tys : Array TypeId} {vs : List Value} {b : Bool}
    (hc : ∀ xs w, (callFunc f xs).run P w = .ok (.enter f xs) w) (hargs : Args env args vs) (hn : Nat.ble (d + 1) n = true)
    (hcall : ∀ w, St B w0 H w → Calls P f vs.toArray w (Post B w0 fun u K => u = .bool b ∧ K = H))
    (h1 : b = true → VL P none n B w0 ops Q rest ((d, .bool true) :: env) H) (h2 : b = false → VL P none n B w0 ops Q rest ((d, .bool false) :: env) H) :
    VL P none n B w0 ops Q (⟨some d, .call ⟨.value (.func f), args.toArray, tys⟩, ty, pos, after, none⟩ :: rest) env H := by
  cases b
  · exact VL_callt hc hargs hn hcall (h2 rfl)
  · exact VL_callt hc hargs hn hcall (h1 rfl)
theorem VL_callqb {f : Nat} {args : List Operand} {tys : Array TypeId} {vs : List Value} {b : Bool}
    (hc : ∀ xs w, (callFunc f xs).run P w = .ok (.enter f xs) w) (hargs : Args env args vs) (hn : Nat.ble (d + 1) n = true)
    (hcall : ∀ w, St B w0 H w → Calls P f vs.toArray w (Post B w0 fun u K => u = .bool b ∧ K = H))
    (h1 : b = true → VL P (some none) n B w0 ops Q rest ((d, .bool true) :: env) H) (h2 : b = false → VL P (some none) n B w0 ops Q rest ((d, .bool false) :: env) H) :
    VL P (some none) n B w0 ops Q (⟨some d, .call ⟨.value (.func f), args.toArray, tys⟩, ty, pos, after, none⟩ :: rest) env H := by
  cases b
  · exact VL_callq hc hargs hn hcall (h2 rfl)
  · exact VL_callq hc hargs hn hcall (h1 rfl)
theorem VL_callvtb {f : Nat} {x : Operand} {args : List Operand} {tys : Array TypeId} {vs cs : List Value} {b : Bool} (hx : evo env x = some (.func (.func f) #[] cs.toArray))
    (hc : ∀ xs w, (callFunc f xs).run P w = .ok (.enter f xs) w) (hargs : Args env args vs) (hn : Nat.ble (d + 1) n = true)
    (hcall : ∀ w, St B w0 H w → Calls P f (vs ++ cs).toArray w (Post B w0 fun u K => u = .bool b ∧ K = H))
    (h1 : b = true → VL P none n B w0 ops Q rest ((d, .bool true) :: env) H) (h2 : b = false → VL P none n B w0 ops Q rest ((d, .bool false) :: env) H) :
    VL P none n B w0 ops Q (⟨some d, .call ⟨.value x, args.toArray, tys⟩, ty, pos, after, none⟩ :: rest) env H := by
  cases b
  · exact VL_callvt hx hc hargs hn hcall (h2 rfl)
  · exact VL_callvt hx hc hargs hn hcall (h1 rfl)
theorem VL_callvqb {f : Nat} {x : Operand} {args : List Operand} {tys : Array TypeId} {vs cs : List Value} {b : Bool} (hx : evo env x = some (.func (.func f) #[] cs.toArray))
    (hc : ∀ xs w, (callFunc f xs).run P w = .ok (.enter f xs) w) (hargs : Args env args vs) (hn : Nat.ble (d + 1) n = true)
    (hcall : ∀ w, St B w0 H w → Calls P f (vs ++ cs).toArray w (Post B w0 fun u K => u = .bool b ∧ K = H))
    (h1 : b = true → VL P (some none) n B w0 ops Q rest ((d, .bool true) :: env) H) (h2 : b = false → VL P (some none) n B w0 ops Q rest ((d, .bool false) :: env) H) :
    VL P (some none) n B w0 ops Q (⟨some d, .call ⟨.value x, args.toArray, tys⟩, ty, pos, after, none⟩ :: rest) env H := by
  cases b
  · exact VL_callvq hx hc hargs hn hcall (h2 rfl)
  · exact VL_callvq hx hc hargs hn hcall (h1 rfl)

/-- A block that a literal made, as a slice of its own. -/
theorem St.blk_sl {w : World} {g e size len : Nat} {cs : List Value} (h : St B w0 (Eng.blk g (.cells cs.toArray e (0, 0)) :: H) w) (hk : cs.length = len * size) (hl : len ≤ 1000000) : St B w0 (Eng.sl e size (some ⟨g, 0, none⟩) len len cs :: H) w := by
  refine h.upd (Upd.here _) rfl rfl rfl (Nat.le_refl _) fun S1 ⟨h1, h2⟩ => ⟨⟨⟨hk, .inr ⟨g, len, cs.toArray, rfl, Nat.zero_le _, h2, Nat.le_refl _, ?_, by simpa using hk, ?_⟩⟩, fun a ha => by cases ha; exact h1⟩, fun _ _ _ => rfl⟩
  · simp only [maxLen]; omega
  · rw [List.take_of_length_le (by simp [hk])]
end
end Go.Eng
