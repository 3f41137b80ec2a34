/- A network that came in as an argument. -/
import Derived.Test.YthnjhgfnojldcaaOp2
import Derived.Test.YthnjhgfnojldcaaNw1
namespace Go.Proofs.Ythnjhgfnojldcaa
open Go.ChangeShapes Go.WideShapes Go.ChangeAt Go.RowKit Go.Eng Go.Nw

section
variable {H : Type} {enc : TypeId × Value → H} {W : World} {spare : Nat → Bool} {held : Bool}
abbrev I64 (z : Int) : Prop := (Lit.int .i64 z).wf = true
theorem op_i : Opn enc Try.prog W spare held 3 numF I64 := op_int Try.underlying3
theorem op_ints : Opn enc Try.prog W spare held 24 (fun s : SlM Int => [s.val]) (SlG W numF I64) := op_slice (q := 1) Try.underlying24 (by kernel_rfl) (by decide) op_i
theorem op_rows : Opn enc Try.prog W spare held 22 (fun s : SlM (SlM Int) => [s.val]) (SlG W (fun s : SlM Int => [s.val]) (SlG W numF I64)) := op_slice (q := 1) Try.underlying22 (by kernel_rfl) (by decide) op_ints
theorem op_link : Opn enc Try.prog W spare held 40 lkF (fun l => I64 l.1 ∧ I64 l.2.1 ∧ I64 l.2.2) :=
  op_map (op_struct (ts := [3, 3, 3]) (by kernel_rfl) (fop_cons op_i (fop_cons op_i (fop_cons op_i fop_nil)))) (fun x => (x.1, x.2.1, x.2.2.1)) (fun _ => rfl) (fun _ h => ⟨h.1, h.2.1, h.2.2.1⟩)
theorem op_links : Opn enc Try.prog W spare held 23 (fun s : SlM Lk => [s.val]) (SlG W lkF fun l => I64 l.1 ∧ I64 l.2.1 ∧ I64 l.2.2) := op_slice (q := 3) Try.underlying23 (by kernel_rfl) (by decide) op_link

structure NetG (W : World) (n : NetM) : Prop where
  nodes : I64 n.nodes
  pw : Old W n.pA (n.rows.flatMap rowF)
  rw_ : ∀ r ∈ n.rows, Old W r.A (r.xs.flatMap numF)
  noise : I64 n.noise
  thr : I64 n.thr
  lk : Old W n.lA (n.links.flatMap lkF)
  mg : Old W n.mA (n.margin.flatMap numF)
  s1 : n.rows.length ≤ 9223372036854775807
  s2 : ∀ r ∈ n.rows, r.xs.length ≤ 9223372036854775807
  s3 : n.links.length ≤ 9223372036854775807
  s4 : n.margin.length ≤ 9223372036854775807
  w1 : ∀ r ∈ n.rows, ∀ z ∈ r.xs, I64 z
  w2 : ∀ l ∈ n.links, I64 l.1 ∧ I64 l.2.1 ∧ I64 l.2.2
  w3 : ∀ z ∈ n.margin, I64 z
  c3 : n.links.length ≤ n.lcap
  c4 : n.margin.length ≤ n.mcap
theorem NetG.In {n : NetM} {K : List HP} (h : NetG W n) : n.In W.heap.size W K := ⟨h.pw.rd, fun r hr => (h.rw_ r hr).rd, h.lk.rd, h.mg.rd, h.s1, h.s2, h.s3, h.s4⟩

def netF (n : NetM) : List Value := [.int .i64 n.nodes, .slice n.pA n.rows.length n.pcap, .int .i64 n.noise, .int .i64 n.thr, .slice n.lA n.links.length n.lcap, .slice n.mA n.margin.length n.mcap]
def rowOf (s : SlM Int) : RowM := ⟨s.A, s.cap, s.xs⟩
theorem flat_rowOf (l : List (SlM Int)) : (l.map rowOf).flatMap rowF = l.flatMap fun s => [s.val] := by rw [List.flatMap_map]; rfl
theorem maxL : maxLen ≤ 9223372036854775807 := by decide
theorem op_net : Opn enc Try.prog W spare held 26 netF (NetG W) :=
  op_map (op_struct (ts := [3, 22, 3, 3, 23, 24]) (by kernel_rfl) (fop_cons op_i (fop_cons op_rows (fop_cons op_i (fop_cons op_i (fop_cons op_links (fop_cons op_ints fop_nil)))))))
    (fun x => ⟨x.1, x.2.1.A, x.2.1.cap, x.2.1.xs.map rowOf, x.2.2.1, x.2.2.2.1, x.2.2.2.2.1.A, x.2.2.2.2.1.cap, x.2.2.2.2.1.xs, x.2.2.2.2.2.1.A, x.2.2.2.2.2.1.cap, x.2.2.2.2.2.1.xs⟩)
    (fun x => by simp [netF, numF, SlM.val])
    (fun x h => by
      obtain ⟨h1, h2, h3, h4, h5, h6, _⟩ := h
      have hm := maxL
      refine ⟨h1, ?_, ?_, h3, h4, h5.old, h6.old, ?_, ?_, Nat.le_trans h5.len hm, Nat.le_trans h6.len hm, ?_, h5.good, h6.good, h5.cap, h6.cap⟩
      · rw [flat_rowOf]; exact h2.old
      · intro r hr
        obtain ⟨s, hs, rfl⟩ := List.mem_map.1 hr
        exact (h2.good s hs).old
      · rw [List.length_map]; exact Nat.le_trans h2.len hm
      · intro r hr
        obtain ⟨s, hs, rfl⟩ := List.mem_map.1 hr
        exact Nat.le_trans (h2.good s hs).len hm
      · intro r hr
        obtain ⟨s, hs, rfl⟩ := List.mem_map.1 hr
        exact (h2.good s hs).good)

theorem open_net {r : Reach} {b0 : Nat} {v : Value} {d : DataW H} {p : List MemPlace} (hv : Value.okWide Try.prog W r b0 26 v) (h : DataW.Trod enc Try.prog W 0 spare held 26 v d p) : ∃ n : NetM, v = n.val ∧ NetG W n := by
  obtain ⟨cs, rfl, _⟩ := okWide_struct Try.underlying26 hv
  obtain ⟨fuel, hf⟩ := h
  obtain ⟨n, h1, h2⟩ := op_net fuel _ _ hf
  refine ⟨n, ?_, h2⟩
  have : cs = (netF n).toArray := by rw [← h1]; simp [Value.cells]
  rw [this]; rfl
end
end Go.Proofs.Ythnjhgfnojldcaa
