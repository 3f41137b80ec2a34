/- Lemmas for the claim, part 3. -/
import Derived.Lib.Builder
import Derived.Lib.AtoiAllCases
import Derived.Deep.Slices
import Derived.Lib.SmallJoins
import Derived.OpenShut
import Derived.ProofKit
import Derived.Below
import Derived.ChangeSame
import Derived.Carry
import Derived.Sort.OwnSortedInts
import Derived.Test.YtmalhidldgfeoaaGreatDoorQ2

namespace Go.Proofs.YtmalhidldgfeoaaGreatDoor
open Go.RowKit Go.Eng Go.Nw
section
variable {m : Eng.Mode} {n : Shp} {B d : Nat} {w0 : World} {ops : Array Oper} {Q : Exit → Act → World → Prop} {rest : List Oper} {env : Env} {H : List HP} {ty : TypeId} {pos : String} {after : Array Edge} {x y : Operand}
theorem VS (a b : List UInt8) (hx : evo env x = some (strV a)) (hy : evo env y = some (strV b)) (hn : Nat.ble (d + 1) n.k = true) (hb : a.length + b.length ≤ 1000000) (h : VL Tryz.prog m n B w0 ops Q rest ((d, strV (a ++ b)) :: env) H) :
    VL Tryz.prog m n B w0 ops Q (⟨some d, .binOp .add 9 x y 9, ty, pos, after, none⟩ :: rest) env H := by
  have hs : ∀ l : List UInt8, (⟨l.toArray⟩ : ByteArray).size = l.length := fun l => by simp [ByteArray.size]
  refine YjF hx hy hn (by rw [hs, hs]; omega) ?_
  have e : (⟨a.toArray⟩ : ByteArray) ++ ⟨b.toArray⟩ = ⟨(a ++ b).toArray⟩ := by
    apply ByteArray.ext
    simp
  rw [e]
  exact h
theorem Yic {g : Nat} {cs : Array Value} {fr : Nat × Nat} (hx : evo env x = some (.pointer (some ⟨g, 0, none⟩))) (hm : blk g (.cells cs 132 fr) ∈ H) (hc : cs.size = 2) (hn : Nat.ble (d + 1) n.k = true)
    (h : VL Tryz.prog none n B w0 ops Q rest ((d, .pointer (some ⟨g, 0, none⟩)) :: env) H) : VL Tryz.prog none n B w0 ops Q (⟨some d, .convert 129 245 x, ty, pos, after, none⟩ :: rest) env H := by
  refine Xw (fun v K' => v = .pointer (some ⟨g, 0, none⟩) ∧ K' = H) rfl rfl hn (fun a w ha hw => ?_) (by rintro _ _ ⟨rfl, rfl⟩; exact h)
  have hb := (hw.blk hm).1
  obtain ⟨j, hj, hjs⟩ := Option.map_eq_some_iff.1 (show (Tryz.prog.info? 132).map (·.size) = some 2 by kernel_rfl)
  have hr := Lib.run_to_unsafe (P := Tryz.prog) w ⟨g, 0, none⟩ Tryz.underlying129 Tryz.underlying245 hj (by rw [hjs]; decide) (show w.shape? g = some (132, 2) by simp [World.shape?, hb, hc]) (Nat.zero_lt_succ 1)
  exact ⟨_, H, w, by simp [execOp, ha.eval hx, hr], hw, rfl, rfl⟩
theorem Yh5 {g : Nat} {cs : Array Value} {fr : Nat × Nat} (hx : evo env x = some (.pointer (some ⟨g, 0, none⟩))) (hm : blk g (.cells cs 132 fr) ∈ H) (hc : cs.size = 2) (hn : Nat.ble (d + 1) n.k = true)
    (h : VL Tryz.prog none n B w0 ops Q rest ((d, .pointer (some ⟨g, 0, none⟩)) :: env) H) : VL Tryz.prog none n B w0 ops Q (⟨some d, .convert 245 129 x, ty, pos, after, none⟩ :: rest) env H := by
  refine Xw (fun v K' => v = .pointer (some ⟨g, 0, none⟩) ∧ K' = H) rfl rfl hn (fun a w ha hw => ?_) (by rintro _ _ ⟨rfl, rfl⟩; exact h)
  have hb := (hw.blk hm).1
  obtain ⟨j, hj, hjs⟩ := Option.map_eq_some_iff.1 (show (Tryz.prog.info? 132).map (·.size) = some 2 by kernel_rfl)
  have hr := Lib.run_from_unsafe (P := Tryz.prog) w ⟨g, 0, none⟩ Tryz.underlying245 Tryz.underlying129 hj (show w.shape? g = some (132, 2) by simp [World.shape?, hb, hc]) (by kernel_rfl)
  exact ⟨_, H, w, by simp [execOp, ha.eval hx, hr], hw, rfl, rfl⟩
theorem Yh3 {v : Value} {tys : Array TypeId} (hx : evo env x = some v) (hn : Nat.ble (d + 1) n.k = true) (h : VL Tryz.prog none n B w0 ops Q rest ((d, v) :: env) H) :
    VL Tryz.prog none n B w0 ops Q (⟨some d, .call ⟨.value (.func 196), #[x], tys⟩, ty, pos, after, none⟩ :: rest) env H := by
  refine Xw (fun u K' => u = v ∧ K' = H) rfl rfl hn (fun a w ha hw => ⟨v, H, w, ?_, hw, rfl, rfl⟩) (by rintro _ _ ⟨rfl, rfl⟩; exact h)
  have hr := run_callFunc_extern (P := Tryz.prog) Tryz.func196 (by kernel_rfl) (by kernel_rfl) (by kernel_rfl) (e := Extern.AbiNoEscape.same) (by kernel_rfl) #[v] w
  have he : a.eval (.func 196) = .func (.func 196) #[] #[] := rfl
  simp [execOp, resolve, invoke, ha.eval hx, he, Deferred.ofValue, hr, Lib.run_noEscape, Result.andThen]
theorem Ydn {g : Addr} (hx : evo env x = some (.pointer (some g))) (hy : evo env y = some (.pointer (some g))) (hn : Nat.ble (d + 1) n.k = true) (h : VL Tryz.prog m n B w0 ops Q rest ((d, .bool false) :: env) H) :
    VL Tryz.prog m n B w0 ops Q (⟨some d, .binOp .neq 129 x y 129, ty, pos, after, none⟩ :: rest) env H := by
  obtain ⟨j, hj, hjs⟩ := Option.map_eq_some_iff.1 (show (Tryz.prog.info? 132).map (·.size) = some 2 by kernel_rfl)
  exact YR hx hy hn (fun _ => rfl) (fun w => Lib.run_neq_ptr_same w g Tryz.underlying129 hj) h
end
set_option maxRecDepth 10000 in
theorem QO (b : Nat) (p v : Value) (hp : p = .pointer none ∨ p = .pointer (some ⟨b, 0, none⟩)) {B : Nat} {w0 : World} {H : List HP} {w : World} (hw : St B w0 (blk b (.cells #[p, v] 132 (0, 0)) :: H) w) :
    Calls Tryz.prog 136 [.pointer (some ⟨b, 0, none⟩)].toArray w (Post B w0 fun u K => u = .tuple #[] ∧ K = blk b (.cells #[.pointer (some ⟨b, 0, none⟩), v] 132 (0, 0)) :: H) := by
  refine Yc Tryz.func136 Tryz.ntmps136 rfl rfl hw ?_
  rcases hp with rfl | rfl
  · skip
    repeat' (first | (apply Ydm; exact rfl; exact rfl; kernel_rfl) | (apply Yic; exact rfl; exact zm; exact rfl; exact rfl) | (apply Yh5; exact rfl; exact zm; exact rfl; exact rfl) | (apply Yh3; exact rfl; exact rfl) | (apply Ydn; exact rfl; exact rfl; exact rfl) | refine zgd ?_ | fail)
    apply Xq; exact rfl; exact ⟨rfl, rfl⟩
  · skip
    repeat' (first | (apply Ydm; exact rfl; exact rfl; kernel_rfl) | (apply Ydn; exact rfl; exact rfl; exact rfl) | refine zgd ?_ | fail)
    apply Xq; exact rfl; exact ⟨rfl, rfl⟩
def bdP (b : Nat) (p : Value) (A : Option Addr) (cap : Nat) (l : List UInt8) (H : List HP) : List HP := blk b (.cells #[p, .slice A l.length cap] 132 (0, 0)) :: sl 5 1 A l.length cap (Lib.byteCells l) :: H
set_option maxRecDepth 10000 in
theorem VF (b : Nat) (p : Value) (hp : p = .pointer none ∨ p = .pointer (some ⟨b, 0, none⟩)) (A : Option Addr) (cap : Nat) (l s : List UInt8) (hl : l.length + s.length ≤ 1000000) {B : Nat} {w0 : World} {H : List HP} {w : World} (hw : St B w0 (bdP b p A cap l H) w) :
    Calls Tryz.prog 76 [.pointer (some ⟨b, 0, none⟩), strV s].toArray w (Post B w0 fun u K => u = .tuple #[.int .i64 s.length, .nilIface] ∧ ∃ A' cap', K = bdP b (.pointer (some ⟨b, 0, none⟩)) A' cap' (l ++ s) H) := by
  have hs : (⟨s.toArray⟩ : ByteArray).size = s.length := by simp [ByteArray.size]
  refine Yc Tryz.func76 Tryz.ntmps76 rfl rfl hw ?_
  unfold bdP
  repeat' (first | refine zga ?_ | fail)
  apply Yo _ YlI
  exact za
  exact rfl
  exact fun _ hw => (QO b p _ hp (hw))
  rintro _ _ ⟨rfl, rfl⟩
  repeat' (first | (apply Ycg T (e := 5); exact rfl; exact rfl; exact rfl; kernel_rfl; exact rfl; exact rfl; (intro _ _; exact zd); (rw [hs]; omega); intro A' cap') | refine zgd ?_ | fail)
  have e1 : Lib.byteCells l ++ Lib.strCells ⟨s.toArray⟩ = Lib.byteCells (l ++ s) := by
    unfold Lib.byteCells Lib.strCells
    rw [List.map_append]
  have e2 : l.length + (⟨s.toArray⟩ : ByteArray).size = (l ++ s).length := by rw [hs, List.length_append]
  apply Yr; exact rfl; exact rfl; exact rfl
  refine ⟨by rw [hs], A', cap', ?_⟩
  rw [e1, e2]
theorem Yk9 {b : Nat} {p : Value} {A : Option Addr} {cap : Nat} {l : List UInt8} {B : Nat} {w0 w : World} {H : List HP} (hp : p = .pointer none ∨ p = .pointer (some ⟨b, 0, none⟩)) (hw : St B w0 (bdP b p A cap l H) w) : Lib.IsBuilder 132 5 B b (Lib.byteCells l) w := by
  obtain ⟨_, _, S1, S2, k1, k2, k3, ⟨k4, k5⟩, S3, S4, j1, j2, j3, ⟨⟨j4, j5⟩, j6⟩, j7⟩ := hw
  have hl : (Lib.byteCells l).length = l.length := by unfold Lib.byteCells; rw [List.length_map]
  have hat : Lib.BuilderAt 132 5 B b p (Lib.byteCells l) w := by
    refine ⟨(k1 b k4).1, .slice A l.length cap, k5, ⟨by rw [hl]; omega, ?_⟩, ?_⟩
    · rw [hl]
      rcases j5 with j5 | ⟨g, c, cur, e1, e2, e3⟩
      · exact .inl j5
      · refine .inr ⟨g, c, cur, e1, ?_, e3⟩
        injection e1 with e1
        exact (k2 g (j1 g (j6 _ e1))).1
    · intro e
      cases A with
      | none => cases e
      | some a =>
        simp only [Value.ownBlock, Option.some.injEq] at e
        have := j6 a rfl
        rw [e] at this
        exact k3 b k4 (j1 b this)
  rcases hp with rfl | rfl
  · exact .inl hat
  · exact .inr hat
theorem OP {b : Nat} {p : Value} {A : Option Addr} {cap : Nat} {l : List UInt8} {B : Nat} {w0 w : World} {H : List HP} (hp : p = .pointer none ∨ p = .pointer (some ⟨b, 0, none⟩)) (hw : St B w0 (bdP b p A cap l H) w) :
    Calls Tryz.prog 78 [.pointer (some ⟨b, 0, none⟩)].toArray w (Post B w0 fun v K => v = strV l ∧ K = []) := by
  refine (Tryz.Builder_String_any B b l w (Yk9 hp hw) hw.le).mono ?_
  rintro e w' ⟨rfl, hb⟩
  exact ⟨_, [], rfl, ⟨hw.below.trans hb, Nat.le_trans hw.le hb.size, trivial⟩, rfl, rfl⟩
theorem Yaf {n : Int} (h : 0 ≤ n ∧ n < 10000) : (Lib.itoa n).length ≤ 4 := by
  rw [JZ h.1]; exact Qc (by omega)
theorem Wk {w : List UInt8} : ∀ {l : List Int}, (∀ n ∈ l, 0 ≤ n ∧ n < 10000) → (YM w l).length ≤ w.length + 5 * l.length
  | [], _ => by simp [YM]
  | n :: l, h => by
    have ih := Wk (w := w) (l := l) fun m hm => h m (List.mem_cons_of_mem _ hm)
    have h1 := Yaf (h n List.mem_cons_self)
    unfold YM at ih ⊢
    simp only [List.flatMap_cons, List.length_append, List.length_cons] at ih ⊢
    omega
theorem Ybr (w : List UInt8) (l : List Int) (n : Int) : YM w (l ++ [n]) = YM w l ++ ([32] ++ Lib.itoa n) := by
  unfold YM; simp
set_option maxRecDepth 10000 in
theorem YbZ (word : List UInt8) (l : List Int) (h : ∀ n ∈ l, 0 ≤ n ∧ n < 10000) (h5 : l.length ≤ 100) (hwd : word.length ≤ 100) {A : Option Addr} {cap B : Nat} {w0 : World} {H : List HP} {w : World} (ht : TabsB B w0) (hr : Rd B w0 H A (l.flatMap numF)) (hw : St B w0 H w) :
    Calls Tryz.prog 104 [strV word, .slice A l.length cap].toArray w (Post B w0 fun v K => v = strV (XP word l) ∧ K = H) := by
  refine Yc Tryz.func104 Tryz.ntmps104 rfl rfl hw ?_
  repeat' (first | refine zgb ?_ | fail)
  refine Yl (fun (i : Nat) => [(9, .int .i64 i), (8, .int .i64 l.length), (7, .slice A l.length cap), (0, strV (YM word (l.take i)))]) (fun _ => H) (fun i => i ≤ l.length) (fun i => l.length - i) 0 (Nat.zero_le _) ?_ (fun w hw => hw) ?_
  · have e0 : YM word (l.take 0) = word := by simp [YM]
    rw [e0]
    exact zu
  intro i hi K hK
  have hbl := Wk (w := word) (l := l.take i) fun n hn => h n (List.mem_of_mem_take hn)
  have hlt0 : (l.take i).length ≤ 100 := by rw [List.length_take]; omega
  by_cases hlt : i < l.length
  · obtain ⟨n, hn⟩ : ∃ n, l[i]? = some n := ⟨_, List.getElem?_eq_getElem hlt⟩
    have hnb := h n (List.mem_of_getElem? hn)
    have hil := Yaf hnb
    repeat' (first | ((first | apply Ya Yby | apply Yb Yby); exact za; exact rfl; exact fun _ hw => (WY n (by omega) (by omega) ht hw)) | (apply VS [32] (Lib.itoa n); exact rfl; exact rfl; exact rfl; (show 1 + _ ≤ _; omega)) | (apply VS (YM word (l.take i)) ([32] ++ Lib.itoa n); exact rfl; exact rfl; exact rfl; (rw [List.length_append]; show _ + (1 + _) ≤ _; omega)) | refine zgd ?_ | (refine zge ?_ ?_ <;> intro _ <;> try (exfalso; omega)) | fail)
    apply hK (i + 1)
    · show i + 1 ≤ l.length
      omega
    · omega
    · rw [List.take_add_one, hn, Option.toList_some, Ybr]
      exact zu
    · exact fun w hw => hw
  · skip
    repeat' (first | (apply VS (YM word (l.take i)) [10]; exact rfl; exact rfl; exact rfl; (show _ + 1 ≤ _; omega)) | refine zgc ?_ | (refine zge ?_ ?_ <;> intro _ <;> try (exfalso; omega)) | fail)
    apply Yd; exact rfl; exact rfl
    rw [show i = l.length by omega, List.take_length]
    exact ⟨rfl, rfl⟩
def Zo (s : Sch) (i : Nat) : List UInt8 := XP wordS [s.len, s.off] ++ (s.cells.take i).flatMap fun c => XP wordC (nums c)
theorem OR {s : Sch} {i : Nat} (h : i < s.cells.length) : Zo s (i + 1) = Zo s i ++ XP wordC (nums (Ym s i)) := by
  unfold Zo
  rw [List.take_add_one, YG h, Option.toList_some, List.flatMap_append, List.append_assoc]
  simp
theorem Zk {w : List UInt8} {l : List Int} (h : ∀ n ∈ l, 0 ≤ n ∧ n < 10000) : (XP w l).length ≤ w.length + 5 * l.length + 1 := by
  unfold XP
  have := Wk (w := w) h
  rw [List.length_append]
  show _ + 1 ≤ _
  omega
theorem YaR {s : Sch} (h : Frm s) : ∀ i, i ≤ s.cells.length → (Zo s i).length ≤ 100 + 40 * i
  | 0, _ => by
    have h1 := Zk (w := wordS) (WX h).1
    unfold Zo
    simp only [List.take_zero, List.flatMap_nil, List.append_nil]
    have : wordS.length = 8 := rfl
    simp only [List.length_cons, List.length_nil] at h1
    omega
  | i + 1, hi => by
    have ih := YaR h i (by omega)
    have h1 := Zk (w := wordC) ((WX h).2 _ (WM (s := s) (i := i) (by omega)))
    rw [OR (by omega), List.length_append]
    have : wordC.length = 4 := rfl
    have h2 : (nums (Ym s i)).length = 5 := rfl
    omega
set_option maxRecDepth 10000 in
set_option maxHeartbeats 1000000 in
theorem YiY (s : SchM) {B : Nat} {w0 : World} {w : World} (ht : TabsB B w0) (hr : Rd B w0 [] s.A (s.cells.flatMap celF)) (hl : s.cells.length ≤ 1000000000000) (hw : St B w0 [] w) :
    Calls Tryz.prog 47 [s.val].toArray w (Post B w0 fun v _ => v = .tuple #[strV (ZY s.sch).1, .int .i64 (ZY s.sch).2]) := by
  refine Yc Tryz.func47 Tryz.ntmps47 rfl rfl hw ?_
  have e1 : s.sch.cells = s.cells := rfl
  cases hf : Y6 s.sch with
  | false =>
    repeat' (first | ((first | apply Ya en58 | apply Yb en58); exact za; exact rfl; exact fun _ hw => (JP (congrArg Value.bool hf) (fun _ hw => JV s hr.cons hl hw) hw)) | refine zgd ?_ | (refine zgh ?_; intro _) | fail)
    apply Yr; exact rfl; exact rfl; exact rfl
    rw [ZY, if_pos hf]
  | true =>
    have hfr := Wq.1 hf
    have hle : s.cells.length ≤ 512 := hfr.few
    have hnm := WX hfr
    have hln1 := Zk (w := wordS) hnm.1
    repeat' (first | ((first | apply Ya en58 | apply Yb en58); exact za; exact rfl; exact fun _ hw => (JP (congrArg Value.bool hf) (fun _ hw => JV s hr.cons hl hw) hw)) | refine zgc ?_ | (refine zgh ?_; intro _) | fail)
    rename_i gs gb gl
    have hrl : Rd B w0 [blk gl (.cells #[.int .i64 s.len, .int .i64 s.off] 3 (0, 0)), blk gb (.cells (Value.agg #[.pointer none, .slice none 0 0]).cells 132 (0, 0)), blk gs (.cells #[.int .i64 s.len, .int .i64 s.off, .slice s.A s.cells.length s.cap] 30 (0, 0))] (some ⟨gl, 0, none⟩) ([s.sch.len, s.sch.off].flatMap numF) := Rd.blk (cs := #[.int .i64 s.len, .int .i64 s.off]) (.head _)
    first | apply Ya Yf7 | apply Yb Yf7
    exact za
    exact rfl
    exact fun _ hw => (YbZ wordS [s.sch.len, s.sch.off] hnm.1 (by show 2 ≤ 100; decide) (by decide) ht hrl hw)
    apply Ybm (bdP gb (.pointer none) none 0 [] [blk gs (.cells #[.int .i64 s.len, .int .i64 s.off, .slice s.A s.cells.length s.cap] 30 (0, 0))])
    · unfold bdP
      intro w hw
      have h5 : St B w0 [blk gb (.cells (Value.agg #[.pointer none, .slice none 0 0]).cells 132 (0, 0)), blk gs (.cells #[.int .i64 s.len, .int .i64 s.off, .slice s.A s.cells.length s.cap] 30 (0, 0))] w := by
        revert w
        exact zk
      exact (h5.nilSlice _ _).perm (.swap _ _ _)
    apply Yo _ en76
    exact za
    exact rfl
    exact fun _ hw => (VF gb _ (.inl rfl) none 0 [] (XP wordS [s.sch.len, s.sch.off]) (by simp only [List.length_nil]; have : wordS.length = 8 := rfl; simp only [List.length_cons, List.length_nil] at hln1; omega) (hw))
    rintro _ _ ⟨rfl, A1, cap1, rfl⟩
    unfold bdP
    repeat' (first | refine zgb ?_ | fail)
    refine Yl (fun (z : Nat × Option Addr × Nat) => [(21, .int .i64 z.1), (20, .int .i64 s.cells.length), (19, .slice s.A s.cells.length s.cap), (4, .pointer (some ⟨gb, 0, none⟩))]) (fun z => bdP gb (.pointer (some ⟨gb, 0, none⟩)) z.2.1 z.2.2 (Zo s.sch z.1) [blk gs (.cells #[.int .i64 s.len, .int .i64 s.off, .slice s.A s.cells.length s.cap] 30 (0, 0))]) (fun z => z.1 ≤ s.cells.length) (fun z => s.cells.length - z.1) (0, A1, cap1) (Nat.zero_le _) ?_ ?_ ?_
    · exact zu
    · have e0 : Zo s.sch 0 = [] ++ XP wordS [s.sch.len, s.sch.off] := by unfold Zo; simp
      rw [e0]
      unfold bdP
      exact fun w hw => hw
    rintro ⟨i, A2, cap2⟩ hi K hK
    dsimp only at hi ⊢
    have htl := YaR hfr i hi
    by_cases hlt : i < s.cells.length
    · have hget : s.cells[i]? = some (Ym s.sch i) := YG (s := s.sch) hlt
      have hnc := hnm.2 _ (WM (s := s.sch) hlt)
      have hln := Zk (w := wordC) hnc
      have hr' : Rd B w0 (bdP gb (.pointer (some ⟨gb, 0, none⟩)) A2 cap2 (Zo s.sch i) [blk gs (.cells #[.int .i64 s.len, .int .i64 s.off, .slice s.A s.cells.length s.cap] 30 (0, 0))]) s.A (s.cells.flatMap celF) := hr.cons.cons.cons
      repeat' (first | ((first | apply Ya Yiw | apply Yb Yiw); exact za; exact rfl; exact fun _ hw => (Ww _ hw)) | (apply Wd T (e := 3); exact rfl; exact rfl; exact rfl) | refine zgd ?_ | (refine zge ?_ ?_ <;> intro _ <;> try (exfalso; omega)) | (refine zgh ?_; intro _) | fail)
      rename_i gc ga
      have hra : ∀ X, Rd B w0 (blk ga (.cells (celF (Ym s.sch i)).toArray 183 (0, 0)) :: X) (some ⟨ga, 0, none⟩) ((nums (Ym s.sch i)).flatMap numF) := fun X => Rd.blk (cs := (celF (Ym s.sch i)).toArray) (.head _)
      first | apply Ya Yf7 | apply Yb Yf7
      exact za
      exact rfl
      exact fun _ hw => (YbZ wordC (nums (Ym s.sch i)) hnc (by show 5 ≤ 100; decide) (by decide) ht (hra _) hw)
      apply Ybm (bdP gb (.pointer (some ⟨gb, 0, none⟩)) A2 cap2 (Zo s.sch i) [blk gs (.cells #[.int .i64 s.len, .int .i64 s.off, .slice s.A s.cells.length s.cap] 30 (0, 0))])
      · exact fun w hw => hw.tail.tail
      have h5n : (nums (Ym s.sch i)).length = 5 := rfl
      have h4w : wordC.length = 4 := rfl
      apply Yo _ en76
      exact za
      exact rfl
      exact fun _ hw => (VF gb _ (.inr rfl) A2 cap2 (Zo s.sch i) (XP wordC (nums (Ym s.sch i))) (by omega) (hw))
      rintro _ _ ⟨rfl, A3, cap3, rfl⟩
      rw [← OR hlt]
      repeat' (first | refine zgc ?_ | fail)
      apply hK (i + 1, A3, cap3)
      · show i + 1 ≤ s.cells.length
        omega
      · dsimp only; omega
      · exact zu
      · exact fun w hw => hw
    · repeat' (first | refine zgc ?_ | (refine zge ?_ ?_ <;> intro _ <;> try (exfalso; omega)) | fail)
      apply Yo _ en78
      exact za
      exact rfl
      exact fun _ hw => (OP (l := Zo s.sch i) (.inr rfl) (hw))
      rintro _ _ ⟨rfl, rfl⟩
      repeat' (first | refine zga ?_ | fail)
      apply Yr; exact rfl; exact rfl; exact rfl
      rw [ZY, if_neg (by simp [hf])]
      rw [show i = s.sch.cells.length from (by have : s.sch.cells.length = s.cells.length := rfl; omega), show Zo s.sch s.sch.cells.length = Yjm s.sch from (by unfold Zo Yjm; rw [List.take_length])]
theorem Yaw (s : SchM) {B : Nat} {w0 : World} {H : List HP} {w : World} (ht : TabsB B w0) (hr : Rd B w0 H s.A (s.cells.flatMap celF)) (hl : s.cells.length ≤ 1000000000000) (hw : St B w0 H w) :
    Calls Tryz.prog 47 [s.val].toArray w (Post B w0 fun v K => v = .tuple #[strV (ZY s.sch).1, .int .i64 (ZY s.sch).2] ∧ K = H) :=
  Ot hw (YiY s (ht.here hw) (hr.here hw) hl (St.start w))
open Go.RowKit Go.Eng Go.Nw
section
variable {m : Eng.Mode} {n : Shp} {B d : Nat} {w0 : World} {ops : Array Oper} {Q : Exit → Act → World → Prop} {rest : List Oper} {env : Env} {H : List HP} {ty : TypeId} {pos : String} {after : Array Edge} {x y : Operand}
theorem YeF {a b : List UInt8} : (⟨a.toArray⟩ : ByteArray) = ⟨b.toArray⟩ ↔ a = b := by
  constructor
  · intro h
    have h1 := congrArg (fun s : ByteArray => s.data.toList) h
    simpa using h1
  · rintro rfl; rfl
theorem Ycn (a b : List UInt8) (hx : evo env x = some (strV a)) (hy : evo env y = some (strV b)) (hn : Nat.ble (d + 1) n.k = true) (h1 : a ≠ b → VL Tryz.prog m n B w0 ops Q rest ((d, .bool true) :: env) H) (h2 : a = b → VL Tryz.prog m n B w0 ops Q rest ((d, .bool false) :: env) H) :
    VL Tryz.prog m n B w0 ops Q (⟨some d, .binOp .neq 9 x y 9, ty, pos, after, none⟩ :: rest) env H :=
  YjI hx hy hn (fun h => h1 fun e => h (YeF.2 e)) (fun h => h2 (YeF.1 h))
theorem Yjx (hx : evo env x = some .nilIface) (hn : Nat.ble (d + 1) n.k = true) (h : VL Tryz.prog m n B w0 ops Q rest ((d, .bool false) :: env) H) :
    VL Tryz.prog m n B w0 ops Q (⟨some d, .binOp .neq 134 x (.const .nilIface) 134, ty, pos, after, none⟩ :: rest) env H :=
  YR (y := .const .nilIface) hx rfl hn (fun w => by simp [eqGuard]) (fun w => run_neq_nil_nil (P := Tryz.prog) (w := w) 134 (by kernel_rfl)) h
theorem Yjy {t : TypeId} {p : Value} (hx : evo env x = some (.iface t p)) (hn : Nat.ble (d + 1) n.k = true) (h : VL Tryz.prog m n B w0 ops Q rest ((d, .bool true) :: env) H) :
    VL Tryz.prog m n B w0 ops Q (⟨some d, .binOp .neq 134 x (.const .nilIface) 134, ty, pos, after, none⟩ :: rest) env H :=
  YR (y := .const .nilIface) hx rfl hn (fun w => by simp [eqGuard]) (fun w => run_neq_held_nil (P := Tryz.prog) (w := w) 134 t p (by kernel_rfl)) h
end
abbrev nrs (A : Option Addr) (cap : Nat) (l : List Int) : HP := sl 3 1 A l.length cap (l.flatMap numF)
theorem ZQ (A : Option Addr) (cap : Nat) (l : List Int) (z : Int) : sl 3 1 A (l.length + 1) cap (l.flatMap numF ++ #[Value.int .i64 z].toList) = nrs A cap (l ++ [z]) := by simp [nrs, List.flatMap_append, numF]
theorem Yca (ps : List (List UInt8)) : (ps.map strV) = ps.flatMap strL := by induction ps with | nil => rfl | cons a l ih => simp [strL, List.flatMap_cons, ih]
theorem Yhj {ws : List (List UInt8)} (h : ∀ w ∈ ws, 0 ≤ numW w) : J3 ws = some (ws.map numW) := by
  unfold J3
  rw [if_neg]
  rw [Bool.not_eq_true, List.any_eq_false]
  intro w hw
  have := h w hw
  simp; omega
theorem Yhi {ws : List (List UInt8)} {w : List UInt8} (hw : w ∈ ws) (h : numW w < 0) : J3 ws = none := by
  unfold J3
  rw [if_pos]
  rw [List.any_eq_true]
  exact ⟨w, hw, by simpa using h⟩
theorem YcC {c : UInt8} : ∀ {l : List UInt8}, ∀ p ∈ cutC c l, p.length ≤ l.length
  | [], p, hp => by
    simp only [cutC, List.mem_singleton] at hp
    subst hp; simp
  | x :: l, p, hp => by
    have ih := YcC (c := c) (l := l)
    unfold cutC at hp
    split at hp
    · rcases List.mem_cons.1 hp with rfl | hp
      · simp
      · have := ih p hp; simp only [List.length_cons]; omega
    · cases hc : cutC c l with
      | nil => rw [hc] at hp; simp at hp; subst hp; simp
      | cons q qs =>
        rw [hc] at hp ih
        simp only [List.mem_cons] at hp ih
        rcases hp with rfl | hp
        · have := ih q (.inl rfl); simp only [List.length_cons]; omega
        · have := ih p (.inr hp); simp only [List.length_cons]; omega
def OutR (H : List HP) (r : Option (List Int)) (v : Value) (K : List HP) : Prop :=
  match r with
  | none => v = .tuple #[.slice none 0 0, .bool false] ∧ K = H
  | some x => ∃ A cap, v = .tuple #[.slice A x.length cap, .bool true] ∧ K = nrs A cap x :: H
end Go.Proofs.YtmalhidldgfeoaaGreatDoor
namespace Go.Eng
open Go.RowKit
end Go.Eng
namespace Go.Proofs.YtmalhidldgfeoaaGreatDoor
open Go.RowKit Go.Eng Go.Nw
theorem Xu {f : Nat → Int} : ∀ {r i0 i : Nat}, (∀ k, i0 ≤ k → k < i → f k = 0) → i0 ≤ i → i < i0 + r → f i ≠ 0 → YF f r i0 = ((i : Int), f i)
  | 0, i0, i, _, h1, h2, _ => by omega
  | r + 1, i0, i, h0, h1, h2, h3 => by
    unfold YF
    by_cases e : i0 = i
    · subst e; rw [if_neg h3]
    · rw [if_pos (h0 i0 (Nat.le_refl _) (by omega))]
      exact Xu (fun k hk1 hk2 => h0 k (by omega) hk2) (by omega) (by omega) h3
theorem X7 {f : Nat → Int} {r i0 : Nat} (h : ∀ k, i0 ≤ k → k < i0 + r → f k = 0) : YF f r i0 = (-1, 0) := by
  have h2 := Y2.2 h
  exact Prod.ext (QZ h2) h2
theorem WQ {c : UInt8} : ∀ l : List UInt8, (cutC c l).length ≤ l.length + 1
  | [] => by simp [cutC]
  | x :: l => by
    have ih := WQ (c := c) l
    unfold cutC
    split
    · simp only [List.length_cons]; omega
    · split
      · simp
      · rename_i h t he
        rw [he] at ih
        simp only [List.length_cons] at ih ⊢
        omega
end Go.Proofs.YtmalhidldgfeoaaGreatDoor
namespace Go.Eng
open Go.ChangeShapes Go.WideShapes Go.ChangeAt Go.RowKit Go.Deep
def Old (W : World) (A : Option Addr) (xs : List Value) : Prop := ∀ j v, xs[j]? = some v → ∃ g o, A = some ⟨g, o, none⟩ ∧ g < W.heap.size ∧ W.cell? ⟨g, o + j, none⟩ = some v
theorem Old.rd {W : World} {H : List HP} {A : Option Addr} {xs : List Value} (h : Old W A xs) : Rd W.heap.size W H A xs := Rd.old h
theorem YjR {W : World} {a : Addr} {v : Value} (h : W.cell? a = some v) : a.block < W.heap.size := by
  unfold World.cell? at h
  rcases Nat.lt_or_ge a.block W.heap.size with h1 | h1
  · exact h1
  · rw [Array.getElem?_eq_none h1] at h; cases h
section
variable {H : Type} {enc : TypeId × Value → H} {P : Program} {W : World} {held : Bool}
theorem Yhl {α : Type} {f : α → List Value} {good : α → Prop} {t e q : Nat} {fuel : Nat} {A : Option Addr} {len cap : Nat} {x : DataW H × List MemPlace} {spare : Nat → Bool} (ht : P.underlying t = some (.slice e)) (hc : P.cellsOf e = q) (h0 : 0 < q)
    (hel : ∀ n cs y, cs.length = q → DataW.trod enc P W 0 spare held n e cs = some y → ∃ a, cs = f a ∧ good a) (h : DataW.trod enc P W 0 spare held fuel t [.slice A len cap] = some x) :
    ∃ l : List α, l.length = len ∧ Old W A (l.flatMap f) ∧ (∀ a ∈ l, good a) ∧ len ≤ maxLen ∧ (∀ a ∈ l, (f a).length = q) := by
  rcases open_slice ht h with ⟨h1, _⟩ | ⟨a, len', cap', m, n, D, Pl, h1, _, hl, hm, hmm, hxx, hx⟩
  · injection h1 with h1 _
    injection h1 with h1 h2 h3
    subst h1 h2 h3
    exact ⟨[], rfl, (fun j v hv => by simp at hv), (fun a ha => by cases ha), Nat.zero_le _, (fun a ha => by cases ha)⟩
  · injection h1 with h1 _
    injection h1 with h1 h2 h3
    subst h1 h2 h3
    have hle : len ≤ m := by rw [hmm]; split <;> omega
    rw [hc] at hx
    have key : ∀ i, i < len → ∃ b : α, W.cells? 0 (a.add (i * q)) q = some (f b) ∧ good b := fun i hi => by
      obtain ⟨cs', h2, h3⟩ := hx i (by omega)
      obtain ⟨_, h5, _⟩ := World.cells?_some h2
      obtain ⟨b, rfl, hb⟩ := hel n cs' _ h5 h3
      exact ⟨b, h2, hb⟩
    obtain ⟨l, hlen, hl2⟩ : ∃ l : List α, l.length = len ∧ ∀ i b, l[i]? = some b → W.cells? 0 (a.add (i * q)) q = some (f b) ∧ good b := by
      clear hx hmm hle h hl hm hxx
      induction len with
      | zero => exact ⟨[], rfl, fun i b hb => by simp at hb⟩
      | succ k ih =>
        obtain ⟨l, h2, h3⟩ := ih (fun i hi => key i (by omega))
        obtain ⟨b, h4⟩ := key k (by omega)
        refine ⟨l ++ [b], by simp [h2], fun i c hc => ?_⟩
        by_cases hi : i < l.length
        · rw [List.getElem?_append_left hi] at hc; exact h3 i c hc
        · rw [List.getElem?_append_right (by omega)] at hc
          have hi2 : i - l.length = 0 := by
            have := (List.getElem?_eq_some_iff.1 hc).1
            simp at this; omega
          rw [hi2] at hc
          obtain rfl : b = c := by simpa using hc
          obtain rfl : i = k := by omega
          exact h4
    have hfq : ∀ b ∈ l, (f b).length = q := fun b hb => by
      obtain ⟨i, hi⟩ := List.getElem?_of_mem hb
      exact (World.cells?_some (hl2 i b hi).1).2.1
    refine ⟨l, hlen, fun j v hv => ?_, fun b hb => ?_, by omega, hfq⟩
    · have hspl : ∃ i b, l[i]? = some b ∧ ∃ r, j = i * q + r ∧ r < q ∧ (f b)[r]? = some v := by
        clear hlen hl2 key
        induction l generalizing j with
        | nil => simp at hv
        | cons b l ih =>
          rw [List.flatMap_cons] at hv
          have hb := hfq b (by simp)
          by_cases hj : j < q
          · rw [List.getElem?_append_left (by omega)] at hv
            exact ⟨0, b, rfl, j, by omega, hj, hv⟩
          · rw [List.getElem?_append_right (by omega), hb] at hv
            obtain ⟨i, b', h5, r, h6, h7, h8⟩ := ih (fun c hc => hfq c (by simp [hc])) (j - q) hv
            exact ⟨i + 1, b', by simpa using h5, r, by rw [Nat.add_mul]; omega, h7, h8⟩
      obtain ⟨i, b, h5, r, rfl, h7, h8⟩ := hspl
      have h9 := (World.cells?_some (hl2 i b h5).1).2.2 r h7
      rw [h8, add_add] at h9
      obtain ⟨ab, ao, spot⟩ := a
      have hs0 : spot = none := by
        have h10 := World.cell?_spot h9
        unfold Addr.add at h10
        split at h10
        · exact h10
        · rename_i hne
          have hi0 : i < len := by have := (List.getElem?_eq_some_iff.1 h5).1; omega
          have h11 := (World.cells?_some (hl2 0 l[0] (List.getElem?_eq_getElem (by omega))).1).2.2 0 h0
          rw [add_add, Nat.zero_mul, Nat.zero_add] at h11
          have hf0 : ((f l[0])[0]?).isSome = true := by
            rw [List.getElem?_eq_getElem (by rw [hfq _ (List.getElem_mem _)]; exact h0)]; rfl
          cases hf1 : (f l[0])[0]? with
          | none => rw [hf1] at hf0; cases hf0
          | some u =>
            rw [hf1] at h11
            exact World.cell?_spot h11
      subst hs0
      refine ⟨ab, ao, rfl, ?_, ?_⟩
      · have := YjR h9
        rw [Addr.add_lit] at this
        exact this
      · rw [Addr.add_lit] at h9
        exact h9
    · obtain ⟨i, hi⟩ := List.getElem?_of_mem hb
      exact (hl2 i b hi).2
end
open Go.ChangeShapes Go.WideShapes Go.ChangeAt Go.RowKit Go.Deep
structure SlM (α : Type) where
  A : Option Addr
  cap : Nat
  xs : List α
def SlM.val {α : Type} (s : SlM α) : Value := .slice s.A s.xs.length s.cap
section
variable {H : Type} {enc : TypeId × Value → H} {P : Program} {W : World} {spare : Nat → Bool} {held : Bool}
def Opn (enc : TypeId × Value → H) (P : Program) (W : World) (spare : Nat → Bool) (held : Bool) (t : TypeId) {α : Type} (f : α → List Value) (good : α → Prop) : Prop :=
  ∀ fuel cs y, DataW.trod enc P W 0 spare held fuel t cs = some y → ∃ a, cs = f a ∧ good a
theorem Vt {t : TypeId} {α β : Type} {f : α → List Value} {good : α → Prop} {f' : β → List Value} {good' : β → Prop} (h : Opn enc P W spare held t f good) (g : α → β) (hf : ∀ a, f a = f' (g a)) (hg : ∀ a, good a → good' (g a)) : Opn enc P W spare held t f' good' := by
  intro fuel cs y hy
  obtain ⟨a, h1, h2⟩ := h fuel cs y hy
  exact ⟨g a, h1.trans (hf a), hg a h2⟩
theorem Yle {t : TypeId} {k : IntKind} (ht : P.underlying t = some (.int k)) : Opn enc P W spare held t (fun z : Int => [Value.int k z]) (fun z => (Lit.int k z).wf = true) := by
  intro fuel cs y hy
  obtain ⟨m, rfl, rfl, hw⟩ := DataW.trod_int ht hy
  exact ⟨m, rfl, hw⟩
structure SlG {α : Type} (W : World) (f : α → List Value) (good : α → Prop) (s : SlM α) : Prop where
  old : Old W s.A (s.xs.flatMap f)
  good : ∀ a ∈ s.xs, good a
  len : s.xs.length ≤ maxLen
  cap : s.xs.length ≤ s.cap
theorem ZR {t e q : TypeId} {α : Type} {f : α → List Value} {good : α → Prop} (ht : P.underlying t = some (.slice e)) (hc : P.cellsOf e = q) (h0 : 0 < q) (h : Opn enc P W spare held e f good) : Opn enc P W spare held t (fun s : SlM α => [s.val]) (SlG W f good) := by
  intro fuel cs y hy
  rcases open_slice ht hy with ⟨rfl, _⟩ | ⟨a, len, cap, m, n, D, Pl, rfl, _, hlc, _⟩
  · exact ⟨⟨none, 0, []⟩, rfl, ⟨(fun j v hv => by simp at hv), (fun a ha => by cases ha), Nat.zero_le _, Nat.zero_le _⟩⟩
  · obtain ⟨l, h1, h2, h3, h4, _⟩ := Yhl ht hc h0 (fun n cs y _ hy => h n cs y hy) hy
    subst h1
    exact ⟨⟨some a, cap, l⟩, rfl, h2, h3, h4, hlc⟩
def FOpn (enc : TypeId × Value → H) (P : Program) (W : World) (spare : Nat → Bool) (held : Bool) (ts : List TypeId) {α : Type} (f : α → List Value) (good : α → Prop) : Prop :=
  ∀ (n : Nat) (cs : List Value), cs.length = (ts.map P.cellsOf).sum → (∀ i t, ts[i]? = some t → ∃ y, DataW.trod enc P W 0 spare held n t ((cs.drop ((ts.take i).map P.cellsOf).sum).take (P.cellsOf t)) = some y) → ∃ a, cs = f a ∧ good a
theorem Vh : FOpn enc P W spare held [] (fun _ : Unit => []) (fun _ => True) := fun n cs h _ => ⟨(), List.eq_nil_of_length_eq_zero (by simpa using h), trivial⟩
theorem Yz {t : TypeId} {ts : List TypeId} {α β : Type} {f : α → List Value} {good : α → Prop} {g : β → List Value} {good' : β → Prop} (h : Opn enc P W spare held t f good) (hs : FOpn enc P W spare held ts g good') :
    FOpn enc P W spare held (t :: ts) (fun x : α × β => f x.1 ++ g x.2) (fun x => good x.1 ∧ good' x.2) := by
  intro n cs hl hx
  simp only [List.map_cons, List.sum_cons] at hl
  obtain ⟨y, hy⟩ := hx 0 t rfl
  simp only [List.take_zero, List.map_nil, List.sum_nil, List.drop_zero] at hy
  obtain ⟨a, h1, h2⟩ := h n _ y hy
  obtain ⟨b, h3, h4⟩ := hs n (cs.drop (P.cellsOf t)) (by simp; omega) (fun i u hu => by
    obtain ⟨y, hy⟩ := hx (i + 1) u (by simpa using hu)
    refine ⟨y, ?_⟩
    rw [List.drop_drop]
    simpa using hy)
  exact ⟨(a, b), by show cs = f a ++ g b; rw [← h1, ← h3, List.take_append_drop], h2, h4⟩
def offs (P : Program) : List TypeId → Nat → List Nat
  | [], _ => []
  | t :: ts, o => o :: offs P ts (o + P.cellsOf t)
theorem Yek (P : Program) : ∀ (ts : List TypeId) (o i : Nat), i < ts.length → (offs P ts o)[i]? = some (o + ((ts.take i).map P.cellsOf).sum)
  | [], _, _, h => by simp at h
  | t :: ts, o, 0, _ => by simp [offs]
  | t :: ts, o, i + 1, h => by
    rw [offs, List.getElem?_cons_succ, Yek P ts _ i (by simpa using h)]
    simp [Nat.add_assoc]
def YgA (P : Program) (t : TypeId) (ts : List TypeId) : Bool :=
  match P.underlying t with
  | some (.struct fs) => (fs.toList.map (·.type) == ts) && (fs.toList.map (·.offset) == offs P ts 0) && (P.cellsOf t == (ts.map P.cellsOf).sum)
  | _ => false
theorem ZG {t : TypeId} {ts : List TypeId} {α : Type} {f : α → List Value} {good : α → Prop} (hB : YgA P t ts = true) (h : FOpn enc P W spare held ts f good) : Opn enc P W spare held t f good := by
  intro fuel cs y hy
  unfold YgA at hB
  cases hu : P.underlying t with
  | none => rw [hu] at hB; cases hB
  | some d =>
    rw [hu] at hB
    cases d with
    | struct fs =>
      simp only [Bool.and_eq_true, beq_iff_eq] at hB
      obtain ⟨⟨h1, h2⟩, h3⟩ := hB
      obtain ⟨xs, n, _, _, hl, hn, hx⟩ := DataW.trod_struct hu hy
      refine h n cs (hl.trans h3) fun i u hi => ?_
      have hlt : i < ts.length := (List.getElem?_eq_some_iff.1 hi).1
      have hlf : i < fs.toList.length := by rw [← h1] at hlt; simpa using hlt
      have hf : fs[i]? = some (fs.toList[i]) := by rw [← Array.getElem?_toList, List.getElem?_eq_getElem hlf]
      have ht : (fs.toList[i]).type = u := by
        rw [← h1, List.getElem?_map, List.getElem?_eq_getElem hlf] at hi
        simpa using hi
      have ho : (fs.toList[i]).offset = ((ts.take i).map P.cellsOf).sum := by
        have h5 := Yek P ts 0 i hlt
        rw [← h2, List.getElem?_map, List.getElem?_eq_getElem hlf] at h5
        simpa using h5
      have h6 := hx i _ hf
      rw [ht, ho] at h6
      have hlx : i < xs.length := by rw [hn]; simpa using hlf
      exact ⟨xs[i], by rw [h6, List.getElem?_eq_getElem hlx]⟩
    | _ => cases hB
end
end Go.Eng
namespace Go.Proofs.YtmalhidldgfeoaaGreatDoor
open Go.ChangeShapes Go.WideShapes Go.ChangeAt Go.RowKit Go.Eng Go.Nw
section
variable {H : Type} {enc : TypeId × Value → H} {W : World} {spare : Nat → Bool} {held : Bool}
abbrev I64 (z : Int) : Prop := (Lit.int .i64 z).wf = true
theorem op_i : Opn enc Tryz.prog W spare held 3 numF I64 := Yle Tryz.underlying3
theorem YcO : Opn enc Tryz.prog W spare held 24 (fun s : SlM Int => [s.val]) (SlG W numF I64) := ZR (q := 1) Tryz.underlying24 (by kernel_rfl) (by decide) op_i
theorem Ykb : Opn enc Tryz.prog W spare held 22 (fun s : SlM (SlM Int) => [s.val]) (SlG W (fun s : SlM Int => [s.val]) (SlG W numF I64)) := ZR (q := 1) Tryz.underlying22 (by kernel_rfl) (by decide) YcO
theorem Yj9 : Opn enc Tryz.prog W spare held 172 lkF (fun l => I64 l.1 ∧ I64 l.2.1 ∧ I64 l.2.2) :=
  Vt (ZG (ts := [3, 3, 3]) (by kernel_rfl) (Yz op_i (Yz op_i (Yz op_i Vh)))) (fun x => (x.1, x.2.1, x.2.2.1)) (fun _ => rfl) (fun _ h => ⟨h.1, h.2.1, h.2.2.1⟩)
theorem YiT : Opn enc Tryz.prog W spare held 23 (fun s : SlM Lk => [s.val]) (SlG W lkF fun l => I64 l.1 ∧ I64 l.2.1 ∧ I64 l.2.2) := ZR (q := 3) Tryz.underlying23 (by kernel_rfl) (by decide) Yj9
structure NetG (W : World) (n : NetM) : Prop where
  nodes : I64 n.nodes
  pw : Old W n.pA (n.rows.flatMap rowF)
  rw_ : ∀ r ∈ n.rows, Old W r.A (r.xs.flatMap numF)
  noise : I64 n.noise
  thr : I64 n.thr
  lk : Old W n.lA (n.links.flatMap lkF)
  mg : Old W n.mA (n.margin.flatMap numF)
  s1 : n.rows.length ≤ 9223372036854775807
  s2 : ∀ r ∈ n.rows, r.xs.length ≤ 9223372036854775807
  s3 : n.links.length ≤ 9223372036854775807
  s4 : n.margin.length ≤ 9223372036854775807
  w1 : ∀ r ∈ n.rows, ∀ z ∈ r.xs, I64 z
  w2 : ∀ l ∈ n.links, I64 l.1 ∧ I64 l.2.1 ∧ I64 l.2.2
  w3 : ∀ z ∈ n.margin, I64 z
  c3 : n.links.length ≤ n.lcap
  c4 : n.margin.length ≤ n.mcap
theorem NetG.In {n : NetM} {K : List HP} (h : NetG W n) : n.In W.heap.size W K := ⟨h.pw.rd, fun r hr => (h.rw_ r hr).rd, h.lk.rd, h.mg.rd, h.s1, h.s2, h.s3, h.s4⟩
def netF (n : NetM) : List Value := [.int .i64 n.nodes, .slice n.pA n.rows.length n.pcap, .int .i64 n.noise, .int .i64 n.thr, .slice n.lA n.links.length n.lcap, .slice n.mA n.margin.length n.mcap]
def Ygv (s : SlM Int) : RowM := ⟨s.A, s.cap, s.xs⟩
theorem Yfi (l : List (SlM Int)) : (l.map Ygv).flatMap rowF = l.flatMap fun s => [s.val] := by rw [List.flatMap_map]; rfl
theorem maxL : maxLen ≤ 9223372036854775807 := by decide
theorem Ylf : Opn enc Tryz.prog W spare held 26 netF (NetG W) :=
  Vt (ZG (ts := [3, 22, 3, 3, 23, 24]) (by kernel_rfl) (Yz op_i (Yz Ykb (Yz op_i (Yz op_i (Yz YiT (Yz YcO Vh)))))))
    (fun x => ⟨x.1, x.2.1.A, x.2.1.cap, x.2.1.xs.map Ygv, x.2.2.1, x.2.2.2.1, x.2.2.2.2.1.A, x.2.2.2.2.1.cap, x.2.2.2.2.1.xs, x.2.2.2.2.2.1.A, x.2.2.2.2.2.1.cap, x.2.2.2.2.2.1.xs⟩)
    (fun x => by simp [netF, numF, SlM.val])
    (fun x h => by
      obtain ⟨h1, h2, h3, h4, h5, h6, _⟩ := h
      have hm := maxL
      refine ⟨h1, ?_, ?_, h3, h4, h5.old, h6.old, ?_, ?_, Nat.le_trans h5.len hm, Nat.le_trans h6.len hm, ?_, h5.good, h6.good, h5.cap, h6.cap⟩
      · rw [Yfi]; exact h2.old
      · intro r hr
        obtain ⟨s, hs, rfl⟩ := List.mem_map.1 hr
        exact (h2.good s hs).old
      · rw [List.length_map]; exact Nat.le_trans h2.len hm
      · intro r hr
        obtain ⟨s, hs, rfl⟩ := List.mem_map.1 hr
        exact Nat.le_trans (h2.good s hs).len hm
      · intro r hr
        obtain ⟨s, hs, rfl⟩ := List.mem_map.1 hr
        exact (h2.good s hs).good)
set_option maxRecDepth 100000 in
theorem Ymd {r : Reach} {b0 : Nat} {v : Value} {d : DataW H} {p : List MemPlace} (hv : Value.okWide Tryz.prog W r b0 26 v) (h : DataW.Trod enc Tryz.prog W 0 spare held 26 v d p) : ∃ n : NetM, v = n.val ∧ NetG W n := by
  obtain ⟨cs, rfl, _⟩ := okWide_struct Tryz.underlying26 hv
  obtain ⟨fuel, hf⟩ := h
  obtain ⟨n, h1, h2⟩ := Ylf fuel _ _ hf
  refine ⟨n, ?_, h2⟩
  have : cs = (netF n).toArray := by rw [← h1]; simp [Value.cells]
  rw [this]; rfl
end
open Go.ChangeShapes Go.WideShapes Go.ChangeAt Go.RowKit
section
variable {H : Type} {enc : TypeId × Value → H} {P : Program}
theorem WH (hl : laidOutB P = true) {W W' : World} {sp : Nat → Bool} : ∀ {ts : List TypeId} {vs : List Value} {ds : List (DataW H)} {ps : List MemPlace}, (ts.all fun t => P.readableRec t && decide (t < P.types.size)) = true →
    DataW.TrodAll enc P W 0 (fun _ => true) true ts vs ds ps → (∀ p ∈ ps, W.sameAt W' p) → (∀ p ∈ ps, sp p.block = true) → DataW.TrodAll enc P W' 0 sp true ts vs ds ps
  | [], [], [], _, _, h, _, _ => h
  | [], [], _ :: _, _, _, h, _, _ => h.elim
  | [], _ :: _, _, _, _, h, _, _ => h.elim
  | _ :: _, [], _, _, _, h, _, _ => h.elim
  | _ :: _, _ :: _, [], _, _, h, _, _ => h.elim
  | t :: ts, v :: vs, d :: ds, ps, hr, h, hs, hp => by
    obtain ⟨p, q, h1, h2, rfl⟩ := h
    simp only [List.all_cons, Bool.and_eq_true, decide_eq_true_eq] at hr
    exact ⟨p, q, WideElems.Trod_stays hl hr.1.1 hr.1.2 h1 (fun x hx => hs x (by simp [hx])) (fun x hx => hp x (by simp [hx])), WH hl hr.2 h2 (fun x hx => hs x (by simp [hx])) (fun x hx => hp x (by simp [hx])), rfl⟩
theorem Ylz {f : Func} {s : ChangeSpec} {apart fresh handsOn again : Bool} {W W' : World} {args : Array Value} {ds gs : List (DataW H)} {before : List MemPlace} {tb : TypeId} (hl : laidOutB P = true)
    (hrd : (f.params.toList.all fun t => P.readableRec t && decide (t < P.types.size)) = true) (hv : s.vars = []) (hrt : f.resultTypes = #[tb]) (htb : P.underlying tb = some .bool)
    (hW : DataW.Whole enc P f.params.toList s.vars apart W args.toList ds gs before) (hb : Below W.heap.size W W')
    (hres : (s.fn H (ds ++ gs)).results = [.lit (.bool true)]) (hargs : (s.fn H (ds ++ gs)).args = ds) (hvars : (s.fn H (ds ++ gs)).vars = []) :
    s.post enc P f apart fresh handsOn again W args (.bool true) W' := by
  have hlt : ∀ p ∈ before, p.block < W.heap.size := fun p hp => hW.lt p hp
  have hW0 := hW
  obtain ⟨p, q, hA, hV, rfl, hz, hn⟩ := hW
  rw [hv] at hV
  have hq : gs = [] ∧ q = [] := by
    cases gs with
    | nil => exact ⟨rfl, hV⟩
    | cons _ _ => exact hV.elim
  obtain ⟨rfl, rfl⟩ := hq
  have hkeep : ∀ sp : Nat → Bool, (∀ x ∈ p ++ [], sp x.block = true) → DataW.TrodAll enc P W' 0 sp true f.params.toList args.toList ds p := fun sp hsp =>
    WH hl hrd hA (fun x hx => hb.same (hlt x (by simpa using hx))) (fun x hx => hsp x (by simpa using hx))
  have hR : ∀ (b : Nat) (sp : Nat → Bool) (hd : Bool), DataW.TrodAll enc P W' b sp hd f.resultTypes.toList ((Value.bool true).resultList f.resultTypes.size) (s.fn H (ds ++ [])).results [] := by
    intro b sp hd
    rw [hres, hrt]
    exact trodAll_mk1 (shut_bool htb true)
  have hok := ok_one (P := P) (W' := W') (f := f) (v := .bool true) hrt rfl (okWide_bool_mk htb true)
  have hold : ∀ x ∈ p ++ [], (fun b => decide (b < W.heap.size)) x.block = true := fun x hx => by simpa using hlt x hx
  refine ⟨ds, [], p ++ [], [], p, [], hW0, hR _ _ _, by rw [hargs]; exact hkeep _ hold, by rw [hvars, hv]; rfl, World.keptBut_mono (fun x hx => ⟨hx, Or.inr (by simpa using hx)⟩) (hb.frame (· ∈ p ++ [])), fun _ => ?_⟩
  refine ⟨hok, _, _, ([] ++ p) ++ [], ⟨[] ++ p, [], trodAll_append (hkeep _ (fun _ _ => rfl)) (hR _ _ _), (show DataW.TrodVars enc P W' (fun _ => true) s.vars [] [] by rw [hv]; rfl), rfl, ?_, ?_⟩, ?_⟩
  · intro b off hp
    have hin : MemPlace.cell b off ∈ p ++ [] := by simpa using hp
    rw [hb.frozen (hlt _ hin)]
    exact hz b off hin
  · intro ha
    simpa using hn ha
  · intro x hx _
    simpa using hx
end
open Go.ChangeShapes Go.WideShapes Go.ChangeAt Go.RowKit Go.Eng Go.Nw
open Go.ChangeMaps (open_string)
def flwF (f : Flw) : List Value := [.int .i64 f.1, .int .i64 f.2.1, .int .i64 f.2.2.1, .int .i64 f.2.2.2.1, .int .i64 f.2.2.2.2.1, .int .i64 f.2.2.2.2.2]
section
variable {H : Type} {enc : TypeId × Value → H} {W : World} {spare : Nat → Bool} {held : Bool}
abbrev CelG (c : Cel) : Prop := I64 c.1 ∧ I64 c.2.1 ∧ I64 c.2.2.1 ∧ I64 c.2.2.2.1 ∧ I64 c.2.2.2.2
abbrev FlwG (f : Flw) : Prop := I64 f.1 ∧ I64 f.2.1 ∧ I64 f.2.2.1 ∧ I64 f.2.2.2.1 ∧ I64 f.2.2.2.2.1 ∧ I64 f.2.2.2.2.2
theorem Yj7 : Opn enc Tryz.prog W spare held 40 celF CelG :=
  Vt (ZG (ts := [3, 3, 3, 3, 3]) (by kernel_rfl) (Yz op_i (Yz op_i (Yz op_i (Yz op_i (Yz op_i Vh)))))) (fun x => (x.1, x.2.1, x.2.2.1, x.2.2.2.1, x.2.2.2.2.1)) (fun _ => rfl) (fun _ h => ⟨h.1, h.2.1, h.2.2.1, h.2.2.2.1, h.2.2.2.2.1⟩)
theorem YiS : Opn enc Tryz.prog W spare held 28 (fun s : SlM Cel => [s.val]) (SlG W celF CelG) := ZR (q := 5) Tryz.underlying28 (by kernel_rfl) (by decide) Yj7
theorem Yj8 : Opn enc Tryz.prog W spare held 68 flwF FlwG :=
  Vt (ZG (ts := [3, 3, 3, 3, 3, 3]) (by kernel_rfl) (Yz op_i (Yz op_i (Yz op_i (Yz op_i (Yz op_i (Yz op_i Vh))))))) (fun x => (x.1, x.2.1, x.2.2.1, x.2.2.2.1, x.2.2.2.2.1, x.2.2.2.2.2.1)) (fun _ => rfl) (fun _ h => ⟨h.1, h.2.1, h.2.2.1, h.2.2.2.1, h.2.2.2.2.1, h.2.2.2.2.2.1⟩)
structure SchG (W : World) (s : SchM) : Prop where
  len : I64 s.len
  off : I64 s.off
  old : Old W s.A (s.cells.flatMap celF)
  few : s.cells.length ≤ 9223372036854775807
  good : ∀ c ∈ s.cells, CelG c
  cap : s.cells.length ≤ s.cap
def schF (s : SchM) : List Value := [.int .i64 s.len, .int .i64 s.off, .slice s.A s.cells.length s.cap]
theorem Ylg : Opn enc Tryz.prog W spare held 30 schF (SchG W) :=
  Vt (ZG (ts := [3, 3, 28]) (by kernel_rfl) (Yz op_i (Yz op_i (Yz YiS Vh))))
    (fun x => ⟨x.1, x.2.1, x.2.2.1.A, x.2.2.1.cap, x.2.2.1.xs⟩) (fun x => by simp [schF, numF, SlM.val])
    (fun x h => by
      obtain ⟨h1, h2, h3, _⟩ := h
      exact ⟨h1, h2, h3.old, Nat.le_trans h3.len maxL, h3.good, h3.cap⟩)
set_option maxRecDepth 100000 in
theorem Yme {r : Reach} {b0 : Nat} {v : Value} {d : DataW H} {p : List MemPlace} (hv : Value.okWide Tryz.prog W r b0 30 v) (h : DataW.Trod enc Tryz.prog W 0 spare held 30 v d p) : ∃ s : SchM, v = s.val ∧ SchG W s := by
  obtain ⟨cs, rfl, _⟩ := okWide_struct Tryz.underlying30 hv
  obtain ⟨fuel, hf⟩ := h
  obtain ⟨n, h1, h2⟩ := Ylg fuel _ _ hf
  refine ⟨n, ?_, h2⟩
  have : cs = (schF n).toArray := by rw [← h1]; simp [Value.cells]
  rw [this]; rfl
end
open Go.RowKit Go.Eng Go.Nw
def flwV (f : Flw) : Value := .agg #[.int .i64 f.1, .int .i64 f.2.1, .int .i64 f.2.2.1, .int .i64 f.2.2.2.1, .int .i64 f.2.2.2.2.1, .int .i64 f.2.2.2.2.2]
theorem Q4 {l : List Flw} {i : Nat} (h : i < l.length) : l[i]? = some (XA l i) := by
  unfold XA; rw [List.getD_eq_getElem?_getD, List.getElem?_eq_getElem h]; rfl
theorem Yfj (v nodes : Int) (gn : Nat) {B : Nat} {w0 : World} {H : List HP} {w : World} (hm : blk gn (.cells #[.int .i64 nodes] 3 (0, 0)) ∈ H) (hw : St B w0 H w) :
    Calls Tryz.prog 167 [.int .i64 v, .pointer (some ⟨gn, 0, none⟩)].toArray w (Post B w0 fun u K => u = .bool (insE v nodes) ∧ K = H) := by
  refine Yc Tryz.func167 Tryz.ntmps167 rfl rfl hw ?_
  repeat' (first | refine zgc ?_ | (refine zgf ?_ ?_ <;> intro _ <;> try (exfalso; omega)) | fail)
  all_goals (
    apply Yd; exact rfl; exact rfl
    first
      | exact ⟨by rw [show insE v nodes = true from decide_eq_true (by omega)], rfl⟩
      | exact ⟨by rw [show insE v nodes = false from decide_eq_false (by omega)], rfl⟩)
set_option maxRecDepth 10000 in
set_option maxHeartbeats 1000000 in
theorem V6 (nodes : Int) (f : Flw) {B : Nat} {w0 : World} {H : List HP} {w : World} (hw : St B w0 H w) :
    Calls Tryz.prog 110 [.int .i64 nodes, flwV f].toArray w (Post B w0 fun v K => v = .int .i64 (YW nodes f) ∧ K = H) := by
  refine Yc Tryz.func110 Tryz.ntmps110 rfl rfl hw ?_
  obtain ⟨e, he⟩ : ∃ e, YW nodes f = e := ⟨_, rfl⟩
  rw [he]
  by_cases hA : f.1 < 0 ∨ 255 < f.1
  · repeat' (first | (apply zg23; first | (refine zs52 ?_; intro _) | (refine zs53 ?_; intro _)) | (apply zg29; (apply Yq; exact za ; exact rfl)) | refine zgc ?_ | (refine zge ?_ ?_ <;> intro _ <;> try (exfalso; omega)) | fail)
    all_goals (
      apply Yi H
      · exact zk
      apply Yd; exact rfl; exact rfl
      refine ⟨?_, rfl⟩
      rw [← he]
      unfold YW
      first
        | (rw [if_pos (by first | exact .inl (by omega) | exact .inr (.inl (by omega)) | exact .inr (.inr (.inl (by assumption))) | exact .inr (.inr (.inr (by assumption))))]; done)
        | (rw [if_neg (by rintro (h | h | h | h) <;> first | omega | simp_all)]
           first
             | (rw [if_pos (by omega)]; done)
             | (rw [if_neg (by omega), if_pos (by omega)]; done)
             | (rw [if_neg (by omega), if_neg (by omega)]; done)))
  · repeat' (first | (apply zg23; first | (refine zs52 ?_; intro _) | (refine zs53 ?_; intro _)) | (apply zg29; (apply Yq; exact za ; exact rfl)) | refine zgc ?_ | (refine zge ?_ ?_ <;> intro _ <;> try (exfalso; omega)) | fail)
    rename_i gn gf _ _
    repeat' (first | ((first | apply Zz (cs := [.pointer (some ⟨gn, 0, none⟩)]) | apply Zy (cs := [.pointer (some ⟨gn, 0, none⟩)])); exact rfl; exact YlT; exact za; exact rfl; exact fun _ hw => (Yfj _ nodes gn zm hw); all_goals (intro hB; (try simp only [decide_eq_true_eq, decide_eq_false_iff_not] at hB); try (exfalso; omega))) | refine zgd ?_ | (refine zgf ?_ ?_ <;> intro _ <;> try (exfalso; omega)) | fail)
    all_goals (
      apply Yi H
      · exact zk
      apply Yd; exact rfl; exact rfl
      refine ⟨?_, rfl⟩
      rw [← he]
      unfold YW
      first
        | (rw [if_pos (by first | exact .inl (by omega) | exact .inr (.inl (by omega)) | exact .inr (.inr (.inl (by assumption))) | exact .inr (.inr (.inr (by assumption))))]; done)
        | (rw [if_neg (by rintro (h | h | h | h) <;> first | omega | simp_all)]
           first
             | (rw [if_pos (by omega)]; done)
             | (rw [if_neg (by omega), if_pos (by omega)]; done)
             | (rw [if_neg (by omega), if_neg (by omega)]; done)))
set_option maxRecDepth 10000 in
set_option maxHeartbeats 1000000 in
theorem YT (nodes : Int) (l : List Flw) (hl : l.length ≤ 9223372036854775807) {A : Option Addr} {cap B : Nat} {w0 : World} {H : List HP} {w : World} (hr : Rd B w0 H A (l.flatMap flwF)) (hw : St B w0 H w) :
    Calls Tryz.prog 51 [.int .i64 nodes, .slice A l.length cap].toArray w (Post B w0 fun v K => v = .tuple #[.int .i64 (YO nodes l).1, .int .i64 (YO nodes l).2] ∧ K = H) := by
  refine Yc Tryz.func51 Tryz.ntmps51 rfl rfl hw ?_
  by_cases hn : nodes < 2 ∨ 32 < nodes
  · have hE : YO nodes l = (-1, 2) := by unfold YO; exact if_pos hn
    rw [hE]
    repeat' (first | refine zgc ?_ | (refine zge ?_ ?_ <;> intro _ <;> try (exfalso; omega)) | fail)
    all_goals (apply Yr; exact rfl; exact rfl; exact rfl; exact ⟨rfl, rfl⟩)
  by_cases h16 : 16 < l.length
  · have hE : YO nodes l = (-1, 8) := by unfold YO; exact (if_neg hn).trans (if_pos h16)
    rw [hE]
    repeat' (first | refine zgc ?_ | (refine zge ?_ ?_ <;> intro _ <;> try (exfalso; omega)) | fail)
    apply Yr; exact rfl; exact rfl; exact rfl; exact ⟨rfl, rfl⟩
  have hE : YO nodes l = YF (Y3 nodes l) l.length 0 := by unfold YO; exact (if_neg hn).trans (if_neg h16)
  rw [hE]
  repeat' (first | refine zgc ?_ | (refine zge ?_ ?_ <;> intro _ <;> try (exfalso; omega)) | fail)
  refine Yl (fun (i : Nat) => [(20, .int .i64 i), (19, .int .i64 l.length), (18, .slice A l.length cap), (0, .int .i64 nodes), (1, .slice A l.length cap)]) (fun _ => H) (fun i => i ≤ l.length ∧ ∀ k, k < i → Y3 nodes l k = 0) (fun i => l.length - i) 0 ⟨Nat.zero_le _, fun k hk => absurd hk (Nat.not_lt_zero _)⟩ ?_ (fun w hw => hw) ?_
  · exact zu
  rintro i ⟨hi, hall⟩ K hK
  by_cases hlt : i < l.length
  · have hget : l[i]? = some (XA l i) := Q4 hlt
    have hbad : Y3 nodes l i ≠ 0 → YF (Y3 nodes l) l.length 0 = ((i : Int), Y3 nodes l i) := fun h => Xu (fun k _ hk => hall k hk) (Nat.zero_le _) (by omega) h
    have hstep : Y3 nodes l i = 0 → ∀ k, k < i + 1 → Y3 nodes l k = 0 := fun h k hk => by
      by_cases e : k = i
      · rw [e]; exact h
      · exact hall k (by omega)
    by_cases he : YW nodes (XA l i) ≠ 0
    · have hf : Y3 nodes l i = YW nodes (XA l i) := by unfold Y3; exact if_pos he
      rw [hbad (by rw [hf]; exact he), hf]
      repeat' (first | ((first | apply Ya UK | apply Yb UK); exact za; exact rfl; exact fun _ hw => (V6 nodes (XA l i) hw)) | refine zgd ?_ | (refine zge ?_ ?_ <;> intro _ <;> try (exfalso; omega)) | (refine zgh ?_; intro _) | fail)
      apply Yi H
      · exact zk
      apply Yr; exact rfl; exact rfl; exact rfl; exact ⟨rfl, rfl⟩
    have he0 := Decidable.not_not.1 he
    have hck := fun {H' : List HP} {w : World} (hw : St B w0 H' w) => V6 nodes (XA l i) hw
    rw [he0] at hck
    rcases Nat.eq_zero_or_pos i with h0 | h0
    · subst h0
      have hf : Y3 nodes l 0 = 0 := by unfold Y3; rw [if_neg he, if_neg (by omega)]
      repeat' (first | ((first | apply Ya UK | apply Yb UK); exact za; exact rfl; exact fun _ hw => (hck hw)) | refine zgd ?_ | (refine zge ?_ ?_ <;> intro _ <;> try (exfalso; omega)) | (refine zgh ?_; intro _) | fail)
      apply hK (0 + 1)
      · exact ⟨by omega, hstep hf⟩
      · omega
      · exact zu
      · exact zk
    have hget2 : l[((i : Int) - 1).toNat]? = some (XA l (i - 1)) := by
      rw [show ((i : Int) - 1).toNat = i - 1 by omega]
      exact Q4 (by omega)
    by_cases hle : (XA l i).1 ≤ (XA l (i - 1)).1
    · have hf : Y3 nodes l i = 5 := by unfold Y3; rw [if_neg he, if_pos ⟨h0, hle⟩]
      rw [hbad (by rw [hf]; decide), hf]
      repeat' (first | ((first | apply Ya UK | apply Yb UK); exact za; exact rfl; exact fun _ hw => (hck hw)) | refine zgd ?_ | (refine zgf ?_ ?_ <;> intro _ <;> try (exfalso; omega)) | (refine zgh ?_; intro _) | fail)
      apply Yi H
      · exact zk
      apply Yr; exact rfl; exact rfl; exact rfl; exact ⟨rfl, rfl⟩
    · have hf : Y3 nodes l i = 0 := by unfold Y3; rw [if_neg he, if_neg (fun h => hle h.2)]
      repeat' (first | ((first | apply Ya UK | apply Yb UK); exact za; exact rfl; exact fun _ hw => (hck hw)) | refine zgd ?_ | (refine zgf ?_ ?_ <;> intro _ <;> try (exfalso; omega)) | (refine zgh ?_; intro _) | fail)
      apply hK (i + 1)
      · exact ⟨by omega, hstep hf⟩
      · omega
      · exact zu
      · exact zk
  · repeat' (first | refine zgc ?_ | (refine zge ?_ ?_ <;> intro _ <;> try (exfalso; omega)) | fail)
    rw [show i = l.length by omega] at hall
    rw [X7 fun k _ hk => hall k (by omega)]
    apply Yr; exact rfl; exact rfl; exact rfl; exact ⟨rfl, rfl⟩
theorem Yad (p : Flw → Bool) (l : List Flw) (f : Nat) (cs : List Value) (hen : ∀ xs w, (callFunc f xs).run Tryz.prog w = .ok (.enter f xs) w) (hlen : l.length ≤ 1000) {A : Option Addr} {cap B : Nat} {w0 : World} {H : List HP} {w : World} (hr : Rd B w0 H A (l.flatMap flwF))
    (hp : ∀ a ∈ l, ∀ w, St B w0 H w → Calls Tryz.prog f ([flwV a] ++ cs).toArray w (Post B w0 fun v K => v = .bool (p a) ∧ K = H)) (hw : St B w0 H w) :
    Calls Tryz.prog 111 [.slice A l.length cap, .func (.func f) #[] cs.toArray].toArray w (Post B w0 fun v K => v = .int .i64 (Yn p l 0) ∧ K = H) := by
  refine Yc Tryz.func111 Tryz.ntmps111 rfl rfl hw ?_
  repeat' (first | refine zgb ?_ | fail)
  refine Yl (fun (k : Nat) => [(8, .int .i64 k), (7, .int .i64 l.length), (0, .slice A l.length cap), (1, .func (.func f) #[] cs.toArray)]) (fun _ => H) (fun k => k ≤ l.length ∧ Yn p l 0 = Yn p (l.drop k) k) (fun k => l.length - k) 0 ⟨Nat.zero_le _, by simp⟩ ?_ (fun w hw => hw) ?_
  · exact zu
  rintro k ⟨hk, hi⟩ K hK
  by_cases hlt : k < l.length
  · obtain ⟨a, ha⟩ : ∃ a, l[k]? = some a := ⟨_, List.getElem?_eq_getElem hlt⟩
    have hpa := hp a (List.mem_of_getElem? ha)
    rw [Jo p l ha] at hi
    repeat' (first | ((first | apply YC (cs := cs)); exact rfl; exact hen; exact za; exact rfl; exact fun _ hw => hpa _ hw) | refine zgd ?_ | (refine zge ?_ ?_ <;> intro _ <;> try (exfalso; omega)) | fail)
    cases hpv : p a
    · rw [hpv] at hi
      repeat' (first | refine zgc ?_ | fail)
      apply hK (k + 1)
      · exact ⟨by omega, hi⟩
      · omega
      · exact zu
      · exact fun w hw => hw
    · rw [hpv] at hi
      repeat' (first | refine zgc ?_ | fail)
      apply Yd; exact rfl; exact rfl
      exact ⟨by rw [hi]; rfl, rfl⟩
  · repeat' (first | refine zgc ?_ | (refine zge ?_ ?_ <;> intro _ <;> try (exfalso; omega)) | fail)
    apply Yd; exact rfl; exact rfl
    rw [hi, List.drop_eq_nil_of_le (by omega)]
    exact ⟨rfl, rfl⟩
theorem Yfh (f : Flw) (id : Int) (gi : Nat) {B : Nat} {w0 : World} {H : List HP} {w : World} (hm : blk gi (.cells #[.int .i64 id] 3 (0, 0)) ∈ H) (hw : St B w0 H w) :
    Calls Tryz.prog 170 [flwV f, .pointer (some ⟨gi, 0, none⟩)].toArray w (Post B w0 fun v K => v = .bool (decide (f.1 = id)) ∧ K = H) := by
  refine Yc Tryz.func170 Tryz.ntmps170 rfl rfl hw ?_
  by_cases h : f.1 = id
  · rw [decide_eq_true h]
    repeat' (first | refine zga ?_ | (refine zgf ?_ ?_ <;> intro _ <;> try (exfalso; omega)) | (refine zgh ?_; intro _) | fail)
    all_goals (apply Yp; apply Yd; exact rfl; exact rfl; exact ⟨rfl, rfl⟩)
  · rw [decide_eq_false h]
    repeat' (first | refine zga ?_ | (refine zgf ?_ ?_ <;> intro _ <;> try (exfalso; omega)) | (refine zgh ?_; intro _) | fail)
    all_goals (apply Yp; apply Yd; exact rfl; exact rfl; exact ⟨rfl, rfl⟩)
theorem QX (l : List Flw) (id : Int) (hlen : l.length ≤ 1000) {A : Option Addr} {cap B : Nat} {w0 : World} {H : List HP} {w : World} (hr : Rd B w0 H A (l.flatMap flwF)) (hw : St B w0 H w) :
    Calls Tryz.prog 114 [.slice A l.length cap, .int .i64 id].toArray w (Post B w0 fun v K => v = .int .i64 (Z2 l id) ∧ K = H) := by
  refine Yc Tryz.func114 Tryz.ntmps114 rfl rfl hw ?_
  repeat' (first | (apply zg29; (apply Yq; exact za ; exact rfl)) | refine zga ?_ | (refine zgh ?_; intro _) | fail)
  rename_i gi
  first | apply Ya Yf8 | apply Yb Yf8
  exact za
  exact rfl
  exact fun _ hw => (Yad (fun f => decide (f.1 = id)) l 170 [.pointer (some ⟨gi, 0, none⟩)] YlU hlen hr.cons (fun f _ w hw => Yfh f id gi zm hw) hw)
  repeat' (first | refine zga ?_ | fail)
  apply Yi H
  · exact zk
  apply Yd; exact rfl; exact rfl
  exact ⟨rfl, rfl⟩
theorem YcS (s : SchM) (f : Flw) (gs : Nat) (hs : 1 ≤ s.len ∧ s.len ≤ 512) (hf : 1 ≤ f.2.2.2.1 ∧ f.2.2.2.1 ≤ 512) {B : Nat} {w0 : World} {H : List HP} {w : World} (hm : blk gs (.cells #[.int .i64 s.len, .int .i64 s.off, .slice s.A s.cells.length s.cap] 30 (0, 0)) ∈ H) (hw : St B w0 H w) :
    Calls Tryz.prog 54 [flwV f, .pointer (some ⟨gs, 0, none⟩)].toArray w (Post B w0 fun v K => v = .bool (decide (s.len.tmod f.2.2.2.1 ≠ 0)) ∧ K = H) := by
  refine Yc Tryz.func54 Tryz.ntmps54 rfl rfl hw ?_
  by_cases h : s.len.tmod f.2.2.2.1 ≠ 0
  · rw [decide_eq_true h]
    rw [Int.tmod_eq_emod_of_nonneg (by omega)] at h
    repeat' (first | refine zgd ?_ | (refine zge ?_ ?_ <;> intro _ <;> try (exfalso; omega)) | (refine zgh ?_; intro _) | fail)
    all_goals (apply Yp; apply Yd; exact rfl; exact rfl; exact ⟨rfl, rfl⟩)
  · rw [decide_eq_false h]
    rw [Int.tmod_eq_emod_of_nonneg (by omega)] at h
    repeat' (first | refine zgd ?_ | (refine zge ?_ ?_ <;> intro _ <;> try (exfalso; omega)) | (refine zgh ?_; intro _) | fail)
    all_goals (apply Yp; apply Yd; exact rfl; exact rfl; exact ⟨rfl, rfl⟩)
theorem Q9 {α : Type} (p : α → Bool) (l : List α) : decide (0 ≤ Yn p l 0) = l.any p := by
  have h := Vk p l 0 (by omega)
  by_cases h0 : 0 ≤ Yn p l 0
  · rw [decide_eq_true h0, h.1 h0]
  · rw [decide_eq_false h0]
    cases h1 : l.any p with
    | false => rfl
    | true => exact absurd (h.2 h1) h0
theorem QM (p : Flw → Bool) (l : List Flw) (f : Nat) (cs : List Value) (hen : ∀ xs w, (callFunc f xs).run Tryz.prog w = .ok (.enter f xs) w) (hlen : l.length ≤ 1000) {A : Option Addr} {cap B : Nat} {w0 : World} {H : List HP} {w : World} (hr : Rd B w0 H A (l.flatMap flwF))
    (hp : ∀ a ∈ l, ∀ w, St B w0 H w → Calls Tryz.prog f ([flwV a] ++ cs).toArray w (Post B w0 fun v K => v = .bool (p a) ∧ K = H)) (hw : St B w0 H w) :
    Calls Tryz.prog 53 [.slice A l.length cap, .func (.func f) #[] cs.toArray].toArray w (Post B w0 fun v K => v = .bool (l.any p) ∧ K = H) := by
  refine Yc Tryz.func53 Tryz.ntmps53 rfl rfl hw ?_
  rw [← Q9]
  repeat' (first | refine zga ?_ | fail)
  first | apply Ya Yf8 | apply Yb Yf8
  exact za
  exact rfl
  exact fun _ hw => (Yad p l f cs hen hlen hr hp hw)
  by_cases h0 : 0 ≤ Yn p l 0
  · rw [decide_eq_true h0]
    repeat' (first | refine zga ?_ | (refine zgf ?_ ?_ <;> intro _ <;> try (exfalso; omega)) | fail)
    apply Yd; exact rfl; exact rfl
    exact ⟨rfl, rfl⟩
  · rw [decide_eq_false h0]
    repeat' (first | refine zga ?_ | (refine zgf ?_ ?_ <;> intro _ <;> try (exfalso; omega)) | fail)
    apply Yd; exact rfl; exact rfl
    exact ⟨rfl, rfl⟩
end Go.Proofs.YtmalhidldgfeoaaGreatDoor
namespace Go.Eng
open Go.RowKit
section
variable {P : Program} {B : Nat} {w0 : World} {Q : Exit → Act → World → Prop} {env : Env} {H : List HP} {k : Nat}
def YQr (P : Program) (r : Nat) (ops : Array Oper) (Q : Exit → Act → World → Prop) (l : List Oper) : Exit → Act → World → Prop
  | .normal, a, w => wpListIn (Fence.wide.inRound r) 0 P ops Q l a w
  | e, a, w => Q e a w
theorem W0 {r : Nat} {ops : Array Oper} {l : List Oper} (hlo : ¬ LetsOut Q) : ∀ (os : List Oper) (a : Act) (w : World), os.all ZK = true → wpList P ops (YQr P r ops Q l) os a w → wpListIn (Fence.wide.inRound r) 0 P ops Q (os ++ l) a w
  | [], _, _, _, h => h
  | o :: os, a, w, hc, h => by
    simp only [List.all_cons, Bool.and_eq_true] at hc
    unfold wpList at h
    rw [List.cons_append]
    unfold wpListIn
    split
    · rename_i hw
      rw [if_pos hw] at h
      rcases h with h | ⟨_, h⟩
      · have h2 := Oper.wp_mono (fun a w h => W0 hlo os a w hc.2 h) h
        have hs : Oper.semAt (some r) a.eval o = execOp a.eval o := Oper.semAt_some r _ o fun c e => by
          have hp := hc.1
          unfold ZK at hp
          rw [e] at hp
          cases hp
        refine ⟨fun f _ => trivial, ?_⟩
        rw [Fence.inRound_round, hs]
        unfold Oper.wp at h2
        generalize (execOp a.eval o).run P w = res at h2 ⊢
        cases res with
        | ok x w' =>
          cases x <;> simp only [Oper.upon, Oper.uponIn] at h2 ⊢ <;> first
            | exact h2
            | (refine ⟨fun hd => by simp [Fence.wide] at hd, ?_⟩
               refine CallsIn.mono (CallsIn.inRound r (callsIn_wide.2 h2)) fun e w'' he => ?_
               cases e <;> exact he)
            | exact ⟨fun hd => by simp [Fence.wide] at hd, OM h2⟩
            | exact h2.elim
        | halt x w' => cases x <;> simp only [Oper.upon, Oper.uponIn] at h2 ⊢ <;> first | exact h2 | exact h2.elim
      · exact (hlo h).elim
    · rename_i hw
      rw [if_neg hw] at h
      exact ⟨fun f _ => trivial, W0 hlo os _ w hc.2 h⟩
theorem Yda {n r : Nat} {ds : List Deferred} {id : Nat} {l : List Oper} (k : Nat) {l1 l2 : List Oper} (h1 : l.take k = l1) (h2 : l.drop k = l2) (h : VL P none ⟨n, ds, some r⟩ B w0 l.toArray (YQr P r l.toArray Q l2) l1 env H) :
    VC P ⟨n, ds, some r⟩ B w0 (.region id l.toArray false) Q env H := by
  refine ⟨fun a w ha hw => ?_⟩
  intro hlo hc
  refine wpIn_region_lit ?_
  have hc2 : l.all ZK = true := by simpa [calm] using hc
  have := W0 hlo _ _ _ (by rw [← h1]; exact List.all_eq_true.2 fun x hx => List.all_eq_true.1 hc2 x (List.mem_of_mem_take hx)) (h.run a ha w hw)
  rw [← h1, ← h2, List.take_append_drop] at this
  exact this
theorem YgM {n r : Nat} {ds : List Deferred} {ops : Array Oper} {d l : Nat} {x : Operand} {args : List Operand} {tys : Array TypeId} {ty : TypeId} {pos : String} {after : Array Edge} {gd : Option (Nat × Bool)} {vs : List Value} {rest : List Oper} (Φt Φf : List HP → Prop)
    (hgd : ∀ a : Act, Fits ⟨n, ds, none⟩ a env → Region.wanted ⟨some d, .call ⟨.value x, args.toArray, tys⟩, ty, pos, after, gd⟩ (yielded ops a.tmps) = true)
    (hx : evo env x = some (.func (.yield l) #[] #[])) (hargs : Args env args vs) (hn : Nat.ble (d + 1) n = true) (hlo : ¬ LetsOut Q) (hpl : rest.all ZK = true) (hy : Qz P l vs B w0 H Φt Φf)
    (ht : ∀ K, Φt K → VL P none ⟨n, ds, some r⟩ B w0 ops Q rest ((d, .bool true) :: env) K)
    (hf : ∀ K, Φf K → VL P none ⟨n, ds, some r⟩ B w0 ops Q rest ((d, .bool false) :: env) K) :
    VQ ⟨n, ds, some r⟩ B w0 (YQr P r ops Q (⟨some d, .call ⟨.value x, args.toArray, tys⟩, ty, pos, after, gd⟩ :: rest)) .normal env H := by
  refine ⟨fun a w ha hw => ?_⟩
  show wpListIn (Fence.wide.inRound r) 0 P ops Q _ a w
  unfold wpListIn
  rw [if_pos (hgd a ⟨ha.defers, ha.size, ha.slot⟩)]
  refine ⟨fun f _ => trivial, ?_⟩
  obtain ⟨fn, tmps, assign, body, hrun, hround⟩ := hy w hw
  have hmap : args.toArray.map a.eval = vs.toArray := by rw [List.map_toArray, Vq ha _ _ hargs]
  have hs : Oper.semAt (some r) a.eval ⟨some d, .call ⟨.value x, args.toArray, tys⟩, ty, pos, after, gd⟩ = execOp a.eval ⟨some d, .call ⟨.value x, args.toArray, tys⟩, ty, pos, after, gd⟩ := Oper.semAt_some r _ _ fun c e => by cases e
  rw [Fence.inRound_round, hs]
  have hex : (execOp a.eval ⟨some d, .call ⟨.value x, args.toArray, tys⟩, ty, pos, after, gd⟩).run P w = .ok (.round l fn tmps assign body) w := by
    simp only [execOp, resolve, ha.eval hx, hmap, Deferred.ofValue, Sem.run_bind, Sem.run_pure, Result.andThen_ok, invoke]
    simpa using hrun
  rw [hex, Oper.uponIn_round]
  refine ⟨fun hd => by simp [Fence.wide] at hd, ?_⟩
  have hround2 : RoundIn (Fence.wide.inRound r) 0 P l fn tmps assign body w _ := hround
  refine RoundIn.mono hround2 ?_
  rintro e w' (⟨rfl, K', hΦ, hst⟩ | ⟨rfl, K', hΦ, hst⟩)
  · exact J2 hlo _ _ _ hpl ((ht K' hΦ).run _ (ha.put (Nat.le_of_ble_eq_true hn) _) _ hst)
  · exact J2 hlo _ _ _ hpl ((hf K' hΦ).run _ (ha.put (Nat.le_of_ble_eq_true hn) _) _ hst)
end
theorem St.inM {B : Nat} {w0 w : World} {H K : List HP} (hw : St B w0 K w) (hm : Eng.many H ∈ K) : St B w0 H w := by
  obtain ⟨S, h1, h2⟩ := hw.at_ hm
  exact ⟨hw.below, hw.le, J5 h2 h1⟩
theorem Rd.inM {B : Nat} {w0 : World} {H K : List HP} {A : Option Addr} {xs : List Value} (h : Rd B w0 H A xs) (hm : Eng.many H ∈ K) : Rd B w0 K A xs := h.mono fun _ hw => hw.inM hm
theorem Rd.many {B : Nat} {w0 : World} {H L : List HP} {A : Option Addr} {xs : List Value} {e size k cap : Nat} (hX : many L ∈ H) (hm : Eng.sl e size A k cap xs ∈ L) : Rd B w0 H A xs := fun w hw j v hv => by
  obtain ⟨S, _, h2⟩ := hw.at_ hX
  obtain ⟨S', _, h3, _⟩ := Ygy hm h2
  obtain ⟨g, e1, hc, _⟩ := Qm h3 hv
  exact ⟨g, 0, e1, by rw [Nat.zero_add]; exact hc⟩
open Go.RowKit
def subL (i k : Nat) (l : List Value) : List Value := (l.drop i).take k
section
variable {P : Program} {B : Nat} {w0 : World} {Q : Exit → Act → World → Prop} {env : Env} {H : List HP} {m : Mode} {n : Shp} {ops : Array Oper} {rest : List Oper} {d : Nat} {ty : TypeId} {pos : String} {after : Array Edge}
theorem YV (T : Tab P) {t g i k : Nat} {cs : Array Value} {vs : List Value} {tt : TypeId} {fr : Nat × Nat} {x : Operand} (hx : evo env x = some (.pointer (some ⟨g, i, none⟩))) (hm : blk g (.cells cs tt fr) ∈ H)
    (ht : look T.ag t = some k) (hv : subL i k cs.toList = vs) (hk : Nat.beq vs.length k = true) (hn : Nat.ble (d + 1) n.k = true) (h : VL P m n B w0 ops Q rest ((d, .agg vs.toArray) :: env) H) :
    VL P m n B w0 ops Q (⟨some d, .load t x, ty, pos, after, none⟩ :: rest) env H := by
  refine Ydi T hx hm ht (Nat.eq_of_beq_eq_true hk) (fun j v hj => ?_) hn h
  rw [← hv, subL, List.getElem?_take] at hj
  split at hj
  · rw [List.getElem?_drop] at hj
    simpa using hj
  · cases hj
end
def YdF (l : List Oper) (k s : Nat) : Bool := match l[k]? with
  | some o => match o.op with
    | .call c => match c.callee with
      | .value (.tmp t) => Nat.beq t s
      | _ => false
    | _ => false
  | none => false
section
variable {P : Program} {B : Nat} {w0 : World} {Q : Exit → Act → World → Prop} {env : Env} {H : List HP}
theorem Ydb {n : Nat} {ds : List Deferred} {id : Nat} {l : List Oper} (k s : Nat) {l1 l2 : List Oper} (_ho : YdF l k s = true) (h1 : l.take k = l1) (h2 : l.drop k = l2) (hlo : ¬ LetsOut Q) (h : VL P none ⟨n, ds, none⟩ B w0 l.toArray (YQ P l.toArray Q l2) l1 env H) :
    VC P ⟨n, ds, none⟩ B w0 (.region id l.toArray false) Q env H := Qp k h1 h2 hlo h
theorem Ycf {n r : Nat} {ds : List Deferred} {id : Nat} {l : List Oper} (k s : Nat) {l1 l2 : List Oper} (_ho : YdF l k s = true) (h1 : l.take k = l1) (h2 : l.drop k = l2) (h : VL P none ⟨n, ds, some r⟩ B w0 l.toArray (YQr P r l.toArray Q l2) l1 env H) :
    VC P ⟨n, ds, some r⟩ B w0 (.region id l.toArray false) Q env H := Yda k h1 h2 h
end
section
variable {P : Program} {B : Nat} {w0 : World} {env : Env} {H : List HP}
theorem YgC {n gf : Nat} {fn : Func} {c : Code} {lb : List Value} {xs : List (List Value)} {HI : List HP} (hf : P.funcs[gf]? = some fn) (hn : fn.ntmps = n) (hb : fn.body = some c) (hle : Nat.ble (lb.length + 1) n = true)
    (h : ∀ (l : Nat) (S : Nat → List HP → Prop) (X : List HP → Prop),
      (∀ (i : Nat) (args : List Value), xs[i]? = some args → ∀ (Y L : List HP), S i L →
        Qz P l args B w0 (Y ++ many L :: HI) (fun K => ∃ L', S (i + 1) L' ∧ K = Y ++ many L' :: HI) (fun K => ∃ L', X L' ∧ K = Y ++ many L' :: HI)) →
      ∀ L0, S 0 L0 → VC P ⟨n, [], none⟩ B w0 c (bodyPostM Fence.wide 0 P fn (Post B w0 fun _ K => (∃ L, S xs.length L ∧ K = many L :: HI) ∨ ∃ L, X L ∧ K = many L :: HI)) (VZ 0 (.func (.yield l) #[] #[] :: lb)) (many L0 :: HI)) : Ybk P gf lb xs B w0 HI := by
  intro l S X hy L0 h0 w hw
  exact callsIn_wide.2 (XF (args := .func (.yield l) #[] #[] :: lb) hf hn hb hle hw (h l S X hy L0 h0))
theorem YjK {n : Nat} {ds : List Deferred} {fn : Func} {R : Ending → World → Prop} (h : VQ ⟨n, ds, none⟩ B w0 (bodyPostM Fence.wide 0 P fn R) .ret env H) : VQ ⟨n, ds, none⟩ B w0 (bodyPostM Fence.wide 0 P fn R) .normal env H :=
  ⟨fun a w ha hw => h.run a w ha hw⟩
end
theorem We {P : Program} {B : Nat} {w0 : World} {env : Env} {H : List HP} {n : Nat} {fn : Func} {Φ : Value → List HP → Prop} {t u s r : Nat} {v x y z : Value} (hr : fn.results = #[.tmp t, .tmp u, .tmp s, .tmp r]) (hv : get env t = some v) (hx : get env u = some x) (hy : get env s = some y) (hz : get env r = some z) (h : Φ (.tuple #[v, x, y, z]) H) :
    VQ ⟨n, [], none⟩ B w0 (bodyPost P fn (Post B w0 Φ)) .ret env H :=
  ⟨fun a w ha hw => bodyPost_ret (v := .tuple #[v, x, y, z]) (by simp [results, hr, Array.getD_eq_getD_getElem?, ha.slot t v hv, ha.slot u x hx, ha.slot s y hy, ha.slot r z hz]) ha.defers ⟨_, H, rfl, hw, h⟩⟩
theorem YhF {X : HP} {H : List HP} (h : X ∈ H) : ∃ R, Perm H [X, many R] ∧ Perm [X, many R] H := by
  obtain ⟨s, t, rfl⟩ := List.append_of_mem h
  exact ⟨s ++ t, (Perm.closeT _).trans (Perm.pull X s t []), (Perm.push X s t []).trans (Perm.openT _)⟩
end Go.Eng
namespace Go.Proofs.YtmalhidldgfeoaaGreatDoor
open Go.RowKit Go.Eng Go.Nw
theorem YiB {l : List Flw} {id : Int} (h : 0 ≤ Z2 l id) : ∃ f ∈ l, f.1 = id := by
  unfold Z2 at h
  have := (Vk (fun f : Flw => decide (f.1 = id)) l 0 (Int.le_refl _)).1 h
  obtain ⟨f, hf, hp⟩ := List.any_eq_true.1 this
  exact ⟨f, hf, of_decide_eq_true hp⟩
theorem YbL {nodes : Int} {l : List Flw} (h : (YO nodes l).2 = 0) : ∀ f ∈ l, 0 ≤ f.1 ∧ f.1 ≤ 255 ∧ 1 ≤ f.2.2.2.1 ∧ f.2.2.2.1 ≤ 512 := by
  intro f hf
  obtain ⟨i, hi⟩ := List.mem_iff_getElem?.1 hf
  have hl := (List.getElem?_eq_some_iff.1 hi).1
  unfold YO at h
  split at h
  · cases h
  split at h
  · cases h
  have := Y2.1 h i (Nat.zero_le _) (by omega)
  unfold Y3 at this
  have e : XA l i = f := by unfold XA; rw [List.getD_eq_getElem?_getD, hi]; rfl
  rw [e] at this
  split at this
  · rename_i h1; exact absurd this h1
  · rename_i h1
    have h2 : YW nodes f = 0 := Decidable.not_not.1 h1
    unfold YW at h2
    split at h2
    · cases h2
    split at h2
    · cases h2
    omega
structure Val (n : Net) (l : List Flw) (s : Sch) : Prop where
  whole : Zq n l s = 0
  cells : (Ji n l s).2 = 0
  twice : (VE s).2 = 0
  dist : (Ybx n s).2 = 0
theorem Yc3 {n : Net} {l : List Flw} {s : Sch} : (schE n l s).2 = 0 ↔ Val n l s := by
  unfold schE
  by_cases h1 : Zq n l s ≠ 0
  · rw [if_pos h1]
    exact ⟨fun h => absurd h h1, fun h => absurd h.whole h1⟩
  rw [if_neg h1]
  by_cases h2 : (Ji n l s).2 ≠ 0
  · rw [if_pos h2]
    exact ⟨fun h => absurd h h2, fun h => absurd h.cells h2⟩
  rw [if_neg h2]
  by_cases h3 : (VE s).2 ≠ 0
  · rw [if_pos h3]
    exact ⟨fun h => absurd h h3, fun h => absurd h.twice h3⟩
  rw [if_neg h3]
  exact ⟨fun h => ⟨Decidable.not_not.1 h1, Decidable.not_not.1 h2, Decidable.not_not.1 h3, h⟩, fun h => h.dist⟩
theorem WK {n : Net} {l : List Flw} {s : Sch} (h : Zq n l s = 0) : YE n = 0 ∧ (YO n.nodes l).2 = 0 ∧ ZZ s = true ∧ (∀ f ∈ l, s.len.tmod f.2.2.2.1 = 0) ∧ s.cells.length ≤ 512 := by
  unfold Zq at h
  by_cases h1 : YE n = 0
  rotate_left
  · rw [if_pos h1] at h; cases h
  rw [if_neg (fun e => e h1)] at h
  by_cases h2 : (YO n.nodes l).2 = 0
  rotate_left
  · rw [if_pos h2] at h; cases h
  rw [if_neg (fun e => e h2)] at h
  cases h3 : ZZ s with
  | false => rw [h3, if_pos rfl] at h; cases h
  | true =>
    rw [h3, if_neg (by decide)] at h
    split at h
    · cases h
    rename_i h4
    split at h
    · cases h
    refine ⟨h1, h2, rfl, fun f hf => ?_, by omega⟩
    have := List.any_eq_false.1 (Bool.eq_false_iff.2 h4) f hf
    simpa using this
theorem Val.frm {n : Net} {l : List Flw} {s : Sch} (h : Val n l s) : Frm s := by
  obtain ⟨h1, h2, h3, h4, h5⟩ := WK h.whole
  have hok := Xe h1
  have k1 := Y2.1 h.cells
  have hids := YbL h2
  have hn := hok.n1
  have hcell : ∀ i, i < s.cells.length → Zm s (Ym s i) = true ∧ Xa n (Yy (Ym s i)) (toC (Ym s i)) = true ∧ 0 ≤ Z2 l (Xo (Ym s i)) ∧ (0 < i → Z0 (Ym s (i - 1)) (Ym s i) = true) := fun i hi => by
    have := k1 i (Nat.zero_le _) (by omega)
    unfold VI at this
    cases hp : Zm s (Ym s i) with
    | false => rw [hp, if_pos rfl] at this; cases this
    | true =>
      rw [hp, if_neg (by decide)] at this
      split at this
      · cases this
      rename_i h6
      split at this
      · cases this
      rename_i h7
      refine ⟨rfl, ?_, ?_, fun h0 => ?_⟩
      · cases hg : Xa n (Yy (Ym s i)) (toC (Ym s i)) with
        | true => rfl
        | false => exact absurd (.inl hg) h6
      · exact Int.not_lt.1 fun hlt => h6 (.inr hlt)
      · cases hc : Z0 (Ym s (i - 1)) (Ym s i) with
        | true => rfl
        | false => exact absurd ⟨h0, hc⟩ h7
  refine ⟨h3, h5, fun c hc => ?_, ?_⟩
  · obtain ⟨i, hi⟩ := List.mem_iff_getElem?.1 hc
    obtain ⟨a1, a2, a3, _⟩ := hcell i (List.getElem?_eq_some_iff.1 hi).1
    rw [ZB hi] at a1 a2 a3
    have hg := UZ hok a2
    obtain ⟨f, hf, hfe⟩ := YiB a3
    have hid := hids f hf
    unfold Yy toC Xo at *
    unfold JF insE
    rw [a1, decide_eq_true (by omega), decide_eq_true (by omega), decide_eq_true (by omega)]
    rfl
  · refine Wx (lt := Z0) (fun h1 h2 => Ybs h1 h2) fun i a b ha hb => ?_
    have := (hcell (i + 1) (List.getElem?_eq_some_iff.1 hb).1).2.2.2 (by omega)
    rw [Nat.add_sub_cancel, ZB ha, ZB hb] at this
    exact this
open Go.RowKit Go.Eng Go.Nw
def cpN (n : Net) (node : Int) (d : Cel) : Int := powN n (Yy d) node + powN n (toC d) node
def sumC (n : Net) (node : Int) (l : List Cel) : Int := (l.map (cpN n node)).sum
theorem Oh (n : Net) (node : Int) (d : Cel) (l : List Cel) : sumC n node (d :: l) = cpN n node d + sumC n node l := by unfold sumC; rw [List.map_cons, List.sum_cons]
theorem Yji {n : Net} (h : Ok n) (node : Int) {l m : List Cel} (hs : l.Sublist m) : sumC n node l ≤ sumC n node m := by
  induction hs with
  | slnil => exact Int.le_refl _
  | @cons l m d _ ih =>
    rw [Oh]
    have h1 := Vx h (Yy d) node
    have h2 := Vx h (toC d) node
    unfold cpN
    omega
  | cons_cons d _ ih => rw [Oh, Oh]; omega
def QS (n : Net) (l : List Cel) (c : Cel) (node : Int) : Int := sumC n node (l.filter fun d => Xn c d && decide (d ≠ c))
def WO (n : Net) (l : List Cel) (c : Cel) : Bool := ZX n (mar n (YB n (Yy c) (toC c)).toNat) (QS n l c (toC c)) && ZX n (mar n (YB n (toC c) (Yy c)).toNat) (QS n l c (Yy c))
structure Sem (n : Net) (l : List Flw) (s : Sch) : Prop where
  ck : YE n = 0
  fl : (YO n.nodes l).2 = 0
  per : ∀ f ∈ l, s.len.tmod f.2.2.2.1 = 0
  frm : Frm s
  good : ∀ c ∈ s.cells, Xa n (Yy c) (toC c) = true ∧ 0 ≤ Z2 l (Xo c)
  once : s.cells.Pairwise fun a b => a.1 = b.1 → Uo a b = false
  clear : ∀ c ∈ s.cells, WO n s.cells c = true
theorem Q6 {n : Net} (h : Ok n) {s d e : Int} (he : e ≤ d) (hd : ZX n s d = true) : ZX n s e = true := by
  unfold ZX at hd ⊢
  have h1 := of_decide_eq_true hd
  have h2 := h.t0
  have h3 : n.thr * (n.noise + e) ≤ n.thr * (n.noise + d) := Int.mul_le_mul_of_nonneg_left (by omega) (by omega)
  exact decide_eq_true (by omega)
theorem Sem.sub {n : Net} {l : List Flw} {s t : Sch} (h : Sem n l s) (h1 : t.len = s.len) (h2 : t.off = s.off) (hs : t.cells.Sublist s.cells) : Sem n l t := by
  have hok := Xe h.ck
  have hlen := hs.length_le
  have hfew := h.frm.few
  refine ⟨h.ck, h.fl, by rw [h1]; exact h.per, ⟨?_, by omega, fun c hc => ?_, h.frm.ord.sublist hs⟩, fun c hc => h.good c (hs.subset hc), h.once.sublist hs, fun c hc => ?_⟩
  · have := h.frm.sized
    unfold ZZ at this ⊢
    rw [h1, h2]; exact this
  · have := h.frm.formed c (hs.subset hc)
    unfold JF Zm at this ⊢
    rw [h1, h2]; exact this
  · have := h.clear c (hs.subset hc)
    unfold WO at this ⊢
    simp only [Bool.and_eq_true] at this ⊢
    have hd : ∀ node, QS n t.cells c node ≤ QS n s.cells c node := fun node => Yji hok node (hs.filter _)
    exact ⟨Q6 hok (hd _) this.1, Q6 hok (hd _) this.2⟩
open Go.RowKit Go.Eng Go.Nw
def YhR (n : Net) (l : List Flw) (s : Sch) : Prop := ∀ c ∈ s.cells, Xa n (Yy c) (toC c) = true ∧ 0 ≤ Z2 l (Xo c)
def YhS (s : Sch) : Prop := s.cells.Pairwise fun a b => a.1 = b.1 → Uo a b = false
def YeU (n : Net) (s : Sch) : Prop := ∀ c ∈ s.cells, WO n s.cells c = true
theorem Yi7 (s : Sch) (k : Nat) : repC s (k + 1) = repC s k ++ s.cells.map (movC ((k : Int) * s.len)) := by
  unfold repC
  rw [List.range_succ, List.flatMap_append]
  simp
theorem Qh {s : Sch} {k : Nat} {x : Cel} : x ∈ repC s k ↔ ∃ i, i < k ∧ ∃ c ∈ s.cells, x = movC ((i : Int) * s.len) c := by
  unfold repC
  simp only [List.mem_flatMap, List.mem_range, List.mem_map]
  constructor
  · rintro ⟨i, hi, c, hc, rfl⟩; exact ⟨i, hi, c, hc, rfl⟩
  · rintro ⟨i, hi, c, hc, rfl⟩; exact ⟨i, hi, c, hc, rfl⟩
theorem Yeh {i j : Nat} {L : Int} (hL : 0 ≤ L) (h : i < j) : (i : Int) * L + L ≤ (j : Int) * L := by
  have h1 : ((i : Int) + 1) * L ≤ (j : Int) * L := Int.mul_le_mul_of_nonneg_right (by omega) hL
  rw [Int.add_mul] at h1
  omega
theorem Ygz {s : Sch} (hf : Frm s) {c : Cel} (hc : c ∈ s.cells) : 0 ≤ c.1 ∧ c.1 < s.len := by
  have := hf.formed c hc
  unfold JF Zm insE at this
  simp only [Bool.and_eq_true, decide_eq_true_eq] at this
  exact this.1.1.1.1
theorem Yb8 {s : Sch} (hf : Frm s) {c d : Cel} (hc : c ∈ s.cells) (hd : d ∈ s.cells) {i j : Nat} (h : c.1 + (i : Int) * s.len = d.1 + (j : Int) * s.len) : i = j ∧ c.1 = d.1 := by
  have h1 := Ygz hf hc
  have h2 := Ygz hf hd
  rcases Nat.lt_trichotomy i j with h3 | h3 | h3
  · have := Yeh (L := s.len) (by omega) h3; omega
  · subst h3; exact ⟨rfl, by omega⟩
  · have := Yeh (L := s.len) (by omega) h3; omega
structure Rep (s t : Sch) (k : Nat) : Prop where
  k1 : 1 ≤ k
  frm : Frm s
  len : t.len = s.len * k
  off : t.off = s.off
  cells : t.cells = repC s k
  l512 : s.len * k ≤ 512
  c512 : s.cells.length * k ≤ 512
theorem Yaz {s : Sch} {p q : Cel → Bool} {j0 : Nat} (hq : ∀ d ∈ s.cells, p (movC ((j0 : Int) * s.len) d) = q d) : ∀ {m : Nat}, (∀ j, j < m → j ≠ j0 → ∀ d ∈ s.cells, p (movC ((j : Int) * s.len) d) = false) → (repC s m).filter p = if j0 < m then (s.cells.filter q).map (movC ((j0 : Int) * s.len)) else []
  | 0, _ => by simp [repC]
  | m + 1, h => by
    rw [Yi7, List.filter_append, Yaz hq fun j hj => h j (by omega), List.filter_map]
    by_cases e : m = j0
    · subst e
      rw [if_neg (by omega), if_pos (by omega), List.nil_append]
      congr 1
      exact List.filter_congr fun d hd => hq d hd
    · have hz : s.cells.filter (p ∘ movC ((m : Int) * s.len)) = [] := by
        rw [List.filter_eq_nil_iff]
        intro d hd
        show ¬ p (movC ((m : Int) * s.len) d) = true
        rw [h m (by omega) e d hd]; simp
      rw [hz, List.map_nil, List.append_nil]
      by_cases h2 : j0 < m
      · rw [if_pos h2, if_pos (by omega)]
      · rw [if_neg h2, if_neg (by omega)]
theorem Ykn (n : Net) (node d : Int) (l : List Cel) : sumC n node (l.map (movC d)) = sumC n node l := by
  unfold sumC
  rw [List.map_map]
  rfl
theorem Rep.dist {s t : Sch} {k : Nat} (h : Rep s t k) (n : Net) {i : Nat} (hi : i < k) {c : Cel} (hc : c ∈ s.cells) (node : Int) : QS n t.cells (movC ((i : Int) * s.len) c) node = QS n s.cells c node := by
  unfold QS
  rw [h.cells, Yaz (j0 := i) (q := fun d => Xn c d && decide (d ≠ c)), if_pos hi, Ykn]
  · intro d hd
    have h2 : (movC ((i : Int) * s.len) d ≠ movC ((i : Int) * s.len) c) ↔ d ≠ c := by
      constructor
      · intro h3 e; subst e; exact h3 rfl
      · intro h3 e
        apply h3
        obtain ⟨d1, d2⟩ := d
        obtain ⟨c1, c2⟩ := c
        unfold movC at e
        injection e with e1 e2
        simp only at e1 e2
        subst e2
        have : d1 = c1 := by omega
        rw [this]
    show (Xn _ _ && decide _) = (Xn _ _ && decide _)
    rw [decide_eq_decide.2 h2]
    congr 1
    unfold Xn movC
    rw [decide_eq_decide]
    simp only
    omega
  · intro j hj hne d hd
    have : Xn (movC ((i : Int) * s.len) c) (movC ((j : Int) * s.len) d) = false := by
      unfold Xn movC
      refine decide_eq_false ?_
      rintro ⟨h3, _⟩
      exact hne (Yb8 h.frm hd hc h3).1
    rw [this]; rfl
theorem Rep.good {s t : Sch} {k : Nat} (h : Rep s t k) (n : Net) (l : List Flw) : YhR n l t ↔ YhR n l s := by
  unfold YhR
  rw [h.cells]
  constructor
  · intro hg c hc
    exact hg (movC (((0 : Nat) : Int) * s.len) c) (Qh.2 ⟨0, h.k1, c, hc, rfl⟩)
  · intro hg x hx
    obtain ⟨i, _, c, hc, rfl⟩ := Qh.1 hx
    exact hg c hc
theorem Rep.once {s t : Sch} {k : Nat} (h : Rep s t k) : YhS t ↔ YhS s := by
  unfold YhS
  rw [h.cells]
  unfold repC
  rw [List.pairwise_flatMap]
  constructor
  · rintro ⟨h1, _⟩
    have := h1 0 (List.mem_range.2 h.k1)
    rw [List.pairwise_map] at this
    exact this.imp fun {a b} hab e => hab (by simp only [movC]; omega)
  · intro ho
    refine ⟨fun i _ => ?_, ?_⟩
    · rw [List.pairwise_map]
      exact ho.imp fun {a b} hab e => hab (by simp only [movC] at e; omega)
    · refine List.pairwise_lt_range.imp fun {i j} hij x hx y hy e => ?_
      obtain ⟨a, ha, rfl⟩ := List.mem_map.1 hx
      obtain ⟨b, hb, rfl⟩ := List.mem_map.1 hy
      have := (Yb8 h.frm ha hb e).1
      omega
theorem Rep.clear {s t : Sch} {k : Nat} (h : Rep s t k) (n : Net) : YeU n t ↔ YeU n s := by
  have hc : ∀ i, i < k → ∀ c ∈ s.cells, WO n t.cells (movC ((i : Int) * s.len) c) = WO n s.cells c := fun i hi c hc => by
    unfold WO
    have e1 : Yy (movC ((i : Int) * s.len) c) = Yy c := rfl
    have e2 : toC (movC ((i : Int) * s.len) c) = toC c := rfl
    rw [e1, e2, h.dist n hi hc, h.dist n hi hc]
  unfold YeU
  constructor
  · intro hg c hcm
    rw [← hc 0 h.k1 c hcm]
    exact hg _ (by rw [h.cells]; exact Qh.2 ⟨0, h.k1, c, hcm, rfl⟩)
  · intro hg x hx
    rw [h.cells] at hx
    obtain ⟨i, hi, c, hcm, rfl⟩ := Qh.1 hx
    rw [hc i hi c hcm]
    exact hg c hcm
open Go.RowKit Go.Eng Go.Nw
abbrev ints (A : Option Addr) (cap : Nat) (l : List Int) : HP := sl 3 1 A l.length cap (l.flatMap numF)
theorem Jd {l : List Int} {k : Nat} {a : Int} (h : l[k]? = some a) : l.take (k + 1) = l.take k ++ [a] := by rw [List.take_add_one, h]; rfl
open Go.RowKit Go.Eng Go.Nw
theorem NetM.In.mono {B : Nat} {w0 : World} {H K : List HP} {n : NetM} (h : n.In B w0 H) (hH : ∀ w, St B w0 K w → St B w0 H w) : n.In B w0 K :=
  ⟨h.pw.mono hH, fun r hr => (h.rw_ r hr).mono hH, h.lk.mono hH, h.mg.mono hH, h.s1, h.s2, h.s3, h.s4⟩
open Go.RowKit Go.Eng Go.Nw Go.Rt
theorem Yc2 {n : Net} (h : YE n = 0) (a b : Int) : Uq n (Zh n a b) = Xa n a b := by
  have hok := Xe h
  unfold Uq Zh
  rw [if_neg (by simp [h]), decide_eq_true h, Bool.true_and]
  by_cases h1 : 0 ≤ YB n a b
  · have h2 := ZJ h1
    rw [decide_eq_true ⟨h1, by omega⟩, Bool.true_and, OS hok h2]
    obtain ⟨e1, e2⟩ := V9 h1
    rw [e1, e2]
  · rw [decide_eq_false (fun h => h1 h.1), Bool.false_and]
    unfold Xa
    rw [decide_eq_false h1, Bool.false_and]
def offE (n : Net) (a : Int) : Bool := decide (a < 0 ∨ n.nodes ≤ a)
def Wo (n : Net) (s t : Int) : Int := if YE n ≠ 0 then 1 else if offE n s = true ∨ offE n t = true ∨ s = t then 2 else 0
def U8 (r : List Int) : Bool := (List.range r.length).any fun i => (r.take i).contains (r.getD i 0)
def Uw (n : Net) (r : List Int) : Bool := (List.range (r.length - 1)).any fun i => !Xa n (r.getD i 0) (r.getD (i + 1) 0)
def QV (n : Net) (s t : Int) (r : List Int) : Int :=
  if r.length < 2 then 9 else if 9 < r.length then 8 else if r.any (offE n) = true then 2 else if r.getD 0 0 ≠ s ∨ r.getD (r.length - 1) 0 ≠ t then 11
  else if U8 r = true then 6 else if Uw n r = true then 17 else 0
def YiL (n : Net) (a b : Int) : Int := (lnk n (YB n a b).toNat).2.2
def XQ (n : Net) (s t : Int) (r : List Int) : Int := if Wo n s t ≠ 0 then Wo n s t else QV n s t r
theorem QC {p : Nat → Bool} {k : Nat} : (List.range (k + 1)).any p = ((List.range k).any p || p k) := by
  rw [List.range_succ, List.any_append]; simp
theorem Jm {l : List Int} {i : Nat} (h : i < l.length) : l[i]? = some (l.getD i 0) := by
  rw [List.getD_eq_getElem?_getD, List.getElem?_eq_getElem h]; rfl
theorem Yj2 {n : Net} (h : Ok n) (a b : Int) : 0 ≤ YiL n a b ∧ YiL n a b ≤ 7 := by
  unfold YiL
  by_cases hi : (YB n a b).toNat < n.links.length
  · have := h.lk _ hi
    exact ⟨this.l0, this.l1⟩
  · rw [show lnk n (YB n a b).toNat = (0, 0, 0) by simp [lnk, List.getD, List.getElem?_eq_none (Nat.le_of_not_lt hi)]]
    decide
open Go.RowKit Go.Eng Go.Nw Go.Rt
def onP (id a b : Int) (c : Cel) : Bool := decide (Xo c = id ∧ Yy c = a ∧ toC c = b)
def Xk (s : Sch) (id : Int) (l : Lk) : List Cel := s.cells.filter (onP id l.1 l.2.1)
def Y4 (len a : Int) : List Cel → Nat → List (Cel × Int)
  | [], _ => []
  | c :: cs, k => if c.1 = a.tmod len ∧ k ≠ 0 then (c, a) :: Y4 len a cs (k - 1) else Y4 len a cs k
def hopP (len : Int) (cs : List Cel) : Nat → Nat → Int → List (Cel × Int)
  | 0, _, _ => []
  | f + 1, k, a => Y4 len a cs k ++ hopP len cs f (k - (Y4 len a cs k).length) (a + 1)
def Yv (x : List (Cel × Int)) (a : Int) : Int := match x.getLast? with | some z => z.2 + 1 | none => a
def YJ (l : Lk) : Nat := (l.2.2 + 1).toNat
def runP (len : Int) (C : Lk → List Cel) (endd : Int) : List Lk → Int → List (Cel × Int)
  | [], _ => []
  | l :: ls, a => if (hopP len (C l) (endd - a).toNat (YJ l) a).length < YJ l then hopP len (C l) (endd - a).toNat (YJ l) a
    else hopP len (C l) (endd - a).toNat (YJ l) a ++ runP len C endd ls (Yv (hopP len (C l) (endd - a).toNat (YJ l) a) a)
def Y7 (ls : List Lk) : Nat := (ls.map YJ).sum
theorem WF (len a : Int) : ∀ (cs : List Cel) (k : Nat), (Y4 len a cs k).length ≤ k
  | [], k => Nat.zero_le _
  | c :: cs, k => by
    unfold Y4
    split
    · rename_i h
      have := WF len a cs (k - 1)
      rw [List.length_cons]; omega
    · exact WF len a cs k
theorem Um {len a : Int} : ∀ {cs : List Cel} {k : Nat} {z : Cel × Int}, z ∈ Y4 len a cs k → z.2 = a
  | [], k, z, h => by cases h
  | c :: cs, k, z, h => by
    unfold Y4 at h
    split at h
    · rcases List.mem_cons.1 h with rfl | h
      · rfl
      · exact Um h
    · exact Um h
theorem Wr (len : Int) (cs : List Cel) : ∀ (f k : Nat) (a : Int), (hopP len cs f k a).length ≤ k
  | 0, k, a => Nat.zero_le _
  | f + 1, k, a => by
    unfold hopP
    have h1 := WF len a cs k
    have h2 := Wr len cs f (k - (Y4 len a cs k).length) (a + 1)
    rw [List.length_append]; omega
theorem YiF (len : Int) (cs : List Cel) (f : Nat) (a : Int) : hopP len cs f 0 a = [] := List.eq_nil_of_length_eq_zero (Nat.le_zero.1 (Wr len cs f 0 a))
theorem Uz {len : Int} {cs : List Cel} : ∀ {f k : Nat} {a : Int} {z : Cel × Int}, z ∈ hopP len cs f k a → a ≤ z.2 ∧ z.2 < a + f
  | 0, k, a, z, h => by cases h
  | f + 1, k, a, z, h => by
    unfold hopP at h
    rcases List.mem_append.1 h with h | h
    · have := Um h; omega
    · have := Uz h; omega
theorem Qi (len : Int) (C : Lk → List Cel) (endd : Int) : ∀ (ls : List Lk) (a : Int), (runP len C endd ls a).length ≤ Y7 ls
  | [], a => Nat.zero_le _
  | l :: ls, a => by
    have h1 := Wr len (C l) (endd - a).toNat (YJ l) a
    have h2 := Qi len C endd ls (Yv (hopP len (C l) (endd - a).toNat (YJ l) a) a)
    have h3 : Y7 (l :: ls) = YJ l + Y7 ls := by unfold Y7; rw [List.map_cons, List.sum_cons]
    unfold runP
    split
    · omega
    · rw [List.length_append]; omega
theorem Yik {x : List (Cel × Int)} {a b : Int} (h : ∀ z ∈ x, a ≤ z.2 ∧ z.2 < b) (hab : a ≤ b) : a ≤ Yv x a ∧ Yv x a ≤ b := by
  unfold Yv
  cases hx : x.getLast? with
  | none => exact ⟨Int.le_refl _, hab⟩
  | some z =>
    have := h z (List.mem_of_getLast? hx)
    simp only
    omega
theorem Qj {len : Int} {C : Lk → List Cel} {endd : Int} : ∀ {ls : List Lk} {a : Int} {z : Cel × Int}, a ≤ endd → z ∈ runP len C endd ls a → a ≤ z.2 ∧ z.2 < endd
  | [], a, z, _, h => by cases h
  | l :: ls, a, z, hae, h => by
    have hb : ∀ z ∈ hopP len (C l) (endd - a).toNat (YJ l) a, a ≤ z.2 ∧ z.2 < endd := fun z hz => by
      have := Uz hz; omega
    unfold runP at h
    split at h
    · exact hb z h
    · rcases List.mem_append.1 h with h | h
      · exact hb z h
      · have h1 := Yik hb hae
        have := Qj h1.2 h
        omega
def VO (len : Int) (C : Lk → List Cel) (endd : Int) (cs : List Cel) (ls : List Lk) (f k : Nat) (a at_ : Int) : List (Cel × Int) :=
  if (hopP len cs f k a).length < k then hopP len cs f k a else hopP len cs f k a ++ runP len C endd ls (Yv (hopP len cs f k a) at_)
theorem Yjc (len : Int) (C : Lk → List Cel) (endd : Int) (l : Lk) (ls : List Lk) (a : Int) : runP len C endd (l :: ls) a = VO len C endd (C l) ls (endd - a).toNat (YJ l) a a := rfl
theorem YhH (len : Int) (C : Lk → List Cel) (endd : Int) (cs : List Cel) (ls : List Lk) (f : Nat) (a at_ : Int) : VO len C endd cs ls f 0 a at_ = runP len C endd ls at_ := by
  unfold VO
  rw [YiF, if_neg (Nat.not_lt_zero _)]
  rfl
theorem Yjj {len : Int} {C : Lk → List Cel} {endd : Int} {cs : List Cel} {ls : List Lk} {k : Nat} {a at_ : Int} (hk : k ≠ 0) : VO len C endd cs ls 0 k a at_ = [] := by
  unfold VO
  rw [if_pos (by simp [hopP]; omega)]
  rfl
theorem YgN {x y : List (Cel × Int)} {a b : Int} (hy : ∀ z ∈ y, z.2 + 1 = b) : Yv (y ++ x) a = Yv x (if y = [] then a else b) := by
  unfold Yv
  cases hx : x.getLast? with
  | some z => rw [List.getLast?_append, hx]; rfl
  | none =>
    obtain rfl := List.getLast?_eq_none_iff.1 hx
    rw [List.append_nil]
    cases hy2 : y.getLast? with
    | none =>
      obtain rfl := List.getLast?_eq_none_iff.1 hy2
      rfl
    | some z =>
      have hne : y ≠ [] := fun e => by rw [e] at hy2; cases hy2
      rw [if_neg hne]
      exact hy z (List.mem_of_getLast? hy2)
theorem YhI (len : Int) (C : Lk → List Cel) (endd : Int) (cs : List Cel) (ls : List Lk) (f k : Nat) (a at_ : Int) :
    VO len C endd cs ls (f + 1) k a at_ = Y4 len a cs k ++ VO len C endd cs ls f (k - (Y4 len a cs k).length) (a + 1) (if Y4 len a cs k = [] then at_ else a + 1) := by
  have hl := WF len a cs k
  have h1 : hopP len cs (f + 1) k a = Y4 len a cs k ++ hopP len cs f (k - (Y4 len a cs k).length) (a + 1) := rfl
  unfold VO
  rw [h1, List.length_append]
  by_cases h2 : (hopP len cs f (k - (Y4 len a cs k).length) (a + 1)).length < k - (Y4 len a cs k).length
  · rw [if_pos h2, if_pos (by omega)]
  · rw [if_neg h2, if_neg (by omega), YgN (b := a + 1) (fun z hz => by rw [Um hz]), List.append_assoc]
def UQ (len : Int) (C : Lk → List Cel) (endd : Int) (cs cs' : List Cel) (ls : List Lk) (f k : Nat) (a at_ : Int) : List (Cel × Int) :=
  Y4 len a cs' k ++ VO len C endd cs ls f (k - (Y4 len a cs' k).length) (a + 1) (if Y4 len a cs' k = [] then at_ else a + 1)
theorem Yi8 (len : Int) (C : Lk → List Cel) (endd : Int) (cs : List Cel) (ls : List Lk) (f k : Nat) (a at_ : Int) : UQ len C endd cs cs ls f k a at_ = VO len C endd cs ls (f + 1) k a at_ := (YhI ..).symm
theorem Yi9 (len : Int) (C : Lk → List Cel) (endd : Int) (cs : List Cel) (ls : List Lk) (f k : Nat) (a at_ : Int) : UQ len C endd cs [] ls f k a at_ = VO len C endd cs ls f k (a + 1) at_ := by
  simp [UQ, Y4]
theorem Yja {len : Int} {C : Lk → List Cel} {endd : Int} {cs cs' : List Cel} {c : Cel} {ls : List Lk} {f k : Nat} {a at_ : Int} (h : c.1 = a.tmod len) (hk : k ≠ 0) :
    UQ len C endd cs (c :: cs') ls f k a at_ = (c, a) :: UQ len C endd cs cs' ls f (k - 1) a (a + 1) := by
  have h1 : Y4 len a (c :: cs') k = (c, a) :: Y4 len a cs' (k - 1) := by rw [Y4, if_pos ⟨h, hk⟩]
  unfold UQ
  rw [h1, List.length_cons, if_neg (List.cons_ne_nil _ _), show k - ((Y4 len a cs' (k - 1)).length + 1) = k - 1 - (Y4 len a cs' (k - 1)).length by omega]
  simp
theorem Yki {len : Int} {C : Lk → List Cel} {endd : Int} {cs cs' : List Cel} {c : Cel} {ls : List Lk} {f k : Nat} {a at_ : Int} (h : ¬ (c.1 = a.tmod len ∧ k ≠ 0)) :
    UQ len C endd cs (c :: cs') ls f k a at_ = UQ len C endd cs cs' ls f k a at_ := by
  unfold UQ
  rw [Y4, if_neg h]
def runR (len : Int) (C : Lk → List Cel) (endd : Int) : List Lk → Int → Option (List Int)
  | [], _ => some []
  | l :: ls, a => if (hopP len (C l) (endd - a).toNat (YJ l) a).length < YJ l then none
    else (runR len C endd ls (Yv (hopP len (C l) (endd - a).toNat (YJ l) a) a)).map fun y => (hopP len (C l) (endd - a).toNat (YJ l) a).map Prod.snd ++ y
theorem YcX (len : Int) (C : Lk → List Cel) (endd : Int) : ∀ (ls : List Lk) (a : Int), runR len C endd ls a = if (runP len C endd ls a).length < Y7 ls then none else some ((runP len C endd ls a).map Prod.snd)
  | [], a => rfl
  | l :: ls, a => by
    have h3 : Y7 (l :: ls) = YJ l + Y7 ls := by unfold Y7; rw [List.map_cons, List.sum_cons]
    have hl := Wr len (C l) (endd - a).toNat (YJ l) a
    unfold runR runP
    by_cases h : (hopP len (C l) (endd - a).toNat (YJ l) a).length < YJ l
    · rw [if_pos h, if_pos h, if_pos (by omega)]
    · rw [if_neg h, if_neg h, YcX len C endd ls]
      by_cases h4 : (runP len C endd ls (Yv (hopP len (C l) (endd - a).toNat (YJ l) a) a)).length < Y7 ls
      · rw [if_pos h4, if_pos (by rw [List.length_append]; omega)]; rfl
      · rw [if_neg h4, if_neg (by rw [List.length_append]; omega)]; simp
def X0 (n : Net) (r : List Int) (i : Nat) : Lk := lnk n (YB n (r.getD i 0) (r.getD (i + 1) 0)).toNat
def YA (n : Net) (r : List Int) : List Lk := (List.range (r.length - 1)).map (X0 n r)
def YaM (n : Net) (s : Sch) (f : Flw) (r : List Int) (release : Int) : Option (List Int) := runR s.len (Xk s f.1) (release + f.2.2.2.1) (YA n r) release
def ZN (l : List Int) : Int := l.getD (l.length - 1) 0
def VH (S : Int → Option (List Int)) (len period : Int) : Nat → Int → Int × Int × List Int → Option (Int × Int × List Int)
  | 0, _, b => some b
  | k + 1, rel, b => if len ≤ rel then some b else match S rel with
    | none => none
    | some l => VH S len period k (rel + period) (if b.1 < ZN l - rel + 1 then (ZN l - rel + 1, rel, l.map fun z => z - rel) else b)
def V0 (n : Net) (s : Sch) (f : Flw) (r : List Int) : Option (Int × Int × List Int) := VH (YaM n s f r) s.len f.2.2.2.1 s.len.toNat f.2.2.2.2.1 (0, 0, [])
def wayE (n : Net) (s : Sch) (f : Flw) (r : List Int) : Int :=
  if YE n ≠ 0 ∨ Y6 s = false ∨ YW n.nodes f ≠ 0 then 1 else if s.len.tmod f.2.2.2.1 ≠ 0 then 11 else XQ n f.2.1 f.2.2.1 r
def YP (n : Net) (s : Sch) (f : Flw) (r : List Int) : (Int × Int × List Int) × Int :=
  if wayE n s f r ≠ 0 then ((0, 0, []), wayE n s f r) else match V0 n s f r with
    | none => ((0, 0, []), 15)
    | some b => (b, 0)
open Go.RowKit Go.Eng Go.Nw Go.Rt
abbrev Rqs := Flw × List (List Int)
structure Clm where
  flow : Int
  routes : List (List Int)
  bounds : List Int
  worst : List Int
  slots : List (List Int)
deriving DecidableEq
def Ymj : Clm := ⟨0, [], [], [], []⟩
def Ua (q : List Rqs) : List Flw := q.map Prod.fst
def Ymk : Rqs := ((0, 0, 0, 0, 0, 0), [])
def rqAt (q : List Rqs) (i : Nat) : Rqs := q.getD i Ymk
def rtAt (l : List (List Int)) (k : Nat) : List Int := l.getD k []
def rtsE (n : Net) (x : Rqs) : Int :=
  if x.2.length = 0 then 14 else if 2 < x.2.length then 8
  else if (YF (fun k => XQ n x.1.2.1 x.1.2.2.1 (rtAt x.2 k)) x.2.length 0).2 ≠ 0 then (YF (fun k => XQ n x.1.2.1 x.1.2.2.1 (rtAt x.2 k)) x.2.length 0).2
  else if x.2.length = 2 ∧ rtAt x.2 0 = rtAt x.2 1 then 6 else 0
def rqsE (n : Net) (q : List Rqs) : Int × Int :=
  if YE n ≠ 0 then (-1, 1) else if (YO n.nodes (Ua q)).2 ≠ 0 then YO n.nodes (Ua q)
  else YF (fun i => rtsE n (rqAt q i)) q.length 0
def badR (n : Net) (s : Sch) (f : Flw) (r : List Int) : Bool := decide ((YP n s f r).2 ≠ 0 ∨ f.2.2.2.2.2 < (YP n s f r).1.1)
def YdM (n : Net) (s : Sch) (x : Rqs) (l : List (List Int)) : Clm :=
  ⟨x.1.1, l, l.map fun r => (YP n s x.1 r).1.1, l.map fun r => (YP n s x.1 r).1.2.1, l.map fun r => (YP n s x.1 r).1.2.2⟩
def ZO (n : Net) (s : Sch) (x : Rqs) : Bool := x.2.any (badR n s x.1)
def clmE (n : Net) (s : Sch) (x : Rqs) : Clm := YdM n s x x.2
def Zt (n : Net) (q : List Rqs) (s : Sch) : List Clm × (Int × Int) :=
  if (rqsE n q).2 ≠ 0 then ([], rqsE n q) else if (schE n (Ua q) s).2 ≠ 0 then ([], (-1, 1))
  else if (YF (fun i => if ZO n s (rqAt q i) = true then 15 else 0) q.length 0).2 ≠ 0 then ([], YF (fun i => if ZO n s (rqAt q i) = true then 15 else 0) q.length 0)
  else (q.map (clmE n s), (-1, 0))
def Jj (c : List Clm) (i : Nat) : Clm := c.getD i Ymj
def chkE (n : Net) (q : List Rqs) (s : Sch) (c : List Clm) : Int × Int :=
  if (Zt n q s).2.2 ≠ 0 then (Zt n q s).2 else if c.length ≠ (Zt n q s).1.length then (-1, 11)
  else YF (fun i => if Jj c i = Jj (Zt n q s).1 i then 0 else 20) c.length 0
def minI : List Int → Int
  | [] => 0
  | a :: l => l.foldl (fun x y => if y < x then y else x) a
def bndE (c : List Clm) (id : Int) : Int × Bool :=
  match c.find? (fun x => decide (x.flow = id) && decide (0 < x.bounds.length)) with
  | none => (0, false)
  | some x => (minI x.bounds, true)
open Go.RowKit Go.Eng Go.Nw Go.Rt
theorem YbG (n : NetM) (s t : Int) {B : Nat} {w0 : World} {H : List HP} {w : World} (hin : n.In B w0 H) (hw : St B w0 H w) :
    Calls Tryz.prog 205 [n.val, .int .i64 s, .int .i64 t].toArray w (Post B w0 fun v K => v = .int .i64 (Wo n.net s t) ∧ K = H) := by
  refine Yc Tryz.func205 Tryz.ntmps205 rfl rfl hw ?_
  have e7 : n.net.nodes = n.nodes := rfl
  unfold Wo offE
  rw [e7]
  by_cases h0 : YE n.net = 0
  rotate_left
  · rw [if_pos h0]
    repeat' (first | ((first | apply Ya en50 | apply Yb en50); exact za; exact rfl; exact fun _ hw => (YS n hin.cons hw)) | refine zgc ?_ | (refine zge ?_ ?_ <;> intro _ <;> try (exfalso; omega)) | (refine zgh ?_; intro _) | fail)
    all_goals ((repeat apply Yp); apply Yd; exact rfl; exact rfl; exact ⟨rfl, rfl⟩)
  rw [if_neg (fun h => h h0)]
  have hck := fun {H : List HP} {w : World} (hin : n.In B w0 H) (hw : St B w0 H w) => YS n hin hw
  rw [h0] at hck
  simp only [decide_eq_true_eq]
  by_cases h1 : (s < 0 ∨ n.nodes ≤ s) ∨ (t < 0 ∨ n.nodes ≤ t) ∨ s = t
  · rw [if_pos h1]
    repeat' (first | ((first | apply Ya en50 | apply Yb en50); exact za; exact rfl; exact fun _ hw => (hck hin.cons hw)) | refine zgc ?_ | (refine zgf ?_ ?_ <;> intro _ <;> try (exfalso; omega)) | (refine zgh ?_; intro _) | fail)
    all_goals ((repeat apply Yp); apply Yd; exact rfl; exact rfl; exact ⟨rfl, rfl⟩)
  · rw [if_neg h1]
    repeat' (first | ((first | apply Ya en50 | apply Yb en50); exact za; exact rfl; exact fun _ hw => (hck hin.cons hw)) | refine zgc ?_ | (refine zgf ?_ ?_ <;> intro _ <;> try (exfalso; omega)) | (refine zgh ?_; intro _) | fail)
    all_goals ((repeat apply Yp); apply Yd; exact rfl; exact rfl; exact ⟨rfl, rfl⟩)
theorem YdW (n : NetM) (a : Int) (g : Nat) {B : Nat} {w0 : World} {H : List HP} {w : World} (hm : netB g n ∈ H) (hw : St B w0 H w) :
    Calls Tryz.prog 245 [.int .i64 a, .pointer (some ⟨g, 0, none⟩)].toArray w (Post B w0 fun v K => v = .bool (offE n.net a) ∧ K = H) := by
  refine Yc Tryz.func245 Tryz.ntmps245 rfl rfl hw ?_
  have e7 : n.net.nodes = n.nodes := rfl
  unfold offE
  rw [e7]
  by_cases h : a < 0 ∨ n.nodes ≤ a
  · rw [decide_eq_true h]
    repeat' (first | refine zgc ?_ | (refine zgf ?_ ?_ <;> intro _ <;> try (exfalso; omega)) | fail)
    all_goals (apply Yd; exact rfl; exact rfl; exact ⟨rfl, rfl⟩)
  · rw [decide_eq_false h]
    repeat' (first | refine zgc ?_ | (refine zgf ?_ ?_ <;> intro _ <;> try (exfalso; omega)) | fail)
    all_goals (apply Yd; exact rfl; exact rfl; exact ⟨rfl, rfl⟩)
open Go.RowKit Go.Eng Go.Nw
theorem OC (l : List Int) (v : Int) (hlen : l.length ≤ 9223372036854775807) {A : Option Addr} {cap B : Nat} {w0 : World} {H : List HP} {w : World} (hr : Rd B w0 H A (l.flatMap numF)) (hw : St B w0 H w) :
    Calls Tryz.prog 45 [.slice A l.length cap, .int .i64 v].toArray w (Post B w0 fun u K => u = .int .i64 (Yn (fun x => decide (v = x)) l 0) ∧ K = H) := by
  refine Yc Tryz.func45 Tryz.ntmps45 rfl rfl hw ?_
  repeat' (first | refine zgb ?_ | fail)
  refine Yl (fun (k : Nat) => [(8, .int .i64 k), (7, .int .i64 l.length), (0, .slice A l.length cap), (1, .int .i64 v)]) (fun _ => H) (fun k => k ≤ l.length ∧ Yn (fun x => decide (v = x)) l 0 = Yn (fun x => decide (v = x)) (l.drop k) k) (fun k => l.length - k) 0 ⟨Nat.zero_le _, by simp⟩ ?_ (fun w hw => hw) ?_
  · exact zu
  rintro k ⟨hk, hi⟩ K hK
  by_cases hlt : k < l.length
  · obtain ⟨a, ha⟩ : ∃ a, l[k]? = some a := ⟨_, List.getElem?_eq_getElem hlt⟩
    rw [Jo _ l ha] at hi
    repeat' (first | refine zgd ?_ | (refine zgf ?_ ?_ <;> intro _ <;> try (exfalso; omega)) | fail)
    · rename_i h
      rw [if_pos (decide_eq_true h)] at hi
      ((repeat apply Yp); apply Yd; exact rfl; exact rfl; refine ⟨congrArg _ ?_, rfl⟩)
      rw [hi]
    · rename_i h
      rw [if_neg (by simp [h])] at hi
      repeat' (first | fail)
      apply hK (k + 1)
      · exact ⟨by omega, hi⟩
      · omega
      · exact zu
      · exact fun w hw => hw
  · repeat' (first | refine zgc ?_ | (refine zge ?_ ?_ <;> intro _ <;> try (exfalso; omega)) | fail)
    ((repeat apply Yp); apply Yd; exact rfl; exact rfl; refine ⟨congrArg _ ?_, rfl⟩)
    rw [hi, List.drop_eq_nil_of_le (by omega)]; rfl
theorem QN (l : List Int) (v : Int) (hlen : l.length ≤ 9223372036854775807) {A : Option Addr} {cap B : Nat} {w0 : World} {H : List HP} {w : World} (hr : Rd B w0 H A (l.flatMap numF)) (hw : St B w0 H w) :
    Calls Tryz.prog 246 [.slice A l.length cap, .int .i64 v].toArray w (Post B w0 fun u K => u = .bool (decide (v ∈ l)) ∧ K = H) := by
  refine Yc Tryz.func246 Tryz.ntmps246 rfl rfl hw ?_
  have hia := Vk (fun x => decide (v = x)) l 0 (by omega)
  have hmm : l.any (fun x => decide (v = x)) = true ↔ v ∈ l := by simp [List.any_eq_true]
  repeat' (first | ((first | apply Ya en45 | apply Yb en45); exact za; exact rfl; exact fun _ hw => (OC l v hlen hr hw)) | refine zga ?_ | (refine zgf ?_ ?_ <;> intro _ <;> try (exfalso; omega)) | fail)
  all_goals (apply Yd; exact rfl; exact rfl)
  · rename_i h; exact ⟨by rw [decide_eq_true (hmm.1 (hia.1 h))], rfl⟩
  · rename_i h
    exact ⟨by rw [decide_eq_false fun e => by have := hia.2 (hmm.2 e); omega], rfl⟩
theorem OA (l m : List Int) (hlen : l.length ≤ 9223372036854775807) (_hlen2 : m.length ≤ 9223372036854775807) {A A2 : Option Addr} {cap cap2 B : Nat} {w0 : World} {H : List HP} {w : World} (hr : Rd B w0 H A (l.flatMap numF)) (hr2 : Rd B w0 H A2 (m.flatMap numF)) (hw : St B w0 H w) :
    Calls Tryz.prog 33 [.slice A l.length cap, .slice A2 m.length cap2].toArray w (Post B w0 fun u K => u = .bool (decide (l = m)) ∧ K = H) := by
  refine Yc Tryz.func33 Tryz.ntmps33 rfl rfl hw ?_
  by_cases hll : l.length = m.length
  rotate_left
  · repeat' (first | refine zgb ?_ | (refine zge ?_ ?_ <;> intro _ <;> try (exfalso; omega)) | fail)
    apply Yd; exact rfl; exact rfl
    exact ⟨by rw [decide_eq_false fun e => hll (by rw [e])], rfl⟩
  repeat' (first | refine zgb ?_ | (refine zge ?_ ?_ <;> intro _ <;> try (exfalso; omega)) | fail)
  refine Yl (fun (k : Nat) => [(13, .int .i64 k), (12, .int .i64 l.length), (0, .slice A l.length cap), (1, .slice A2 m.length cap2)]) (fun _ => H) (fun k => k ≤ l.length ∧ l.take k = m.take k) (fun k => l.length - k) 0 ⟨Nat.zero_le _, by simp⟩ ?_ (fun w hw => hw) ?_
  · exact zu
  rintro k ⟨hk, hi⟩ K hK
  by_cases hlt : k < l.length
  · obtain ⟨a, ha⟩ : ∃ a, l[k]? = some a := ⟨_, List.getElem?_eq_getElem hlt⟩
    obtain ⟨b, hb⟩ : ∃ b, m[k]? = some b := ⟨_, List.getElem?_eq_getElem (by omega)⟩
    repeat' (first | refine zgd ?_ | (refine zge ?_ ?_ <;> intro _ <;> try (exfalso; omega)) | fail)
    · rename_i h
      apply Yd; exact rfl; exact rfl
      exact ⟨by rw [decide_eq_false fun e => by rw [e, hb] at ha; exact h (Option.some.inj ha).symm], rfl⟩
    · rename_i h
      apply hK (k + 1)
      · exact ⟨by omega, by rw [Jd ha, Jd hb, hi, h]⟩
      · omega
      · exact zu
      · exact fun w hw => hw
  · repeat' (first | refine zgc ?_ | (refine zge ?_ ?_ <;> intro _ <;> try (exfalso; omega)) | fail)
    apply Yd; exact rfl; exact rfl
    rw [List.take_of_length_le (by omega), List.take_of_length_le (by omega)] at hi
    exact ⟨by rw [decide_eq_true hi], rfl⟩
open Go.RowKit Go.Eng Go.Nw Go.Rt
theorem Ymf {l : List Int} {A : Option Addr} {cap : Nat} {B : Nat} {w0 : World} {H : List HP} (k : Nat) (hr : Rd B w0 H A (l.flatMap numF)) (hc : l.length ≤ cap) : Rd B w0 H (subA A 0 cap 1) ((l.take k).flatMap numF) := by
  have h := Rd.sub (f := numF) (q := 1) (o := 0) (k := k) (fun _ => rfl) hr hc
  rwa [List.drop_zero] at h
theorem Ymg {l : List Int} {A : Option Addr} {cap : Nat} {B : Nat} {w0 : World} {H : List HP} (o : Nat) (hr : Rd B w0 H A (l.flatMap numF)) (hc : l.length ≤ cap) : Rd B w0 H (subA A o cap 1) ((l.drop o).flatMap numF) := by
  have h := Rd.sub (f := numF) (q := 1) (o := o) (k := (l.drop o).length) (fun _ => rfl) hr hc
  rwa [List.take_length] at h
theorem Ybo {p : Nat → Bool} {k : Nat} (h : (List.range k).any p = false) (h2 : p k = false) : (List.range (k + 1)).any p = false := by
  rw [QC, h, h2]; rfl
theorem Ydy {p : Nat → Bool} {k n : Nat} (hk : k < n) (h : p k = true) : (List.range n).any p = true := List.any_eq_true.2 ⟨k, List.mem_range.2 hk, h⟩
set_option maxHeartbeats 1000000 in
theorem Yfe (n : NetM) (s t : Int) (r : List Int) {A : Option Addr} {cap B : Nat} {w0 : World} {H : List HP} {w : World} (hin : n.In B w0 H) (hck : YE n.net = 0) (hr : Rd B w0 H A (r.flatMap numF)) (hlen : r.length ≤ 9223372036854775807) (hcap : r.length ≤ cap) (hw : St B w0 H w) :
    Calls Tryz.prog 206 [n.val, .int .i64 s, .int .i64 t, .slice A r.length cap].toArray w (Post B w0 fun v K => v = .int .i64 (QV n.net s t r) ∧ K = H) := by
  refine Yc Tryz.func206 Tryz.ntmps206 rfl rfl hw ?_
  (apply Zx; apply XH; apply Xv; exact rfl; exact rfl; intro g)
  have hnm : netB g n ∈ netB g n :: H := List.mem_cons_self
  unfold QV
  by_cases h1 : r.length < 2
  · rw [if_pos h1]
    repeat' (first | refine zgc ?_ | (refine zge ?_ ?_ <;> intro _ <;> try (exfalso; omega)) | fail)
    (repeat apply Yp); apply Yd; exact rfl; exact rfl
    exact ⟨rfl, rfl⟩
  rw [if_neg h1]
  by_cases h2 : 9 < r.length
  · rw [if_pos h2]
    repeat' (first | refine zgc ?_ | (refine zge ?_ ?_ <;> intro _ <;> try (exfalso; omega)) | fail)
    (repeat apply Yp); apply Yd; exact rfl; exact rfl
    exact ⟨rfl, rfl⟩
  rw [if_neg h2]
  have hoff := fun {w : World} (hw : St B w0 (netB g n :: H) w) => Wm (fun a : Int => Value.int .i64 a) (offE n.net) r 245 [.pointer (some ⟨g, 0, none⟩)] Yl4 hlen (cap := cap) (hr.cons) (fun a _ w hw => YdW n a g hnm hw) hw
  obtain ⟨b3, h3⟩ : ∃ b, r.any (offE n.net) = b := ⟨_, rfl⟩
  rw [h3] at hoff ⊢
  cases b3 with
  | true =>
    rw [if_pos rfl]
    repeat' (first | ((first | apply Ya YbF | apply Yb YbF); exact za; exact rfl; exact fun _ hw => (hoff hw)) | (apply zg29; (apply Yq; exact za ; exact rfl)) | refine zgc ?_ | (refine zge ?_ ?_ <;> intro _ <;> try (exfalso; omega)) | fail)
    (repeat apply Yp); apply Yd; exact rfl; exact rfl
    exact ⟨rfl, rfl⟩
  | false =>
    rw [if_neg (by decide)]
    have hg0 := Jm (l := r) (i := 0) (by omega)
    have hg1 := Jm (l := r) (i := r.length - 1) (by omega)
    have hgi : ((r.length : Int) - 1).toNat = r.length - 1 := by omega
    rw [← hgi] at hg1
    by_cases h4 : r.getD 0 0 ≠ s ∨ r.getD (r.length - 1) 0 ≠ t
    · rw [if_pos h4]
      rw [← hgi] at h4
      repeat' (first | ((first | apply Ya YbF | apply Yb YbF); exact za; exact rfl; exact fun _ hw => (hoff hw)) | (apply zg29; (apply Yq; exact za ; exact rfl)) | refine zgd ?_ | (refine zge ?_ ?_ <;> intro _ <;> try (exfalso; omega)) | fail)
      all_goals first
        | ((repeat apply Yp); apply Yd; exact rfl; exact rfl; exact ⟨rfl, rfl⟩)
        | skip
      done
    rw [if_neg h4]
    rw [← hgi] at h4
    repeat' (first | ((first | apply Ya YbF | apply Yb YbF); exact za; exact rfl; exact fun _ hw => (hoff hw)) | (apply zg29; (apply Yq; exact za ; exact rfl)) | refine zgd ?_ | (refine zge ?_ ?_ <;> intro _ <;> try (exfalso; omega)) | fail)
    refine Yl (fun (k : Nat) => [(43, .int .i64 k), (42, .int .i64 r.length), (41, .slice A r.length cap), (3, .slice A r.length cap), (4, .pointer (some ⟨g, 0, none⟩))]) (fun _ => netB g n :: H) (fun k => k ≤ r.length ∧ ((List.range k).any fun i => (r.take i).contains (r.getD i 0)) = false) (fun k => r.length - k) 0 ⟨Nat.zero_le _, rfl⟩ ?_ (fun w hw => hw) ?_
    · exact zu
    rintro k ⟨hk, hi⟩ K hK
    by_cases hlt : k < r.length
    · have hgk := Jm (l := r) (i := k) hlt
      obtain ⟨b, hb⟩ : ∃ b, (r.take k).contains (r.getD k 0) = b := ⟨_, rfl⟩
      have hbm : decide (r.getD k 0 ∈ r.take k) = b := by rw [← hb]; simp
      have hcon := fun {w : World} (hw : St B w0 (netB g n :: H) w) => QN (r.take k) (r.getD k 0) (by rw [List.length_take]; omega) (cap := cap) (Ymf k (hr.cons (X := netB g n)) hcap) hw
      rw [hbm] at hcon
      cases b with
      | true =>
        repeat' (first | (apply Zd T (l := r) (n' := (r.take k).length); exact rfl; exact rfl; exact rfl; exact rfl; omega; exact hcap; (simp; omega)) | ((first | apply Ya Ygi | apply Yb Ygi); exact za; exact rfl; exact fun _ hw => (hcon hw)) | refine zgd ?_ | (refine zge ?_ ?_ <;> intro _ <;> try (exfalso; omega)) | fail)
        (repeat apply Yp); apply Yd; exact rfl; exact rfl
        have htw : U8 r = true := Ydy hlt hb
        exact ⟨by rw [if_pos htw], rfl⟩
      | false =>
        repeat' (first | (apply Zd T (l := r) (n' := (r.take k).length); exact rfl; exact rfl; exact rfl; exact rfl; omega; exact hcap; (simp; omega)) | ((first | apply Ya Ygi | apply Yb Ygi); exact za; exact rfl; exact fun _ hw => (hcon hw)) | refine zgd ?_ | (refine zge ?_ ?_ <;> intro _ <;> try (exfalso; omega)) | fail)
        apply hK (k + 1)
        · exact ⟨by omega, Ybo hi hb⟩
        · omega
        · exact zu
        · exact fun w hw => hw
    obtain rfl : k = r.length := by omega
    clear hK
    have htw : U8 r = false := hi
    rw [if_neg (by rw [htw]; decide)]
    have hdl : (r.drop 1).length = r.length - 1 := List.length_drop
    repeat' (first | (apply Jz T (n' := (r.drop 1).length); exact rfl; exact rfl; exact rfl; exact rfl; omega; (rw [hdl]; rfl)) | refine zgc ?_ | (refine zge ?_ ?_ <;> intro _ <;> try (exfalso; omega)) | fail)
    refine Yl (fun (k : Nat) => [(57, .int .i64 k), (56, .int .i64 (r.drop 1).length), (55, .slice (subA A 1 cap 1) (r.drop 1).length (cap - 1)), (3, .slice A r.length cap), (4, .pointer (some ⟨g, 0, none⟩))]) (fun _ => netB g n :: H) (fun k => k ≤ (r.drop 1).length ∧ ((List.range k).any fun i => !Xa n.net (r.getD i 0) (r.getD (i + 1) 0)) = false) (fun k => (r.drop 1).length - k) 0 ⟨Nat.zero_le _, rfl⟩ ?_ (fun w hw => hw) ?_
    · exact zu
    rintro k ⟨hk, hi⟩ K hK
    have hr1 : Rd B w0 (netB g n :: H) (subA A 1 cap 1) ((r.drop 1).flatMap numF) := Ymg 1 (hr.cons) hcap
    have hr0 : Rd B w0 (netB g n :: H) A (r.flatMap numF) := hr.cons
    by_cases hlt : k < (r.drop 1).length
    · have hgk := Jm (l := r) (i := k) (by omega)
      have hgk1 : (r.drop 1)[k]? = some (r.getD (k + 1) 0) := by
        rw [List.getElem?_drop, Nat.add_comm]; exact Jm (by omega)
      obtain ⟨b, hb⟩ : ∃ b, Xa n.net (r.getD k 0) (r.getD (k + 1) 0) = b := ⟨_, rfl⟩
      have hus := fun {w : World} (hw : St B w0 (netB g n :: H) w) => Om n (Zh n.net (r.getD k 0) (r.getD (k + 1) 0)) (hin.cons (X := netB g n)) hw
      rw [Yc2 hck, hb] at hus
      cases b with
      | true =>
        repeat' (first | ((first | apply Ya en95 | apply Yb en95); exact za; exact rfl; exact fun _ hw => (XZ n _ _ (hin.cons) hw)) | ((first | apply Ya JC | apply Yb JC); exact za; exact rfl; exact fun _ hw => (hus hw)) | (apply zg28; refine zs84 ?_) | refine zgd ?_ | (refine zge ?_ ?_ <;> intro _ <;> try (exfalso; omega)) | fail)
        apply hK (k + 1)
        · exact ⟨by omega, Ybo hi (by rw [hb]; rfl)⟩
        · omega
        · exact zu
        · exact fun w hw => hw
      | false =>
        repeat' (first | ((first | apply Ya en95 | apply Yb en95); exact za; exact rfl; exact fun _ hw => (XZ n _ _ (hin.cons) hw)) | ((first | apply Ya JC | apply Yb JC); exact za; exact rfl; exact fun _ hw => (hus hw)) | (apply zg28; refine zs84 ?_) | refine zgd ?_ | (refine zge ?_ ?_ <;> intro _ <;> try (exfalso; omega)) | fail)
        (repeat apply Yp); apply Yd; exact rfl; exact rfl
        have hbr : Uw n.net r = true := Ydy (k := k) (by omega) (by rw [hb]; rfl)
        exact ⟨by rw [if_pos hbr], rfl⟩
    · obtain rfl : k = (r.drop 1).length := by omega
      clear hK
      repeat' (first | refine zgc ?_ | (refine zge ?_ ?_ <;> intro _ <;> try (exfalso; omega)) | fail)
      (repeat apply Yp); apply Yd; exact rfl; exact rfl
      have hbr : Uw n.net r = false := by rw [hdl] at hi; exact hi
      exact ⟨by rw [if_neg (by rw [hbr]; decide)], rfl⟩
open Go.RowKit Go.Eng Go.Nw Go.Rt
theorem Uy {n : Net} {a b : Int} (h : Xa n a b = true) : 0 ≤ YB n a b := by
  unfold Xa at h
  simp only [Bool.and_eq_true, decide_eq_true_eq] at h
  exact h.1
theorem YdX {n : Net} {s t : Int} {r : List Int} (h : QV n s t r = 0) : (2 ≤ r.length ∧ r.length ≤ 9) ∧ r.any (offE n) = false ∧ (r.getD 0 0 = s ∧ r.getD (r.length - 1) 0 = t) ∧ U8 r = false ∧ Uw n r = false := by
  unfold QV at h
  by_cases h1 : r.length < 2
  · rw [if_pos h1] at h; cases h
  rw [if_neg h1] at h
  by_cases h2 : 9 < r.length
  · rw [if_pos h2] at h; cases h
  rw [if_neg h2] at h
  cases h3 : r.any (offE n) with
  | true => rw [h3, if_pos rfl] at h; cases h
  | false =>
    rw [h3, if_neg (by decide)] at h
    by_cases h4 : r.getD 0 0 ≠ s ∨ r.getD (r.length - 1) 0 ≠ t
    · rw [if_pos h4] at h; cases h
    rw [if_neg h4] at h
    cases h5 : U8 r with
    | true => rw [h5, if_pos rfl] at h; cases h
    | false =>
      rw [h5, if_neg (by decide)] at h
      cases h6 : Uw n r with
      | true => rw [h6, if_pos rfl] at h; cases h
      | false => exact ⟨by omega, rfl, by omega, rfl, rfl⟩
theorem Qn (n : NetM) (s t : Int) (r : List Int) {A : Option Addr} {cap B : Nat} {w0 : World} {H : List HP} {w : World} (hin : n.In B w0 H) (hr : Rd B w0 H A (r.flatMap numF)) (hlen : r.length ≤ 9223372036854775807) (hcap : r.length ≤ cap) (hw : St B w0 H w) :
    Calls Tryz.prog 148 [n.val, .int .i64 s, .int .i64 t, .slice A r.length cap].toArray w (Post B w0 fun v K => v = .int .i64 (XQ n.net s t r) ∧ K = H) := by
  refine Yc Tryz.func148 Tryz.ntmps148 rfl rfl hw ?_
  unfold XQ
  by_cases h0 : Wo n.net s t = 0
  · have hck : YE n.net = 0 := by
      unfold Wo at h0
      by_cases h : YE n.net = 0
      · exact h
      · rw [if_pos h] at h0; cases h0
    have hen := fun {H : List HP} {w : World} (hin : n.In B w0 H) (hw : St B w0 H w) => YbG n s t hin hw
    rw [h0] at hen
    rw [if_neg (fun h => h h0)]
    repeat' (first | ((first | apply Ya Ygf | apply Yb Ygf); exact za; exact rfl; exact fun _ hw => (hen hin.cons hw)) | ((first | apply Ya YkL | apply Yb YkL); exact za; exact rfl; exact fun _ hw => (Yfe n s t r hin.cons hck hr.cons hlen hcap hw)) | refine zgc ?_ | (refine zge ?_ ?_ <;> intro _ <;> try (exfalso; omega)) | (refine zgh ?_; intro _) | fail)
    (repeat apply Yp); apply Yd; exact rfl; exact rfl; exact ⟨rfl, rfl⟩
  · rw [if_pos h0]
    repeat' (first | ((first | apply Ya Ygf | apply Yb Ygf); exact za; exact rfl; exact fun _ hw => (YbG n s t hin.cons hw)) | refine zgc ?_ | (refine zge ?_ ?_ <;> intro _ <;> try (exfalso; omega)) | (refine zgh ?_; intro _) | fail)
    (repeat apply Yp); apply Yd; exact rfl; exact rfl; exact ⟨rfl, rfl⟩
open Go.RowKit Go.Eng Go.Nw Go.Rt
structure WayM where
  n : NetM
  s : SchM
  f : Flw
  A : Option Addr
  cap : Nat
  r : List Int
def WayM.val (x : WayM) : Value := .agg #[.int .i64 x.n.nodes, .slice x.n.pA x.n.rows.length x.n.pcap, .int .i64 x.n.noise, .int .i64 x.n.thr, .slice x.n.lA x.n.links.length x.n.lcap, .slice x.n.mA x.n.margin.length x.n.mcap, .int .i64 x.s.len, .int .i64 x.s.off, .slice x.s.A x.s.cells.length x.s.cap, .int .i64 x.f.1, .int .i64 x.f.2.1, .int .i64 x.f.2.2.1, .int .i64 x.f.2.2.2.1, .int .i64 x.f.2.2.2.2.1, .int .i64 x.f.2.2.2.2.2, .slice x.A x.r.length x.cap, .int .i64 0]
abbrev wayB (g : Nat) (x : WayM) : HP := blk g (.cells #[.int .i64 x.n.nodes, .slice x.n.pA x.n.rows.length x.n.pcap, .int .i64 x.n.noise, .int .i64 x.n.thr, .slice x.n.lA x.n.links.length x.n.lcap, .slice x.n.mA x.n.margin.length x.n.mcap, .int .i64 x.s.len, .int .i64 x.s.off, .slice x.s.A x.s.cells.length x.s.cap, .int .i64 x.f.1, .int .i64 x.f.2.1, .int .i64 x.f.2.2.1, .int .i64 x.f.2.2.2.1, .int .i64 x.f.2.2.2.2.1, .int .i64 x.f.2.2.2.2.2, .slice x.A x.r.length x.cap, .int .i64 0] 151 (0, 0))
structure WayM.In (B : Nat) (w0 : World) (H : List HP) (x : WayM) : Prop where
  n : x.n.In B w0 H
  s : Rd B w0 H x.s.A (x.s.cells.flatMap celF)
  r : Rd B w0 H x.A (x.r.flatMap numF)
  sl : x.s.cells.length ≤ 1000000000000
  rl : x.r.length ≤ 1000000000000
  rc : x.r.length ≤ x.cap
theorem WayM.In.cons {B : Nat} {w0 : World} {H : List HP} {x : WayM} {X : HP} (h : x.In B w0 H) : x.In B w0 (X :: H) := ⟨h.n.cons, h.s.cons, h.r.cons, h.sl, h.rl, h.rc⟩
theorem WayM.In.mono {B : Nat} {w0 : World} {H H' : List HP} {x : WayM} (h : x.In B w0 H) (hH : ∀ w, St B w0 H' w → St B w0 H w) : x.In B w0 H' := ⟨h.n.mono hH, h.s.mono hH, h.r.mono hH, h.sl, h.rl, h.rc⟩
theorem Yg1 {nodes : Int} {f : Flw} (h : 2 ≤ nodes ∧ nodes ≤ 32) : ((YO nodes [f]).2 = 0 ↔ YW nodes f = 0) := by
  unfold YO
  rw [if_neg (by omega), if_neg (by simp)]
  have e : Y3 nodes [f] 0 = YW nodes f := by
    unfold Y3
    show (if YW nodes f ≠ 0 then YW nodes f else if 0 < 0 ∧ _ then 5 else 0) = _
    by_cases h : YW nodes f = 0
    · rw [if_neg (fun e => e h), if_neg (by omega), h]
    · rw [if_pos h]
  show (YF _ 1 0).2 = 0 ↔ _
  unfold YF YF
  rw [e]
  split
  · rename_i h; exact ⟨fun _ => h, fun _ => rfl⟩
  · rename_i h; exact ⟨fun h2 => absurd h2 h, fun h2 => absurd h2 h⟩
set_option maxRecDepth 10000 in
set_option maxHeartbeats 4000000 in
theorem YeP (x : WayM) {B : Nat} {w0 : World} {H : List HP} {w : World} (ht : TabsB B w0) (hi : x.In B w0 H) (hw : St B w0 H w) :
    Calls Tryz.prog 85 [x.val].toArray w (Post B w0 fun v K => v = .int .i64 (wayE x.n.net x.s.sch x.f x.r) ∧ K = H) := by
  refine Yc Tryz.func85 Tryz.ntmps85 rfl rfl hw ?_
  have p1 := fun {H' : List HP} {w : World} (hin : x.n.In B w0 H') (hw : St B w0 H' w) => YS x.n hin hw
  have p2 := fun {H' : List HP} {w : World} (hr : Rd B w0 H' x.s.A (x.s.cells.flatMap celF)) (hw : St B w0 H' w) => Yaw x.s ht hr hi.sl hw
  have p3 := fun {g cap : Nat} {H' : List HP} {w : World} (hm : blk g (.cells #[.int .i64 x.f.1, .int .i64 x.f.2.1, .int .i64 x.f.2.2.1, .int .i64 x.f.2.2.2.1, .int .i64 x.f.2.2.2.2.1, .int .i64 x.f.2.2.2.2.2] 68 (0, 0)) ∈ H') (hw : St B w0 H' w) => YT x.n.nodes [x.f] (Nat.le_of_ble_eq_true rfl) (A := some ⟨g, 0, none⟩) (cap := cap) (show Rd B w0 H' _ ([x.f].flatMap flwF) from Rd.blk hm) hw
  have p4 := fun {H' : List HP} {w : World} (hin : x.n.In B w0 H') (hr : Rd B w0 H' x.A (x.r.flatMap numF)) (hw : St B w0 H' w) => Qn x.n x.f.2.1 x.f.2.2.1 x.r (cap := x.cap) hin hr (Nat.le_trans hi.rl (by decide)) hi.rc hw
  have hn := hi.n
  have hs := hi.s
  have hr := hi.r
  have hfo := @Yg1 x.n.net.nodes x.f
  have hok := fun h : YE x.n.net = 0 => (Xe h).n0
  have hok1 := fun h : YE x.n.net = 0 => (Xe h).n1
  have hpe : (ZY x.s.sch).2 = 0 ↔ Y6 x.s.sch = true := by
    unfold ZY
    cases hf : Y6 x.s.sch with
    | true => rw [if_neg (by decide)]; simp
    | false => rw [if_pos rfl]; simp
  unfold wayE
  rw [show x.n.net.nodes = x.n.nodes from rfl] at *
  rw [show x.s.sch.len = x.s.len from rfl] at *
  obtain ⟨c, hc⟩ : ∃ c, YE x.n.net = c := ⟨_, rfl⟩
  obtain ⟨⟨t, e⟩, he⟩ : ∃ e, ZY x.s.sch = e := ⟨_, rfl⟩
  obtain ⟨⟨i, a⟩, ha⟩ : ∃ a, YO x.n.nodes [x.f] = a := ⟨_, rfl⟩
  obtain ⟨k, hk⟩ : ∃ k, XQ x.n.net x.f.2.1 x.f.2.2.1 x.r = k := ⟨_, rfl⟩
  rw [hc] at p1 hok hok1 ⊢
  rw [he] at p2 hpe
  rw [ha] at p3 hfo
  rw [hk] at p4 ⊢
  dsimp only at p2 p3 hpe hfo
  unfold WayM.val
  by_cases h1 : c = 0
  rotate_left
  · rw [if_pos (.inl h1)]
    repeat' (first | ((first | apply Ya en50 | apply Yb en50); exact za; exact rfl; exact fun _ hw => (p1 hn.cons hw)) | (apply YV T; exact rfl; exact zm; exact rfl; exact zv; exact rfl; exact rfl) | refine zgb ?_ | (refine zge ?_ ?_ <;> intro _ <;> try (exfalso; omega)) | (refine zgh ?_; intro _) | fail)
    apply Yi H
    · exact zk
    apply Yd; exact rfl; exact rfl; exact ⟨rfl, rfl⟩
  subst h1
  have hfo := hfo ⟨hok rfl, hok1 rfl⟩
  by_cases h2 : e = 0
  rotate_left
  · rw [if_pos (.inr (.inl (by cases hf : Y6 x.s.sch with | false => rfl | true => exact absurd (hpe.2 hf) h2)))]
    repeat' (first | ((first | apply Ya en50 | apply Yb en50); exact za; exact rfl; exact fun _ hw => (p1 hn.cons hw)) | ((first | apply Ya en47 | apply Yb en47); exact za; exact rfl; exact fun _ hw => (p2 hs.cons hw)) | (apply YV T; exact rfl; exact zm; exact rfl; exact zv; exact rfl; exact rfl) | refine zgd ?_ | (refine zge ?_ ?_ <;> intro _ <;> try (exfalso; omega)) | (refine zgh ?_; intro _) | fail)
    apply Yi H
    · exact zk
    apply Yd; exact rfl; exact rfl; exact ⟨rfl, rfl⟩
  subst h2
  have hfe := hpe.1 rfl
  by_cases h3 : a = 0
  rotate_left
  · rw [if_pos (.inr (.inr (fun h => h3 (hfo.2 h))))]
    repeat' (first | ((first | apply Ya en50 | apply Yb en50); exact za; exact rfl; exact fun _ hw => (p1 hn.cons hw)) | ((first | apply Ya en47 | apply Yb en47); exact za; exact rfl; exact fun _ hw => (p2 hs.cons hw)) | ((first | apply Ya en51 | apply Yb en51); exact za; exact rfl; exact fun _ hw => (p3 zm hw)) | (apply YV T; exact rfl; exact zm; exact rfl; exact zv; exact rfl; exact rfl) | refine zgd ?_ | (refine zge ?_ ?_ <;> intro _ <;> try (exfalso; omega)) | (refine zgh ?_; intro _) | fail)
    apply Yi H
    · exact zk
    apply Yd; exact rfl; exact rfl; exact ⟨rfl, rfl⟩
  subst h3
  have hfz := hfo.1 rfl
  rw [if_neg (by rintro (h | h | h); exact h rfl; rw [hfe] at h; cases h; exact h hfz)]
  have hp1 : 1 ≤ x.f.2.2.2.1 := by
    unfold YW at hfz
    split at hfz
    · cases hfz
    split at hfz
    · cases hfz
    omega
  have hsz : 1 ≤ x.s.len ∧ x.s.len ≤ 512 := by
    have := of_decide_eq_true (Wq.1 hfe).sized
    exact ⟨this.1, this.2.1⟩
  rw [Int.tmod_eq_emod_of_nonneg (show 0 ≤ x.s.len by omega)]
  by_cases h4 : x.s.len % x.f.2.2.2.1 = 0
  rotate_left
  · rw [if_pos h4]
    repeat' (first | ((first | apply Ya en50 | apply Yb en50); exact za; exact rfl; exact fun _ hw => (p1 hn.cons hw)) | ((first | apply Ya en47 | apply Yb en47); exact za; exact rfl; exact fun _ hw => (p2 hs.cons hw)) | ((first | apply Ya en51 | apply Yb en51); exact za; exact rfl; exact fun _ hw => (p3 zm hw)) | (apply YV T; exact rfl; exact zm; exact rfl; exact zv; exact rfl; exact rfl) | refine zgd ?_ | (refine zge ?_ ?_ <;> intro _ <;> try (exfalso; omega)) | (refine zgh ?_; intro _) | fail)
    apply Yi H
    · exact zk
    apply Yd; exact rfl; exact rfl; exact ⟨rfl, rfl⟩
  rw [if_neg (fun h => h h4)]
  repeat' (first | ((first | apply Ya en50 | apply Yb en50); exact za; exact rfl; exact fun _ hw => (p1 hn.cons hw)) | ((first | apply Ya en47 | apply Yb en47); exact za; exact rfl; exact fun _ hw => (p2 hs.cons hw)) | ((first | apply Ya en51 | apply Yb en51); exact za; exact rfl; exact fun _ hw => (p3 zm hw)) | ((first | apply Ya Ybz | apply Yb Ybz); exact za; exact rfl; exact fun _ hw => (p4 hn.cons.cons hr.cons.cons hw)) | (apply YV T; exact rfl; exact zm; exact rfl; exact zv; exact rfl; exact rfl) | refine zgd ?_ | (refine zge ?_ ?_ <;> intro _ <;> try (exfalso; omega)) | (refine zgh ?_; intro _) | fail)
  apply Yi H
  · exact zk
  apply Yd; exact rfl; exact rfl; exact ⟨rfl, rfl⟩
open Go.RowKit Go.Eng Go.Nw Go.Rt
theorem Yc4 {n : Net} {s : Sch} {f : Flw} {r : List Int} (h : wayE n s f r = 0) : YE n = 0 ∧ Y6 s = true ∧ YW n.nodes f = 0 ∧ s.len.tmod f.2.2.2.1 = 0 ∧ XQ n f.2.1 f.2.2.1 r = 0 := by
  unfold wayE at h
  split at h
  · cases h
  rename_i h1
  split at h
  · cases h
  rename_i h2
  refine ⟨Decidable.byContradiction fun e => h1 (.inl e), ?_, Decidable.byContradiction fun e => h1 (.inr (.inr e)), Decidable.not_not.1 h2, h⟩
  cases hf : Y6 s with
  | true => rfl
  | false => exact absurd (.inr (.inl hf)) h1
theorem WA {n : Net} {s : Sch} {f : Flw} {r : List Int} (h : (YP n s f r).2 = 0) : wayE n s f r = 0 ∧ ∃ b, V0 n s f r = some b ∧ YP n s f r = (b, 0) := by
  unfold YP at h ⊢
  by_cases h1 : wayE n s f r = 0
  · rw [if_neg (fun e => e h1)] at h ⊢
    cases hb : V0 n s f r with
    | none => rw [hb] at h; cases h
    | some b => exact ⟨h1, b, rfl, rfl⟩
  · rw [if_pos h1] at h
    exact absurd h h1
theorem Oa {q : List Rqs} {i : Nat} (h : i < q.length) : q[i]? = some (rqAt q i) := by
  unfold rqAt; rw [List.getD_eq_getElem?_getD, List.getElem?_eq_getElem h]; rfl
theorem Yez {q : List Rqs} {i : Nat} (h : i < q.length) : rqAt q i ∈ q := List.mem_of_getElem? (Oa h)
theorem YiO {q : List Rqs} {x : Rqs} (h : x ∈ q) : ∃ i, i < q.length ∧ rqAt q i = x := by
  obtain ⟨i, hi⟩ := List.mem_iff_getElem?.1 h
  have hl := (List.getElem?_eq_some_iff.1 hi).1
  exact ⟨i, hl, Option.some.inj ((Oa hl).symm.trans hi)⟩
theorem Ob {l : List (List Int)} {i : Nat} (h : i < l.length) : l[i]? = some (rtAt l i) := by
  unfold rtAt; rw [List.getD_eq_getElem?_getD, List.getElem?_eq_getElem h]; rfl
theorem Yjb {l : List (List Int)} {i : Nat} (h : i < l.length) : rtAt l i ∈ l := List.mem_of_getElem? (Ob h)
def Ycd (n : Net) (s : Sch) (x : Rqs) : Bool := decide (x.2.length = 1 ∨ x.2.length = 2 ∧ rtAt x.2 0 ≠ rtAt x.2 1) && !(ZO n s x)
theorem Ygp {n : Net} {s : Sch} {x : Rqs} (h : ZO n s x = false) {r : List Int} (hr : r ∈ x.2) : (YP n s x.1 r).2 = 0 ∧ (YP n s x.1 r).1.1 ≤ x.1.2.2.2.2.2 := by
  unfold ZO at h
  rw [List.any_eq_false] at h
  have := h r hr
  unfold badR at this
  rw [decide_eq_true_eq] at this
  omega
theorem Ylk {n : Net} {s : Sch} {x : Rqs} (h : Ycd n s x = true) : rtsE n x = 0 := by
  unfold Ycd at h
  rw [Bool.and_eq_true, decide_eq_true_eq] at h
  have hl := h.2
  simp only [Bool.not_eq_true'] at hl
  have hc : (YF (fun k => XQ n x.1.2.1 x.1.2.2.1 (rtAt x.2 k)) x.2.length 0).2 = 0 := Y2.2 fun k _ hk =>
    (Yc4 (WA (Ygp hl (Yjb (l := x.2) (i := k) (by omega))).1).1).2.2.2.2
  unfold rtsE
  rw [if_neg (by omega), if_neg (by omega), if_neg (fun e => e hc)]
  rw [if_neg]
  rintro ⟨h1, h2⟩
  rcases h.1 with h3 | h3
  · omega
  · exact h3.2 h2
theorem Ygx {n : Net} {x : Rqs} (h : rtsE n x = 0) : x.2.length = 1 ∨ x.2.length = 2 ∧ rtAt x.2 0 ≠ rtAt x.2 1 := by
  unfold rtsE at h
  split at h
  · cases h
  split at h
  · cases h
  split at h
  · exact absurd h (by assumption)
  split at h
  · cases h
  rename_i h1 h2 h3 h4
  by_cases h5 : x.2.length = 1
  · exact .inl h5
  · exact .inr ⟨by omega, fun e => h4 ⟨by omega, e⟩⟩
theorem YdI {n : Net} {q : List Rqs} {s : Sch} : (Zt n q s).2.2 = 0 ↔ (schE n (Ua q) s).2 = 0 ∧ ∀ x ∈ q, Ycd n s x = true := by
  constructor
  · intro h
    unfold Zt at h
    by_cases h1 : (rqsE n q).2 = 0
    rotate_left
    · rw [if_pos h1] at h; exact absurd h h1
    rw [if_neg (fun e => e h1)] at h
    by_cases h2 : (schE n (Ua q) s).2 = 0
    rotate_left
    · rw [if_pos h2] at h; cases h
    rw [if_neg (fun e => e h2)] at h
    by_cases h3 : (YF (fun i => if ZO n s (rqAt q i) = true then 15 else 0) q.length 0).2 = 0
    rotate_left
    · rw [if_pos h3] at h; exact absurd h h3
    refine ⟨h2, fun x hx => ?_⟩
    obtain ⟨i, hi, rfl⟩ := YiO hx
    have h4 := Y2.1 h3 i (Nat.zero_le _) (by omega)
    have hl : ZO n s (rqAt q i) = false := by
      cases hb : ZO n s (rqAt q i) with
      | false => rfl
      | true => simp only [hb, if_pos] at h4; cases h4
    have h5 : rtsE n (rqAt q i) = 0 := by
      have hw := WK (Yc3.1 h2).whole
      unfold rqsE at h1
      rw [if_neg (fun e => e hw.1), if_neg (fun e => e hw.2.1)] at h1
      exact Y2.1 h1 i (Nat.zero_le _) (by omega)
    unfold Ycd
    rw [hl, decide_eq_true (Ygx h5)]; rfl
  · rintro ⟨h2, h3⟩
    have hw := WK (Yc3.1 h2).whole
    have h1 : (rqsE n q).2 = 0 := by
      unfold rqsE
      rw [if_neg (fun e => e hw.1), if_neg (fun e => e hw.2.1)]
      exact Y2.2 fun i _ hi => Ylk (h3 _ (Yez (by omega)))
    have h4 : (YF (fun i => if ZO n s (rqAt q i) = true then 15 else 0) q.length 0).2 = 0 := Y2.2 fun i _ hi => by
      have := h3 _ (Yez (q := q) (i := i) (by omega))
      unfold Ycd at this
      rw [Bool.and_eq_true] at this
      have hl := this.2
      simp only [Bool.not_eq_true'] at hl
      rw [if_neg (by rw [hl]; decide)]
    unfold Zt
    rw [if_neg (fun e => e h1), if_neg (fun e => e h2), if_neg (fun e => e h4)]
theorem YjS {n : Net} {q : List Rqs} {s : Sch} (h : (Zt n q s).2.2 = 0) : Zt n q s = (q.map (clmE n s), (-1, 0)) := by
  unfold Zt at h ⊢
  split
  · rename_i h1; rw [if_pos h1] at h; exact absurd h h1
  rename_i h1
  rw [if_neg h1] at h
  split
  · rename_i h2; rw [if_pos h2] at h; cases h
  rename_i h2
  rw [if_neg h2] at h
  split
  · rename_i h3; rw [if_pos h3] at h; exact absurd h h3
  rfl
open Go.RowKit Go.Eng Go.Nw Go.Rt
structure VY (x : WayM) : Prop where
  ck : YE x.n.net = 0
  len : 2 ≤ x.r.length ∧ x.r.length ≤ 9
  good : ∀ i, i + 1 < x.r.length → Xa x.n.net (x.r.getD i 0) (x.r.getD (i + 1) 0) = true
  per : 1 ≤ x.f.2.2.2.1 ∧ x.f.2.2.2.1 ≤ 512
  ph : 0 ≤ x.f.2.2.2.2.1 ∧ x.f.2.2.2.2.1 < x.f.2.2.2.1
  slen : 1 ≤ x.s.len ∧ x.s.len ≤ 512
  few : x.s.cells.length ≤ 512
theorem Vd {n : Net} {s t : Int} {r : List Int} (h : XQ n s t r = 0) : YE n = 0 ∧ (2 ≤ r.length ∧ r.length ≤ 9) ∧ ∀ i, i + 1 < r.length → Xa n (r.getD i 0) (r.getD (i + 1) 0) = true := by
  unfold XQ at h
  by_cases h0 : Wo n s t = 0
  rotate_left
  · rw [if_pos h0] at h; exact absurd h h0
  rw [if_neg (fun e => e h0)] at h
  have hck : YE n = 0 := by
    unfold Wo at h0
    by_cases h1 : YE n = 0
    · exact h1
    · rw [if_pos h1] at h0; cases h0
  obtain ⟨h1, _, _, _, h2⟩ := YdX h
  refine ⟨hck, h1, fun i hi => ?_⟩
  unfold Uw at h2
  rw [List.any_eq_false] at h2
  have := h2 i (List.mem_range.2 (by omega))
  simpa using this
theorem YgB {x : WayM} (h : wayE x.n.net x.s.sch x.f x.r = 0) : VY x := by
  obtain ⟨_, h2, h3, _, h5⟩ := Yc4 h
  obtain ⟨k1, k2, k3⟩ := Vd h5
  have hfr := Wq.1 h2
  have hsz := of_decide_eq_true hfr.sized
  unfold YW at h3
  split at h3
  · cases h3
  split at h3
  · cases h3
  exact ⟨k1, k2, k3, by omega, by omega, ⟨hsz.1, hsz.2.1⟩, hfr.few⟩
def ZE (x : WayM) : List (List Value) := (YA x.n.net x.r).map fun l => [lkV l]
theorem U5 {n : Net} {r : List Int} {i : Nat} (h : i + 1 < r.length) : (YA n r)[i]? = some (X0 n r i) := by
  unfold YA
  rw [List.getElem?_map, List.getElem?_range (by omega)]; rfl
theorem Vp {n : Net} {r : List Int} : (YA n r).length = r.length - 1 := by unfold YA; simp
set_option maxRecDepth 10000 in
set_option maxHeartbeats 4000000 in
theorem OH (x : WayM) (g : Nat) (hok : VY x) {B : Nat} {w0 : World} {HI : List HP} (hi : x.In B w0 HI) (hm : wayB g x ∈ HI) :
    Ybk Tryz.prog 285 [.pointer (some ⟨g, 0, none⟩)] (ZE x) B w0 HI := by
  refine Yc7 Tryz.func285 Tryz.ntmps285 rfl rfl ?_
  intro l SS X hy L0 h0
  have hck := hok.ck
  have hlen := hok.len
  have p1 := fun {H' : List HP} {w : World} (a b : Int) (hin : x.n.In B w0 H') (hw : St B w0 H' w) => XZ x.n a b hin hw
  have hix : ∀ a b : Int, Zh x.n.net a b = YB x.n.net a b := fun a b => by unfold Zh; rw [if_neg (fun e => e hck)]
  unfold wayB at hm
  repeat' (first | refine zgb ?_ | fail)
  refine Yl (fun (y : Nat × List HP) => [(3, .int .i64 (y.1 + 1 : Nat)), (0, .func (.yield l) #[] #[]), (1, .pointer (some ⟨g, 0, none⟩))]) (fun y => many y.2 :: HI) (fun y => y.1 + 1 ≤ x.r.length ∧ SS y.1 y.2) (fun y => x.r.length - 1 - y.1) (0, L0) ⟨by show 0 + 1 ≤ _; omega, h0⟩ ?_ (fun w hw => hw) ?_
  · exact zu
  rintro ⟨i, L⟩ ⟨hile, hS⟩ K hK
  dsimp only at hile hS ⊢
  by_cases hlt : i + 1 < x.r.length
  · have hg := hok.good i hlt
    have hf := Uy hg
    have hfl := ZJ hf
    have hlx : x.n.links[(YB x.n.net (x.r.getD i 0) (x.r.getD (i + 1) 0)).toNat]? = some (lnk x.n.net (YB x.n.net (x.r.getD i 0) (x.r.getD (i + 1) 0)).toNat) := Yee x.n.net hfl
    have hla : X0 x.n.net x.r i = lnk x.n.net (YB x.n.net (x.r.getD i 0) (x.r.getD (i + 1) 0)).toNat := rfl
    have hg0 := Jm (l := x.r) (i := i) (by omega)
    have hg1 := Jm (l := x.r) (i := i + 1) (by omega)
    have hgi : ((((i + 1 : Nat) : Int) - 1).toNat) = i := by omega
    have hgi1 : (((i + 1 : Nat) : Int).toNat) = i + 1 := by omega
    have hll : (YB x.n.net (x.r.getD i 0) (x.r.getD (i + 1) 0)).toNat < x.n.links.length := hfl
    have p2 := fun {H' : List HP} {w : World} (hin : x.n.In B w0 H') (hw : St B w0 H' w) => p1 (x.r.getD i 0) (x.r.getD (i + 1) 0) hin hw
    rw [hix] at p2
    have hx : (ZE x)[i]? = some [lkV (X0 x.n.net x.r i)] := by
      unfold ZE; rw [List.getElem?_map, U5 hlt]; rfl
    rw [hla] at hx
    obtain ⟨a, ha⟩ : ∃ a, x.r.getD i 0 = a := ⟨_, rfl⟩
    obtain ⟨b, hb⟩ : ∃ b, x.r.getD (i + 1) 0 = b := ⟨_, rfl⟩
    rw [ha] at hg0 p2 hlx hll hf hx
    rw [hb] at hg1 p2 hlx hll hf hx
    obtain ⟨z, hz⟩ : ∃ z, YB x.n.net a b = z := ⟨_, rfl⟩
    rw [hz] at p2 hlx hll hf hx
    obtain ⟨lk, hlk⟩ : ∃ k, lnk x.n.net z.toNat = k := ⟨_, rfl⟩
    rw [hlk] at hlx hx
    obtain ⟨R, hR1, hR2⟩ := YhF hm
    have hg0i : x.r[(((i + 1 : Nat) : Int) - 1).toNat]? = some a := by rw [hgi]; exact hg0
    have hg1i : x.r[((i + 1 : Nat) : Int).toNat]? = some b := by rw [hgi1]; exact hg1
    have hwb : ∀ w, St B w0 (many L :: (blk g (.cells #[.int .i64 x.n.nodes, .slice x.n.pA x.n.rows.length x.n.pcap, .int .i64 x.n.noise, .int .i64 x.n.thr, .slice x.n.lA x.n.links.length x.n.lcap, .slice x.n.mA x.n.margin.length x.n.mcap, .int .i64 x.s.len, .int .i64 x.s.off, .slice x.s.A x.s.cells.length x.s.cap, .int .i64 x.f.1, .int .i64 x.f.2.1, .int .i64 x.f.2.2.1, .int .i64 x.f.2.2.2.1, .int .i64 x.f.2.2.2.2.1, .int .i64 x.f.2.2.2.2.2, .slice x.A x.r.length x.cap, .int .i64 0] 151 (0, 0))) :: [many R]) w → St B w0 (many L :: HI) w := fun w hw => hw.perm (Perm.cons _ hR2)
    have hl0 : 0 ≤ lk.2.2 ∧ lk.2.2 ≤ 7 := by
      have h1 := (Xe hck).lk z.toNat hll
      rw [← hlk]; exact ⟨h1.l0, h1.l1⟩
    have hiK : x.In B w0 [wayB g x, many R] := hi.mono fun w hw => hw.perm hR2
    have hrr := hiK.r
    have hlr := hiK.n.lk
    unfold wayB at hiK hrr hlr
    refine VR (blk g (.cells #[.int .i64 x.n.nodes, .slice x.n.pA x.n.rows.length x.n.pcap, .int .i64 x.n.noise, .int .i64 x.n.thr, .slice x.n.lA x.n.links.length x.n.lcap, .slice x.n.mA x.n.margin.length x.n.mcap, .int .i64 x.s.len, .int .i64 x.s.off, .slice x.s.A x.s.cells.length x.s.cap, .int .i64 x.f.1, .int .i64 x.f.2.1, .int .i64 x.f.2.2.1, .int .i64 x.f.2.2.2.1, .int .i64 x.f.2.2.2.2.1, .int .i64 x.f.2.2.2.2.2, .slice x.A x.r.length x.cap, .int .i64 0] 151 (0, 0)) :: many L :: [many R]) (fun w hw => hw.perm ((Perm.cons _ hR1).trans (Perm.swap _ _ _))) ?_
    repeat' (first | refine zgb ?_ | (refine zge ?_ ?_ <;> intro _ <;> try (exfalso; omega)) | fail)
    apply Us (.n1 0 (.n1 1 (.n1 2 (.n1 3 (.n1 4 (.n1 5 (.n1 6 (.n1 7 (.n1 8 (.n1 9 (.n1 10 (.n1 11 (.n1 12 (.n1 13 (.n1 14 (.n1 15 (.n2 16 (.n1 17 (.n1 18 (.n1 19 .done))) 19 (.n1 16 (.n1 17 (.n1 18 .done)))))))))))))))))))) [20] [true, false, true]
    kernel_rfl
    kernel_rfl
    exact zy
    (simp only [Yj, nthO]; rfl)
    repeat' (first | (apply YV T; exact rfl; exact zm; exact rfl; exact zv; exact rfl; exact rfl) | (apply Yk; (repeat (first | with_reducible exact Yh | (with_reducible apply Yg; (repeat (first | with_reducible exact Yf | with_reducible apply Ye)))))) | apply (zs91 ?_ ?_) | (apply Y9; (repeat (first | with_reducible exact Yh | (with_reducible apply Yg; (repeat (first | with_reducible exact Yf | with_reducible apply Ye)))))) | refine zgd ?_ | (refine zgh ?_; intro _) | fail)
    all_goals (
      first | apply Ya en95 | apply Yb en95
      exact za
      exact rfl
      exact fun _ hw => (p2 (hiK.mono zk).n hw)
      repeat' (first | (refine Ydb 2 37 rfl rfl rfl (by rintro ⟨_, _, _, _, h, _⟩; cases h) ?_) | (apply Yk; (repeat (first | with_reducible exact Yh | (with_reducible apply Yg; (repeat (first | with_reducible exact Yf | with_reducible apply Ye)))))) | (apply Y9; (repeat (first | with_reducible exact Yh | (with_reducible apply Yg; (repeat (first | with_reducible exact Yf | with_reducible apply Ye)))))) | refine zgd ?_ | (refine zgh ?_; intro _) | fail)
      rename_i g5
      rw [show lk.2.2 + 0 = lk.2.2 from Int.add_zero _]
      apply Yi (blk g5 (.cells #[.int .i64 lk.1, .int .i64 lk.2.1, .int .i64 lk.2.2] 172 (0, 0)) :: many L :: HI)
      · intro w hw
        have h5 : St B w0 (blk g5 (.cells #[.int .i64 lk.1, .int .i64 lk.2.1, .int .i64 lk.2.2] 172 (0, 0)) :: many L :: blk g (.cells #[.int .i64 x.n.nodes, .slice x.n.pA x.n.rows.length x.n.pcap, .int .i64 x.n.noise, .int .i64 x.n.thr, .slice x.n.lA x.n.links.length x.n.lcap, .slice x.n.mA x.n.margin.length x.n.mcap, .int .i64 x.s.len, .int .i64 x.s.off, .slice x.s.A x.s.cells.length x.s.cap, .int .i64 x.f.1, .int .i64 x.f.2.1, .int .i64 x.f.2.2.1, .int .i64 x.f.2.2.2.1, .int .i64 x.f.2.2.2.2.1, .int .i64 x.f.2.2.2.2.2, .slice x.A x.r.length x.cap, .int .i64 0] 151 (0, 0)) :: [many R]) w := by
          revert w
          exact zk
        exact h5.perm (Perm.cons _ (Perm.cons _ hR2))
      have hY := hy _ _ hx [blk g5 (.cells #[.int .i64 lk.1, .int .i64 lk.2.1, .int .i64 lk.2.2] 172 (0, 0))] L hS
      apply Ydv _ _ (hy := hY)
      · exact OX
      · exact rfl
      · exact za
      · exact rfl
      · rintro ⟨_, _, _, _, h, _⟩; cases h
      · rintro _ ⟨L', hS', rfl⟩
        repeat' (first | refine zgc ?_ | fail)
        apply hK (i + 1, L')
        · exact ⟨by show i + 1 + 1 ≤ _; omega, hS'⟩
        · dsimp only; omega
        · exact zu
        · exact fun w hw => hw.tail
      · rintro _ ⟨L', hX', rfl⟩
        repeat' (first | refine zgd ?_ | fail)
        apply Yi (many L' :: HI)
        · exact fun w hw => hw.tail
        apply XU; exact rfl
        exact .inr ⟨L', hX', rfl⟩)
  · repeat' (first | refine zgc ?_ | (refine zge ?_ ?_ <;> intro _ <;> try (exfalso; omega)) | fail)
    apply Xq; exact rfl
    have hl0 : i = (ZE x).length := by unfold ZE; rw [List.length_map, Vp]; omega
    rw [hl0] at hS
    exact .inl ⟨L, hS, rfl⟩
def Ykq (g : Nat) : Value := .func (.func 285) #[] #[.pointer (some ⟨g, 0, none⟩)]
theorem Yam (x : WayM) {B : Nat} {w0 : World} {H : List HP} {w : World} (hw : St B w0 H w) :
    Calls Tryz.prog 248 [x.val].toArray w (Post B w0 fun v K => ∃ g, v = Ykq g ∧ K = wayB g x :: H) := by
  refine Yc Tryz.func248 Tryz.ntmps248 rfl rfl hw ?_
  unfold WayM.val
  repeat' (first | (apply zg29; (apply Yq; exact za ; exact rfl)) | refine zga ?_ | (refine zgh ?_; intro _) | fail)
  apply Yd; exact rfl; exact rfl
  exact ⟨_, rfl, rfl⟩
open Go.RowKit Go.Eng Go.Nw Go.Rt
theorem YdG (x : WayM) (l : Lk) (g gl : Nat) (c : Cel) {B : Nat} {w0 : World} {H : List HP} {w : World} (hm : wayB g x ∈ H) (hml : blk gl (.cells #[.int .i64 l.1, .int .i64 l.2.1, .int .i64 l.2.2] 172 (0, 0)) ∈ H) (hw : St B w0 H w) :
    Calls Tryz.prog 287 [celV c, .pointer (some ⟨g, 0, none⟩), .pointer (some ⟨gl, 0, none⟩)].toArray w (Post B w0 fun v K => v = .bool (!(onP x.f.1 l.1 l.2.1 c)) ∧ K = H) := by
  refine Yc Tryz.func287 Tryz.ntmps287 rfl rfl hw ?_
  unfold wayB at hm
  have hb : onP x.f.1 l.1 l.2.1 c = true ↔ c.2.2.2.2 = x.f.1 ∧ c.2.2.1 = l.1 ∧ c.2.2.2.1 = l.2.1 := by unfold onP Xo Yy toC; rw [decide_eq_true_eq]
  obtain ⟨b, hbe⟩ : ∃ b, onP x.f.1 l.1 l.2.1 c = b := ⟨_, rfl⟩
  rw [hbe] at hb ⊢
  repeat' (first | refine zgc ?_ | (refine zge ?_ ?_ <;> intro _ <;> try (exfalso; omega)) | (refine zgh ?_; intro _) | fail)
  all_goals (
    apply Yi H
    · exact zk
    apply Yd; exact rfl; exact rfl
    cases b <;> simp at hb <;> first | exact ⟨rfl, rfl⟩ | (exfalso; omega))
set_option maxRecDepth 10000 in
theorem Ye5 (x : WayM) (l : Lk) (hfew : x.s.cells.length ≤ 1000) {B : Nat} {w0 : World} {H : List HP} {w : World} (hr : Rd B w0 H x.s.A (x.s.cells.flatMap celF)) (hw : St B w0 H w) :
    Calls Tryz.prog 249 [x.val, lkV l].toArray w (Post B w0 fun v K => ∃ A cap, v = .slice A (Xk x.s.sch x.f.1 l).length cap ∧ K = cels A cap (Xk x.s.sch x.f.1 l) :: H) := by
  refine Yc Tryz.func249 Tryz.ntmps249 rfl rfl hw ?_
  unfold WayM.val lkV
  repeat' (first | refine zga ?_ | (refine zgh ?_; intro _) | fail)
  rename_i gw gl
  apply Yo _ en64
  exact za
  exact rfl
  exact fun _ hw => (YdN x.s.cells (by omega) hr.cons.cons (hw))
  rintro _ _ ⟨A', cap', rfl, rfl⟩
  repeat' (first | (apply zg29; (apply Yq; exact za ; exact rfl)) | fail)
  apply Yo _ Yma
  exact za
  exact rfl
  exact fun _ hw => (YdU (fun c => !(onP x.f.1 l.1 l.2.1 c)) x.s.cells 287 [.pointer (some ⟨gw, 0, none⟩), .pointer (some ⟨gl, 0, none⟩)] Ymb hfew (fun c _ X w hw => YdG x l gw gl c (List.mem_append_right _ (by unfold wayB; exact zm)) (List.mem_append_right _ zm) hw) (hw))
  rintro _ _ ⟨rfl, rfl⟩
  have e : x.s.cells.filter (fun c => !!(onP x.f.1 l.1 l.2.1 c)) = Xk x.s.sch x.f.1 l := List.filter_congr fun c _ => Bool.not_not _
  rw [e]
  repeat' (first | refine zga ?_ | fail)
  apply Yi (cels A' cap' (Xk x.s.sch x.f.1 l) :: H)
  · exact zk
  apply Yd; exact rfl; exact rfl
  exact ⟨A', cap', rfl, rfl⟩
theorem Wv {x : WayM} (hok : VY x) {i : Nat} {l : Lk} (h : (YA x.n.net x.r)[i]? = some l) : i + 1 < x.r.length ∧ 0 ≤ l.2.2 ∧ l.2.2 ≤ 7 := by
  have hi := (List.getElem?_eq_some_iff.1 h).1
  rw [Vp] at hi
  have hi : i + 1 < x.r.length := by omega
  rw [U5 hi] at h
  have hg := hok.good i hi
  have h1 := (Xe hok.ck).lk _ (ZJ (Uy hg))
  have e := Option.some.inj h
  unfold X0 at e
  have h2 := h1.l0; have h3 := h1.l1
  rw [e] at h2 h3
  exact ⟨hi, h2, h3⟩
theorem Yb1 {ls : List Lk} {i : Nat} {l : Lk} (h : ls[i]? = some l) : Y7 (ls.take (i + 1)) = Y7 (ls.take i) + YJ l := by
  unfold Y7
  rw [List.take_add_one, h, List.map_append, List.sum_append]
  simp
theorem Vo {x : WayM} {i : Nat} {args : List Value} (h : (ZE x)[i]? = some args) : ∃ l, (YA x.n.net x.r)[i]? = some l ∧ args = [lkV l] := by
  unfold ZE at h
  rw [List.getElem?_map] at h
  cases hl : (YA x.n.net x.r)[i]? with
  | none => rw [hl] at h; cases h
  | some l => rw [hl] at h; exact ⟨l, rfl, (Option.some.inj h).symm⟩
theorem Qe {x : WayM} (hok : VY x) : ∀ i, Y7 ((YA x.n.net x.r).take i) ≤ 8 * i
  | 0 => Nat.le_refl _
  | i + 1 => by
    have ih := Qe hok i
    cases h : (YA x.n.net x.r)[i]? with
    | none =>
      have := List.getElem?_eq_none_iff.1 h
      rw [List.take_of_length_le (by omega)] at ih ⊢
      omega
    | some l =>
      rw [Yb1 h]
      have := Wv hok h
      unfold YJ
      omega
set_option maxRecDepth 10000 in
set_option maxHeartbeats 1000000 in
theorem Yej (x : WayM) (hok : VY x) {B : Nat} {w0 : World} {H : List HP} {w : World} (hi : x.In B w0 H) (hw : St B w0 H w) :
    Calls Tryz.prog 208 [x.val].toArray w (Post B w0 fun v K => v = .int .i64 (Y7 (YA x.n.net x.r)) ∧ K = H) := by
  refine XF Tryz.func208 Tryz.ntmps208 rfl rfl hw ?_
  unfold WayM.val
  repeat' (first | refine zgd ?_ | (refine zgh ?_; intro _) | fail)
  rename_i g gN
  apply Yo _ YkO
  exact za
  exact rfl
  exact fun _ hw => (Yam x (hw))
  rintro _ _ ⟨g2, rfl, rfl⟩
  repeat' (first | refine zgb ?_ | fail)
  have hl9 := hok.len
  have hiK : x.In B w0 (wayB g2 x :: wayB g x :: H) := hi.cons.cons
  refine XG (gf := 285) (lb := [.pointer (some ⟨g2, 0, none⟩)]) (xs := ZE x) (wayB g2 x :: wayB g x :: H) (fun z : Int => [blk gN (.cells #[.int .i64 z] 3 (0, 0))]) (fun i z => z = (Y7 ((YA x.n.net x.r).take i) : Int)) (fun _ _ => False) 0 rfl YkQ (OH x g2 hok hiK (.head _)) rfl ?_ (by kernel_rfl) (by kernel_rfl) ?_ rfl ?_ ?_ (fun _ _ _ h => h.elim)
  · intro args h
    obtain ⟨k, hk⟩ := List.mem_iff_getElem?.1 h
    obtain ⟨l, _, rfl⟩ := Vo hk
    rfl
  · unfold wayB
    simp only [List.cons_append, List.nil_append]
    exact zk
  · rintro l k args R z hk hI
    obtain ⟨lk, hlk, rfl⟩ := Vo hk
    have hbd := Wv hok hlk
    have hne := Qe hok k
    have hst := Yb1 hlk
    try dsimp only at hI
    dsimp only [Vy, List.cons_append, List.nil_append]
    unfold lkV
    repeat' (first | refine zgd ?_ | (refine zgh ?_; intro _) | fail)
    apply Ja (Ye Yf)
    intro R'
    unfold wayB
    repeat' (first | refine zgd ?_ | fail)
    apply JA (z + (lk.2.2 + 1))
    · show z + (lk.2.2 + 1) = _
      rw [hI, hst]
      unfold YJ
      omega
    · dsimp only [List.cons_append, List.nil_append]
      exact zk
  · rintro D z hI
    try dsimp only at hI
    have hle : (ZE x).length = (YA x.n.net x.r).length := by unfold ZE; rw [List.length_map]
    rw [hle, List.take_length] at hI
    dsimp only [List.cons_append, List.nil_append]
    unfold wayB
    repeat' (first | refine zgc ?_ | fail)
    apply Zf Yf
    apply VQ_m
    apply Yi H
    · exact zk
    apply Yd; exact rfl; exact rfl
    exact ⟨by rw [hI], rfl⟩
open Go.RowKit Go.Eng Go.Nw Go.Rt
theorem Zn (l m : List Int) (hlen : l.length ≤ 1000000000000) (_hlen2 : m.length ≤ 1000000000000) {A A2 : Option Addr} {cap cap2 B : Nat} {w0 : World} {H : List HP} {w : World} (hr : Rd B w0 H A (l.flatMap numF)) (hr2 : Rd B w0 H A2 (m.flatMap numF)) (hw : St B w0 H w) :
    Calls Tryz.prog 126 [.slice A l.length cap, .slice A2 m.length cap2].toArray w (Post B w0 fun u K => u = .bool (decide (l = m)) ∧ K = H) := by
  refine Yc Tryz.func126 Tryz.ntmps126 rfl rfl hw ?_
  by_cases hll : l.length = m.length
  rotate_left
  · repeat' (first | refine zgb ?_ | (refine zge ?_ ?_ <;> intro _ <;> try (exfalso; omega)) | fail)
    apply Yd; exact rfl; exact rfl
    exact ⟨by rw [decide_eq_false fun e => hll (by rw [e])], rfl⟩
  repeat' (first | refine zgb ?_ | (refine zge ?_ ?_ <;> intro _ <;> try (exfalso; omega)) | fail)
  refine Yl (fun (k : Nat) => [(5, .int .i64 k), (0, .slice A l.length cap), (1, .slice A2 m.length cap2)]) (fun _ => H) (fun k => k ≤ l.length ∧ l.take k = m.take k) (fun k => l.length - k) 0 ⟨Nat.zero_le _, by simp⟩ ?_ (fun w hw => hw) ?_
  · exact zu
  rintro k ⟨hk, hi⟩ K hK
  by_cases hlt : k < l.length
  · obtain ⟨a, ha⟩ : ∃ a, l[k]? = some a := ⟨_, List.getElem?_eq_getElem hlt⟩
    obtain ⟨b, hb⟩ : ∃ b, m[k]? = some b := ⟨_, List.getElem?_eq_getElem (by omega)⟩
    by_cases hab : a = b
    · repeat' (first | refine zgd ?_ | (refine zge ?_ ?_ <;> intro _ <;> try (exfalso; omega)) | fail)
      apply hK (k + 1)
      · exact ⟨by omega, by rw [Jd ha, Jd hb, hi, hab]⟩
      · omega
      · exact zu
      · exact fun w hw => hw
    · repeat' (first | refine zgd ?_ | (refine zge ?_ ?_ <;> intro _ <;> try (exfalso; omega)) | fail)
      apply Yd; exact rfl; exact rfl
      exact ⟨by rw [decide_eq_false fun e => by rw [e, hb] at ha; exact hab (Option.some.inj ha).symm], rfl⟩
  · repeat' (first | refine zgc ?_ | (refine zge ?_ ?_ <;> intro _ <;> try (exfalso; omega)) | fail)
    apply Yd; exact rfl; exact rfl
    rw [List.take_of_length_le (by omega), List.take_of_length_le (by omega)] at hi
    exact ⟨by rw [decide_eq_true hi], rfl⟩
theorem O7 (l m : List RowM) (hlen : l.length ≤ 1000000000000) (_hlen2 : m.length ≤ 1000000000000) (hl2 : ∀ r ∈ l, r.xs.length ≤ 1000000000000) (hm2 : ∀ r ∈ m, r.xs.length ≤ 1000000000000) {A A2 : Option Addr} {cap cap2 B : Nat} {w0 : World} {H : List HP} {w : World} (hr : Rd B w0 H A (l.flatMap rowF)) (hr2 : Rd B w0 H A2 (m.flatMap rowF)) (hrl : ∀ r ∈ l, Rd B w0 H r.A (r.xs.flatMap numF)) (hrm : ∀ r ∈ m, Rd B w0 H r.A (r.xs.flatMap numF)) (hw : St B w0 H w) :
    Calls Tryz.prog 129 [.slice A l.length cap, .slice A2 m.length cap2].toArray w (Post B w0 fun u K => u = .bool (decide (l.map (·.xs) = m.map (·.xs))) ∧ K = H) := by
  refine Yc Tryz.func129 Tryz.ntmps129 rfl rfl hw ?_
  by_cases hll : l.length = m.length
  rotate_left
  · repeat' (first | refine zgb ?_ | (refine zge ?_ ?_ <;> intro _ <;> try (exfalso; omega)) | fail)
    apply Yd; exact rfl; exact rfl
    exact ⟨by rw [decide_eq_false fun e => hll (by have := congrArg List.length e; simpa using this)], rfl⟩
  repeat' (first | refine zgb ?_ | (refine zge ?_ ?_ <;> intro _ <;> try (exfalso; omega)) | fail)
  refine Yl (fun (k : Nat) => [(5, .int .i64 k), (0, .slice A l.length cap), (1, .slice A2 m.length cap2)]) (fun _ => H) (fun k => k ≤ l.length ∧ (l.take k).map (·.xs) = (m.take k).map (·.xs)) (fun k => l.length - k) 0 ⟨Nat.zero_le _, by simp⟩ ?_ (fun w hw => hw) ?_
  · exact zu
  rintro k ⟨hk, hi⟩ K hK
  by_cases hlt : k < l.length
  · obtain ⟨a, ha⟩ : ∃ a, l[k]? = some a := ⟨_, List.getElem?_eq_getElem hlt⟩
    obtain ⟨b, hb⟩ : ∃ b, m[k]? = some b := ⟨_, List.getElem?_eq_getElem (by omega)⟩
    have ham := List.mem_of_getElem? ha
    have hbm := List.mem_of_getElem? hb
    have hss := fun {w : World} (hw : St B w0 H w) => Zn a.xs b.xs (cap := a.cap) (cap2 := b.cap) (hl2 a ham) (hm2 b hbm) (hrl a ham) (hrm b hbm) hw
    by_cases hab : a.xs = b.xs
    · rw [decide_eq_true hab] at hss
      repeat' (first | ((first | apply Ya XM | apply Yb XM); exact za; exact rfl; exact fun _ hw => (hss hw)) | (apply zg28; refine zs84 ?_) | refine zgd ?_ | (refine zge ?_ ?_ <;> intro _ <;> try (exfalso; omega)) | fail)
      apply hK (k + 1)
      · exact ⟨by omega, by rw [List.take_add_one, List.take_add_one, ha, hb, List.map_append, List.map_append, hi]; simp [hab]⟩
      · omega
      · exact zu
      · exact fun w hw => hw
    · rw [decide_eq_false hab] at hss
      repeat' (first | ((first | apply Ya XM | apply Yb XM); exact za; exact rfl; exact fun _ hw => (hss hw)) | (apply zg28; refine zs84 ?_) | refine zgd ?_ | (refine zge ?_ ?_ <;> intro _ <;> try (exfalso; omega)) | fail)
      apply Yd; exact rfl; exact rfl
      have hne : ¬ (l.map (·.xs) = m.map (·.xs)) := fun e => by
        have h1 : (l.map (·.xs))[k]? = (m.map (·.xs))[k]? := by rw [e]
        rw [List.getElem?_map, List.getElem?_map, ha, hb] at h1
        exact hab (Option.some.inj h1)
      exact ⟨by rw [decide_eq_false hne], rfl⟩
  · repeat' (first | refine zgc ?_ | (refine zge ?_ ?_ <;> intro _ <;> try (exfalso; omega)) | fail)
    apply Yd; exact rfl; exact rfl
    rw [List.take_of_length_le (by omega), List.take_of_length_le (by omega)] at hi
    exact ⟨by rw [decide_eq_true hi], rfl⟩
def rowQ (r : RowM) : HP := ints r.A r.cap r.xs
open Go.RowKit Go.Eng Go.Nw Go.Rt
structure RqM where
  f : Flw
  A : Option Addr
  cap : Nat
  rows : List RowM
def rqF (x : RqM) : List Value := [.int .i64 x.f.1, .int .i64 x.f.2.1, .int .i64 x.f.2.2.1, .int .i64 x.f.2.2.2.1, .int .i64 x.f.2.2.2.2.1, .int .i64 x.f.2.2.2.2.2, .slice x.A x.rows.length x.cap]
def rqV (x : RqM) : Value := .agg #[.int .i64 x.f.1, .int .i64 x.f.2.1, .int .i64 x.f.2.2.1, .int .i64 x.f.2.2.2.1, .int .i64 x.f.2.2.2.2.1, .int .i64 x.f.2.2.2.2.2, .slice x.A x.rows.length x.cap]
def RqM.rq (x : RqM) : Rqs := (x.f, x.rows.map (·.xs))
abbrev netA (g : Nat) (n : NetM) : HP := blk g (.cells #[.int .i64 n.nodes, .slice n.pA n.rows.length n.pcap, .int .i64 n.noise, .int .i64 n.thr, .slice n.lA n.links.length n.lcap, .slice n.mA n.margin.length n.mcap] 26 (0, 0))
abbrev schA (g : Nat) (s : SchM) : HP := blk g (.cells #[.int .i64 s.len, .int .i64 s.off, .slice s.A s.cells.length s.cap] 30 (0, 0))
abbrev rqA (g : Nat) (x : RqM) : HP := blk g (.cells #[.int .i64 x.f.1, .int .i64 x.f.2.1, .int .i64 x.f.2.2.1, .int .i64 x.f.2.2.2.1, .int .i64 x.f.2.2.2.2.1, .int .i64 x.f.2.2.2.2.2, .slice x.A x.rows.length x.cap] 70 (0, 0))
structure RqM.In (B : Nat) (w0 : World) (H : List HP) (x : RqM) : Prop where
  rt : Rd B w0 H x.A (x.rows.flatMap rowF)
  rw_ : ∀ r ∈ x.rows, Rd B w0 H r.A (r.xs.flatMap numF)
  ln : x.rows.length ≤ 1000000000000
  rl : ∀ r ∈ x.rows, r.xs.length ≤ 1000000000000 ∧ r.xs.length ≤ r.cap
theorem RqM.In.mono {B : Nat} {w0 : World} {H H' : List HP} {x : RqM} (h : x.In B w0 H) (hH : ∀ w, St B w0 H' w → St B w0 H w) : x.In B w0 H' := ⟨h.rt.mono hH, fun r hr => (h.rw_ r hr).mono hH, h.ln, h.rl⟩
theorem RqM.In.cons {B : Nat} {w0 : World} {H : List HP} {X : HP} {x : RqM} (h : x.In B w0 H) : x.In B w0 (X :: H) := h.mono fun _ hw => hw.tail
structure QIn (B : Nat) (w0 : World) (H : List HP) (A : Option Addr) (q : List RqM) : Prop where
  rd : Rd B w0 H A (q.flatMap rqF)
  x : ∀ x ∈ q, x.In B w0 H
  ln : q.length ≤ 1000000000000
theorem QIn.mono {B : Nat} {w0 : World} {H H' : List HP} {A : Option Addr} {q : List RqM} (h : QIn B w0 H A q) (hH : ∀ w, St B w0 H' w → St B w0 H w) : QIn B w0 H' A q := ⟨h.rd.mono hH, fun x hx => (h.x x hx).mono hH, h.ln⟩
theorem QIn.cons {B : Nat} {w0 : World} {H : List HP} {X : HP} {A : Option Addr} {q : List RqM} (h : QIn B w0 H A q) : QIn B w0 (X :: H) A q := h.mono fun _ hw => hw.tail
structure ClM where
  flow : Int
  rA : Option Addr
  rcap : Nat
  rs : List RowM
  bA : Option Addr
  bcap : Nat
  bs : List Int
  wA : Option Addr
  wcap : Nat
  ws : List Int
  sA : Option Addr
  scap : Nat
  ss : List RowM
def clF (c : ClM) : List Value := [.int .i64 c.flow, .slice c.rA c.rs.length c.rcap, .slice c.bA c.bs.length c.bcap, .slice c.wA c.ws.length c.wcap, .slice c.sA c.ss.length c.scap]
def clV (c : ClM) : Value := .agg #[.int .i64 c.flow, .slice c.rA c.rs.length c.rcap, .slice c.bA c.bs.length c.bcap, .slice c.wA c.ws.length c.wcap, .slice c.sA c.ss.length c.scap]
def ClM.clm (c : ClM) : Clm := ⟨c.flow, c.rs.map (·.xs), c.bs, c.ws, c.ss.map (·.xs)⟩
structure ClM.In (B : Nat) (w0 : World) (H : List HP) (c : ClM) : Prop where
  rt : Rd B w0 H c.rA (c.rs.flatMap rowF)
  rw_ : ∀ r ∈ c.rs, Rd B w0 H r.A (r.xs.flatMap numF)
  bd : Rd B w0 H c.bA (c.bs.flatMap numF)
  ws : Rd B w0 H c.wA (c.ws.flatMap numF)
  st : Rd B w0 H c.sA (c.ss.flatMap rowF)
  sw : ∀ r ∈ c.ss, Rd B w0 H r.A (r.xs.flatMap numF)
  ln : c.rs.length ≤ 1000000000000 ∧ c.bs.length ≤ 1000000000000 ∧ c.ws.length ≤ 1000000000000 ∧ c.ss.length ≤ 1000000000000
  rl : ∀ r ∈ c.rs, r.xs.length ≤ 1000000000000
  sl : ∀ r ∈ c.ss, r.xs.length ≤ 1000000000000
theorem ClM.In.mono {B : Nat} {w0 : World} {H H' : List HP} {c : ClM} (h : c.In B w0 H) (hH : ∀ w, St B w0 H' w → St B w0 H w) : c.In B w0 H' :=
  ⟨h.rt.mono hH, fun r hr => (h.rw_ r hr).mono hH, h.bd.mono hH, h.ws.mono hH, h.st.mono hH, fun r hr => (h.sw r hr).mono hH, h.ln, h.rl, h.sl⟩
theorem ClM.In.cons {B : Nat} {w0 : World} {H : List HP} {X : HP} {c : ClM} (h : c.In B w0 H) : c.In B w0 (X :: H) := h.mono fun _ hw => hw.tail
structure CIn (B : Nat) (w0 : World) (H : List HP) (A : Option Addr) (c : List ClM) : Prop where
  rd : Rd B w0 H A (c.flatMap clF)
  x : ∀ x ∈ c, x.In B w0 H
  ln : c.length ≤ 1000000000000
theorem CIn.mono {B : Nat} {w0 : World} {H H' : List HP} {A : Option Addr} {c : List ClM} (h : CIn B w0 H A c) (hH : ∀ w, St B w0 H' w → St B w0 H w) : CIn B w0 H' A c := ⟨h.rd.mono hH, fun x hx => (h.x x hx).mono hH, h.ln⟩
theorem CIn.cons {B : Nat} {w0 : World} {H : List HP} {X : HP} {A : Option Addr} {c : List ClM} (h : CIn B w0 H A c) : CIn B w0 (X :: H) A c := h.mono fun _ hw => hw.tail
def clP (c : ClM) : List HP := [sl 72 1 c.rA c.rs.length c.rcap (c.rs.flatMap rowF), many (c.rs.map rowQ), nrs c.bA c.bcap c.bs, nrs c.wA c.wcap c.ws, sl 24 1 c.sA c.ss.length c.scap (c.ss.flatMap rowF), many (c.ss.map rowQ)]
def clQ (c : ClM) : HP := many (clP c)
def nilC (f : Int) : ClM := ⟨f, none, 0, [], none, 0, [], none, 0, [], none, 0, []⟩
theorem Yla {c : ClM} {B : Nat} {w0 : World} {H : List HP} (hm : clQ c ∈ H) (hl : (c.rs.length ≤ 1000000000000 ∧ c.bs.length ≤ 1000000000000 ∧ c.ws.length ≤ 1000000000000 ∧ c.ss.length ≤ 1000000000000) ∧ (∀ r ∈ c.rs, r.xs.length ≤ 1000000000000) ∧ ∀ r ∈ c.ss, r.xs.length ≤ 1000000000000) : c.In B w0 H := by
  have hb : ∀ w, St B w0 H w → St B w0 (clP c) w := fun w hw => hw.inM hm
  refine ClM.In.mono (H := clP c) ?_ hb
  unfold clP
  refine ⟨.sl (.head _), fun r hr => ?_, .sl (.tail _ (.tail _ (.head _))), .sl (.tail _ (.tail _ (.tail _ (.head _)))), .sl (.tail _ (.tail _ (.tail _ (.tail _ (.head _))))), fun r hr => ?_, hl.1, hl.2.1, hl.2.2⟩
  · exact Rd.many (L := c.rs.map rowQ) (.tail _ (.head _)) (List.mem_map_of_mem hr)
  · exact Rd.many (L := c.ss.map rowQ) (.tail _ (.tail _ (.tail _ (.tail _ (.tail _ (.head _)))))) (List.mem_map_of_mem hr)
theorem Yar {B : Nat} {w0 w : World} {H : List HP} (f : Int) (h : St B w0 H w) : St B w0 (clQ (nilC f) :: H) w := by
  unfold clQ clP nilC
  dsimp only [List.flatMap_nil, List.map_nil, List.length_nil]
  have h1 := (h.perm (.noMany H)).nilSlice 24 1
  have h2 := (((h1.nilSlice 3 1).nilSlice 3 1).perm (.noMany _)).nilSlice 72 1
  exact h2.perm (.close [_, _, _, _, _, _] H)
open Go.RowKit Go.Eng Go.Nw Go.Rt
abbrev flws (A : Option Addr) (cap : Nat) (l : List Flw) : HP := sl 68 6 A l.length cap (l.flatMap flwF)
theorem YbM (A : Option Addr) (cap : Nat) (l : List Flw) (f : Flw) : sl 68 6 A (l.length + 1) cap (l.flatMap flwF ++ #[.int .i64 f.1, .int .i64 f.2.1, .int .i64 f.2.2.1, .int .i64 f.2.2.2.1, .int .i64 f.2.2.2.2.1, .int .i64 f.2.2.2.2.2].toList) = flws A cap (l ++ [f]) := by simp [flws, List.flatMap_append, flwF]
structure FlM where
  i : Nat
  A : Option Addr
  cap : Nat
def RqM.fl (q : List RqM) : List Flw := q.map (·.f)
set_option maxRecDepth 10000 in
theorem Ou (q : List RqM) {A : Option Addr} {cap B : Nat} {w0 : World} {H : List HP} {w : World} (hl : q.length ≤ 1000000000000) (hr : Rd B w0 H A (q.flatMap rqF)) (hw : St B w0 H w) :
    Calls Tryz.prog 68 [.slice A q.length cap].toArray w (Post B w0 fun v K => ∃ A2 cap2, v = .slice A2 (RqM.fl q).length cap2 ∧ K = flws A2 cap2 (RqM.fl q) :: H) := by
  refine Yc Tryz.func68 Tryz.ntmps68 rfl rfl hw ?_
  repeat' (first | refine zgb ?_ | fail)
  refine ZL 68 6 ?_
  refine Yl (fun z : FlM => [(8, .int .i64 (z.i : Nat)), (7, .int .i64 q.length), (6, .slice A q.length cap), (3, .slice z.A (RqM.fl (q.take z.i)).length z.cap)]) (fun z => flws z.A z.cap (RqM.fl (q.take z.i)) :: H) (fun z => z.i ≤ q.length) (fun z => q.length - z.i) ⟨0, none, 0⟩ (Nat.zero_le _) ?_ (fun w hw => hw) ?_
  · exact zu
  rintro ⟨i, A2, cap2⟩ hi K hK
  dsimp only at hi ⊢
  have hlen : (RqM.fl (q.take i)).length = i := by unfold RqM.fl; rw [List.length_map, List.length_take]; omega
  have hr' := hr.cons (X := flws A2 cap2 (RqM.fl (q.take i)))
  by_cases hlt : i < q.length
  · obtain ⟨x, hx⟩ : ∃ x, q[i]? = some x := ⟨_, List.getElem?_eq_getElem hlt⟩
    have hst : RqM.fl (q.take (i + 1)) = RqM.fl (q.take i) ++ [x.f] := by unfold RqM.fl; rw [List.take_add_one, hx, Option.toList_some, List.map_append]; rfl
    repeat' (first | (apply YV T; exact rfl; exact zm; exact rfl; exact zv; exact rfl; exact rfl) | refine zgd ?_ | (refine zge ?_ ?_ <;> intro _ <;> try (exfalso; omega)) | (refine zgh ?_; intro _) | (refine zgi ?_; intro _ _) | fail)
    rename_i A' cap'
    rw [YbM, ← hst, show (RqM.fl (q.take i)).length + 1 = (RqM.fl (q.take (i + 1))).length from by rw [hst]; simp]
    apply hK ⟨i + 1, A', cap'⟩
    · show i + 1 ≤ _
      omega
    · dsimp only; omega
    · exact zu
    · exact zk
  · obtain rfl : i = q.length := by omega
    rw [List.take_length]
    repeat' (first | refine zgc ?_ | (refine zge ?_ ?_ <;> intro _ <;> try (exfalso; omega)) | fail)
    apply Yd; exact rfl; exact rfl
    exact ⟨A2, cap2, rfl, rfl⟩
theorem YaC {x : RqM} {k : Nat} {r : RowM} (h : x.rows[k]? = some r) : rtAt x.rq.2 k = r.xs := by
  have h2 : x.rq.2[k]? = some r.xs := by
    show (x.rows.map (·.xs))[k]? = _
    rw [List.getElem?_map, h]; rfl
  exact Option.some.inj ((Ob (List.getElem?_eq_some_iff.1 h2).1).symm.trans h2)
set_option maxRecDepth 10000 in
set_option maxHeartbeats 4000000 in
theorem WN (n : NetM) (x : RqM) {B : Nat} {w0 : World} {H : List HP} {w : World} (hin : n.In B w0 H) (hx : x.In B w0 H) (hw : St B w0 H w) :
    Calls Tryz.prog 121 [n.val, rqV x].toArray w (Post B w0 fun v K => v = .int .i64 (rtsE n.net x.rq) ∧ K = H) := by
  refine Yc Tryz.func121 Tryz.ntmps121 rfl rfl hw ?_
  have hln : x.rq.2.length = x.rows.length := by unfold RqM.rq; rw [List.length_map]
  have hlx := hx.ln
  have e1 : x.rq.1 = x.f := rfl
  unfold rtsE
  rw [hln, e1]
  have p1 := fun {H' : List HP} {w : World} (r : RowM) (hr : r ∈ x.rows) (hin : n.In B w0 H') (hx : x.In B w0 H') (hw : St B w0 H' w) => Qn n x.f.2.1 x.f.2.2.1 r.xs (cap := r.cap) hin (hx.rw_ r hr) (Nat.le_trans (hx.rl r hr).1 (by decide)) (hx.rl r hr).2 hw
  unfold NetM.val rqV
  by_cases h0 : x.rows.length = 0
  · rw [if_pos h0]
    repeat' (first | refine zgb ?_ | (refine zgf ?_ ?_ <;> intro _ <;> try (exfalso; omega)) | (refine zgh ?_; intro _) | fail)
    apply Yi H
    · exact zk
    apply Yd; exact rfl; exact rfl; exact ⟨rfl, rfl⟩
  rw [if_neg h0]
  by_cases h2 : 2 < x.rows.length
  · rw [if_pos h2]
    repeat' (first | refine zgb ?_ | (refine zgf ?_ ?_ <;> intro _ <;> try (exfalso; omega)) | (refine zgh ?_; intro _) | fail)
    apply Yi H
    · exact zk
    apply Yd; exact rfl; exact rfl; exact ⟨rfl, rfl⟩
  rw [if_neg h2]
  obtain ⟨F, hF⟩ : ∃ F, (fun k => XQ n.net x.f.2.1 x.f.2.2.1 (rtAt x.rq.2 k)) = F := ⟨_, rfl⟩
  rw [hF]
  have hFv : ∀ {k : Nat} {r : RowM}, x.rows[k]? = some r → F k = XQ n.net x.f.2.1 x.f.2.2.1 r.xs := fun h => by rw [← hF]; show XQ _ _ _ _ = _; rw [YaC h]
  repeat' (first | refine zgb ?_ | (refine zgf ?_ ?_ <;> intro _ <;> try (exfalso; omega)) | (refine zgh ?_; intro _) | fail)
  rename_i gn gx _ _
  refine Yl (fun k : Nat => [(19, .int .i64 (k : Nat)), (18, .int .i64 x.rows.length), (17, .slice x.A x.rows.length x.cap), (3, .pointer (some ⟨gx, 0, none⟩)), (2, .pointer (some ⟨gn, 0, none⟩))]) (fun _ => rqA gx x :: netA gn n :: H) (fun k => k ≤ x.rows.length ∧ ∀ j, 0 ≤ j → j < k → F j = 0) (fun k => x.rows.length - k) 0 ⟨Nat.zero_le _, fun j _ h => absurd h (Nat.not_lt_zero _)⟩ ?_ (fun w hw => hw) ?_
  · exact zu
  rintro k ⟨hk, hz⟩ K hK
  have hrt : Rd B w0 (rqA gx x :: netA gn n :: H) x.A (x.rows.flatMap rowF) := hx.rt.cons.cons
  by_cases hlt : k < x.rows.length
  · obtain ⟨r, hr⟩ : ∃ r, x.rows[k]? = some r := ⟨_, List.getElem?_eq_getElem hlt⟩
    have hFk := hFv hr
    have p2 := fun {H' : List HP} {w : World} (hin : n.In B w0 H') (hx : x.In B w0 H') (hw : St B w0 H' w) => p1 r (List.mem_of_getElem? hr) hin hx hw
    rw [← hFk] at p2
    by_cases hFz : F k = 0
    · rw [hFz] at p2
      repeat' (first | ((first | apply Ya Ybz | apply Yb Ybz); exact za; exact rfl; exact fun _ hw => (p2 (hin.mono zk) (hx.mono zk) hw)) | refine zgd ?_ | (refine zge ?_ ?_ <;> intro _ <;> try (exfalso; omega)) | fail)
      apply hK (k + 1)
      · exact ⟨by omega, fun j h1 h2 => by
          rcases Nat.lt_succ_iff_lt_or_eq.1 h2 with h | rfl
          · exact hz j h1 h
          · exact hFz⟩
      · omega
      · exact zu
      · exact zk
    · have hfe := Xu (f := F) (r := x.rows.length) (i0 := 0) (i := k) (fun j h1 h2 => hz j h1 h2) (Nat.zero_le _) (by omega) hFz
      rw [hfe, if_pos hFz]
      clear hK
      repeat' (first | ((first | apply Ya Ybz | apply Yb Ybz); exact za; exact rfl; exact fun _ hw => (p2 (hin.mono zk) (hx.mono zk) hw)) | refine zgd ?_ | (refine zge ?_ ?_ <;> intro _ <;> try (exfalso; omega)) | fail)
      apply Yi H
      · exact zk
      apply Yd; exact rfl; exact rfl; exact ⟨rfl, rfl⟩
  · obtain rfl : k = x.rows.length := by omega
    have hfe := X7 (f := F) (r := x.rows.length) (i0 := 0) fun j h1 h2 => hz j h1 (by omega)
    rw [hfe, if_neg (fun e => e rfl)]
    clear hK
    by_cases h3 : x.rows.length = 2
    rotate_left
    · rw [if_neg (fun e => h3 e.1)]
      repeat' (first | (apply zg28; refine zs84 ?_) | refine zgd ?_ | (refine zgf ?_ ?_ <;> intro _ <;> try (exfalso; omega)) | fail)
      apply Yi H
      · exact zk
      apply Yd; exact rfl; exact rfl; exact ⟨rfl, rfl⟩
    obtain ⟨r0, hr0⟩ : ∃ r, x.rows[0]? = some r := ⟨_, List.getElem?_eq_getElem (by omega)⟩
    obtain ⟨r1, hr1⟩ : ∃ r, x.rows[1]? = some r := ⟨_, List.getElem?_eq_getElem (by omega)⟩
    rw [YaC hr0, YaC hr1]
    have p3 := fun {H' : List HP} {w : World} (hx : x.In B w0 H') (hw : St B w0 H' w) => OA r0.xs r1.xs (cap := r0.cap) (cap2 := r1.cap) (Nat.le_trans (hx.rl r0 (List.mem_of_getElem? hr0)).1 (by decide)) (Nat.le_trans (hx.rl r1 (List.mem_of_getElem? hr1)).1 (by decide)) (hx.rw_ r0 (List.mem_of_getElem? hr0)) (hx.rw_ r1 (List.mem_of_getElem? hr1)) hw
    by_cases heq : r0.xs = r1.xs
    · rw [if_pos ⟨h3, heq⟩]
      rw [decide_eq_true heq] at p3
      repeat' (first | refine zgc ?_ | (refine zge ?_ ?_ <;> intro _ <;> try (exfalso; omega)) | fail)
      apply YL [0, 1, 2, 3, 4, 5, 6, 7, 8, 9, 10, 11, 12, 13, 14] []
      kernel_rfl
      kernel_rfl
      (simp only [Yj, nthO]; rfl)
      exact rfl
      repeat' (first | refine zgd ?_ | (refine zgf ?_ ?_ <;> intro _ <;> try (exfalso; omega)) | fail)
      first | apply Ya en33 | apply Yb en33
      exact za
      exact rfl
      exact fun _ hw => (p3 (hx.mono zk) hw)
      repeat' (first | (apply Yk; (repeat (first | with_reducible exact Yh | (with_reducible apply Yg; (repeat (first | with_reducible exact Yf | with_reducible apply Ye)))))) | refine zgd ?_ | fail)
      · show Perm H (H ++ [])
        rw [List.append_nil]; exact Perm.refl _
      repeat' (first | fail)
      apply Yi H
      · exact zk
      apply Yd; exact rfl; exact rfl; exact ⟨rfl, rfl⟩
    · rw [if_neg (fun e => heq e.2)]
      rw [decide_eq_false heq] at p3
      repeat' (first | refine zgc ?_ | (refine zge ?_ ?_ <;> intro _ <;> try (exfalso; omega)) | fail)
      apply YL [0, 1, 2, 3, 4, 5, 6, 7, 8, 9, 10, 11, 12, 13, 14] []
      kernel_rfl
      kernel_rfl
      (simp only [Yj, nthO]; rfl)
      exact rfl
      repeat' (first | refine zgd ?_ | (refine zgf ?_ ?_ <;> intro _ <;> try (exfalso; omega)) | fail)
      first | apply Ya en33 | apply Yb en33
      exact za
      exact rfl
      exact fun _ hw => (p3 (hx.mono zk) hw)
      repeat' (first | (apply Yk; (repeat (first | with_reducible exact Yh | (with_reducible apply Yg; (repeat (first | with_reducible exact Yf | with_reducible apply Ye)))))) | refine zgd ?_ | fail)
      · show Perm H (H ++ [])
        rw [List.append_nil]; exact Perm.refl _
      repeat' (first | fail)
      apply Yi H
      · exact zk
      apply Yd; exact rfl; exact rfl; exact ⟨rfl, rfl⟩
theorem YiC (q : List RqM) : RqM.fl q = Ua (q.map RqM.rq) := by unfold RqM.fl Ua; rw [List.map_map]; rfl
theorem YaA {q : List RqM} {i : Nat} {x : RqM} (h : q[i]? = some x) : rqAt (q.map RqM.rq) i = x.rq := by
  have h2 : (q.map RqM.rq)[i]? = some x.rq := by rw [List.getElem?_map, h]; rfl
  exact Option.some.inj ((Oa (List.getElem?_eq_some_iff.1 h2).1).symm.trans h2)
set_option maxRecDepth 10000 in
set_option maxHeartbeats 4000000 in
theorem Ybd (n : NetM) (q : List RqM) {A : Option Addr} {cap B : Nat} {w0 : World} {H : List HP} {w : World} (hin : n.In B w0 H) (hq : QIn B w0 H A q) (hw : St B w0 H w) :
    Calls Tryz.prog 67 [n.val, .slice A q.length cap].toArray w (Post B w0 fun v K => v = .tuple #[.int .i64 (rqsE n.net (q.map RqM.rq)).1, .int .i64 (rqsE n.net (q.map RqM.rq)).2] ∧ K = H) := by
  refine Yc Tryz.func67 Tryz.ntmps67 rfl rfl hw ?_
  have hql := hq.ln
  have hqr := hq.rd
  have p1 := fun {H' : List HP} {w : World} (hin : n.In B w0 H') (hw : St B w0 H' w) => YS n hin hw
  have p2 := fun {H' : List HP} {w : World} (hq : QIn B w0 H' A q) (hw : St B w0 H' w) => Ou q (cap := cap) hql hq.rd hw
  have p3 := fun {A2 : Option Addr} {cap2 : Nat} {H' : List HP} {w : World} (hr : Rd B w0 H' A2 ((RqM.fl q).flatMap flwF)) (hw : St B w0 H' w) => YT n.nodes (RqM.fl q) (by unfold RqM.fl; rw [List.length_map]; omega) (cap := cap2) hr hw
  unfold rqsE
  rw [← YiC, List.length_map]
  rw [show n.net.nodes = n.nodes from rfl]
  obtain ⟨c, hc⟩ : ∃ c, YE n.net = c := ⟨_, rfl⟩
  obtain ⟨⟨fi, fe⟩, hf⟩ : ∃ f, YO n.nodes (RqM.fl q) = f := ⟨_, rfl⟩
  obtain ⟨F, hF⟩ : ∃ F, (fun i => rtsE n.net (rqAt (q.map RqM.rq) i)) = F := ⟨_, rfl⟩
  rw [hc] at p1 ⊢
  rw [hf] at p3 ⊢
  rw [hF]
  dsimp only at p3 ⊢
  have hFv : ∀ {k : Nat} {x : RqM}, q[k]? = some x → F k = rtsE n.net x.rq := fun h => by rw [← hF]; show rtsE _ _ = _; rw [YaA h]
  unfold NetM.val
  by_cases h0 : c = 0
  rotate_left
  · rw [if_pos h0]
    repeat' (first | ((first | apply Ya en50 | apply Yb en50); exact za; exact rfl; exact fun _ hw => (p1 hin.cons hw)) | refine zgc ?_ | (refine zge ?_ ?_ <;> intro _ <;> try (exfalso; omega)) | (refine zgh ?_; intro _) | fail)
    apply Yi H
    · exact zk
    apply Yr; exact rfl; exact rfl; exact rfl; exact ⟨rfl, rfl⟩
  subst h0
  rw [if_neg (fun e => e rfl)]
  by_cases h1 : fe = 0
  rotate_left
  · rw [if_pos h1]
    repeat' (first | ((first | apply Ya en50 | apply Yb en50); exact za; exact rfl; exact fun _ hw => (p1 hin.cons hw)) | refine zgc ?_ | (refine zge ?_ ?_ <;> intro _ <;> try (exfalso; omega)) | (refine zgh ?_; intro _) | fail)
    apply YZ [0, 1, 2, 3, 4, 5, 6, 7, 8, 9] [] [true]
    kernel_rfl
    kernel_rfl
    exact zy
    (simp only [Yj, nthO]; rfl)
    exact rfl
    repeat' (first | refine zgd ?_ | fail)
    apply Yo _ en68
    exact za
    exact rfl
    exact fun _ hw => (p2 (hq.mono zk) (hw))
    rintro _ _ ⟨A2, cap2, rfl, rfl⟩
    repeat' (first | (apply Yk; (repeat (first | with_reducible exact Yh | (with_reducible apply Yg; (repeat (first | with_reducible exact Yf | with_reducible apply Ye)))))) | refine zgd ?_ | fail)
    first | apply Ya en51 | apply Yb en51
    exact za
    exact rfl
    exact fun _ hw => (p3 (Rd.sl zm) hw)
    repeat' (first | (apply Yk; (repeat (first | with_reducible exact Yh | (with_reducible apply Yg; (repeat (first | with_reducible exact Yf | with_reducible apply Ye)))))) | refine zgd ?_ | (refine zge ?_ ?_ <;> intro _ <;> try (exfalso; omega)) | fail)
    apply Yi H
    · exact zk
    apply Yr; exact rfl; exact rfl; exact rfl; exact ⟨rfl, rfl⟩
  subst h1
  rw [if_neg (fun e => e rfl)]
  repeat' (first | ((first | apply Ya en50 | apply Yb en50); exact za; exact rfl; exact fun _ hw => (p1 hin.cons hw)) | refine zgc ?_ | (refine zge ?_ ?_ <;> intro _ <;> try (exfalso; omega)) | (refine zgh ?_; intro _) | fail)
  first | (rename_i gn; guard_hyp gn : Nat) | (rename_i gn _; guard_hyp gn : Nat) | (rename_i gn _ _; guard_hyp gn : Nat)
  apply YZ [0, 1, 2, 3, 4, 5, 6, 7, 8, 9] [] [true]
  kernel_rfl
  kernel_rfl
  exact zy
  (simp only [Yj, nthO]; rfl)
  exact rfl
  repeat' (first | refine zgd ?_ | fail)
  apply Yo _ en68
  exact za
  exact rfl
  exact fun _ hw => (p2 (hq.mono zk) (hw))
  rintro _ _ ⟨A2, cap2, rfl, rfl⟩
  repeat' (first | (apply Yk; (repeat (first | with_reducible exact Yh | (with_reducible apply Yg; (repeat (first | with_reducible exact Yf | with_reducible apply Ye)))))) | refine zgd ?_ | fail)
  first | apply Ya en51 | apply Yb en51
  exact za
  exact rfl
  exact fun _ hw => (p3 (Rd.sl zm) hw)
  repeat' (first | (apply Yk; (repeat (first | with_reducible exact Yh | (with_reducible apply Yg; (repeat (first | with_reducible exact Yf | with_reducible apply Ye)))))) | refine zgd ?_ | (refine zge ?_ ?_ <;> intro _ <;> try (exfalso; omega)) | fail)
  refine Yl (fun k : Nat => [(28, .int .i64 (k : Nat)), (27, .int .i64 q.length), (26, .slice A q.length cap), (2, .pointer (some ⟨gn, 0, none⟩))]) (fun _ => netA gn n :: H) (fun k => k ≤ q.length ∧ ∀ j, 0 ≤ j → j < k → F j = 0) (fun k => q.length - k) 0 ⟨Nat.zero_le _, fun j _ h => absurd h (Nat.not_lt_zero _)⟩ ?_ ?_ ?_
  · exact zu
  · exact zk
  rintro k ⟨hk, hz⟩ K hK
  have hqr' : Rd B w0 (netA gn n :: H) A (q.flatMap rqF) := hqr.cons
  by_cases hlt : k < q.length
  · obtain ⟨x, hx⟩ : ∃ x, q[k]? = some x := ⟨_, List.getElem?_eq_getElem hlt⟩
    have hFk := hFv hx
    have hxi := hq.x x (List.mem_of_getElem? hx)
    have p4 := fun {H' : List HP} {w : World} (hin : n.In B w0 H') (hx : x.In B w0 H') (hw : St B w0 H' w) => WN n x hin hx hw
    rw [← hFk] at p4
    by_cases hFz : F k = 0
    · rw [hFz] at p4
      repeat' (first | ((first | apply Ya Yga | apply Yb Yga); exact za; exact rfl; exact fun _ hw => (p4 (hin.mono zk) (hxi.mono zk) hw)) | refine zgd ?_ | (refine zge ?_ ?_ <;> intro _ <;> try (exfalso; omega)) | (refine zgh ?_; intro _) | fail)
      apply hK (k + 1)
      · exact ⟨by omega, fun j h1 h2 => by
          rcases Nat.lt_succ_iff_lt_or_eq.1 h2 with h | rfl
          · exact hz j h1 h
          · exact hFz⟩
      · omega
      · exact zu
      · exact zk
    · have hfe := Xu (f := F) (r := q.length) (i0 := 0) (i := k) (fun j h1 h2 => hz j h1 h2) (Nat.zero_le _) (by omega) hFz
      rw [hfe]
      clear hK
      repeat' (first | ((first | apply Ya Yga | apply Yb Yga); exact za; exact rfl; exact fun _ hw => (p4 (hin.mono zk) (hxi.mono zk) hw)) | refine zgd ?_ | (refine zge ?_ ?_ <;> intro _ <;> try (exfalso; omega)) | (refine zgh ?_; intro _) | fail)
      apply Yi H
      · exact zk
      apply Yr; exact rfl; exact rfl; exact rfl; exact ⟨rfl, rfl⟩
  · obtain rfl : k = q.length := by omega
    have hfe := X7 (f := F) (r := q.length) (i0 := 0) fun j h1 h2 => hz j h1 (by omega)
    rw [hfe]
    clear hK
    repeat' (first | refine zgc ?_ | (refine zge ?_ ?_ <;> intro _ <;> try (exfalso; omega)) | fail)
    apply Yi H
    · exact zk
    apply Yr; exact rfl; exact rfl; exact rfl; exact ⟨rfl, rfl⟩
open Go.RowKit Go.Eng Go.Nw Go.Rt
def runW (x : WayM) (a : Int) : List (Cel × Int) := runP x.s.len (Xk x.s.sch x.f.1) (a + x.f.2.2.2.1) (YA x.n.net x.r) a
def cntV (z : Cel × Int) : List Value := [celV z.1, .int .i64 z.2]
def Yf5 (x : WayM) (a : Int) : List (List Value) := (runW x a).map cntV
structure CtM where
  c : Nat
  a : Int
  L : List HP
structure CuM where
  k : Nat
  slot : Int
  a : Int
  c : Nat
  L : List HP
structure CvM where
  j : Nat
  k : Nat
  a : Int
  c : Nat
  L : List HP
theorem Yjk {α : Type} {W r : List α} {c : Nat} {z : α} (hc : c ≤ W.length) (h : W = W.take c ++ z :: r) : W[c]? = some z ∧ c + 1 ≤ W.length ∧ W = W.take (c + 1) ++ r := by
  have hl : (W.take c).length = c := by rw [List.length_take]; omega
  have hg : W[c]? = some z := by
    rw [h, List.getElem?_append_right (by omega), hl, Nat.sub_self]; rfl
  refine ⟨hg, (List.getElem?_eq_some_iff.1 hg).1, ?_⟩
  rw [List.take_add_one, hg]
  conv => lhs; rw [h]
  simp
theorem YeK {α : Type} {W : List α} {c : Nat} (hc : c ≤ W.length) (h : W = W.take c ++ []) : c = W.length := by
  rw [List.append_nil] at h
  have := congrArg List.length h
  rw [List.length_take] at this
  omega
set_option maxRecDepth 10000 in
set_option maxHeartbeats 8000000 in
theorem Ycz (x : WayM) (at0 : Int) (hok : VY x) (hat : 0 ≤ at0 ∧ at0 ≤ 1000000) (ga gw : Nat) {B : Nat} {w0 : World} {H : List HP} (hi : x.In B w0 H) :
    Ybk Tryz.prog 247 [.pointer (some ⟨ga, 0, none⟩), .pointer (some ⟨gw, 0, none⟩)] (Yf5 x at0) B w0 (intB ga at0 :: wayB gw x :: H) := by
  refine YgC Tryz.func247 Tryz.ntmps247 rfl rfl ?_
  intro l SS XX hy L0 h0
  have hper := hok.per
  have hslen := hok.slen
  obtain ⟨W, hW⟩ : ∃ W, runW x at0 = W := ⟨_, rfl⟩
  have hxs : Yf5 x at0 = W.map cntV := by unfold Yf5; rw [hW]
  rw [hxs] at hy ⊢
  rw [List.length_map]
  obtain ⟨endd, hend⟩ : ∃ e, at0 + x.f.2.2.2.1 = e := ⟨_, rfl⟩
  unfold runW at hW
  rw [hend] at hW
  unfold intB at hy ⊢
  iterate 3 (first | refine zga ?_ | (refine zgh ?_; intro _) | fail)
  rename_i gy
  apply Yh2
  apply Ycp
  apply Zx
  refine Zb (fun z : Nat × Nat => [(5, .pointer (some ⟨z.2, 0, none⟩)), (4, .pointer (some ⟨z.1, 0, none⟩)), (3, .pointer (some ⟨gy, 0, none⟩)), (1, .pointer (some ⟨ga, 0, none⟩)), (2, .pointer (some ⟨gw, 0, none⟩))])
    (fun z => intB z.1 at0 :: many L0 :: intB z.2 endd :: blk gy (.cells #[.func (.yield l) #[] #[]] 291 (0, 0)) :: intB ga at0 :: wayB gw x :: H) ?_ ?_
  · intro K hK
    repeat' (first | fail)
    apply Us (.n1 0 (.n1 1 (.n1 2 (.n1 3 (.n1 4 (.n1 5 (.n2 6 (.n1 7 (.n1 8 .done)) 7 (.n1 6 (.n1 8 .done))))))))) [9] [false, false, true, true]
    kernel_rfl
    kernel_rfl
    exact zy
    (simp only [Yj, nthO]; rfl)
    repeat' (first | (apply Yk; (repeat (first | with_reducible exact Yh | (with_reducible apply Yg; (repeat (first | with_reducible exact Yf | with_reducible apply Ye)))))) | apply (zs91 ?_ ?_) | (apply Y9; (repeat (first | with_reducible exact Yh | (with_reducible apply Yg; (repeat (first | with_reducible exact Yf | with_reducible apply Ye)))))) | refine zgd ?_ | (refine zgh ?_; intro _) | fail)
    · rename_i a b
      rw [hend]
      apply hK (a, b)
      · exact zu
      · unfold intB
        dsimp only
        exact zk
    · rename_i a b
      rw [hend]
      apply hK (b, a)
      · exact zu
      · unfold intB
        dsimp only
        exact zk
  rintro ⟨g4, g5⟩
  unfold intB
  dsimp only
  repeat' (first | refine zgc ?_ | fail)
  apply Yo _ YkO
  exact za
  exact rfl
  exact fun _ hw => (Yam x (hw))
  rintro _ _ ⟨g2, rfl, rfl⟩
  repeat' (first | refine zgb ?_ | fail)
  have hiK : x.In B w0 (wayB g2 x :: blk g5 (.cells #[.int .i64 endd] 3 (0, 0)) :: blk gy (.cells #[.func (.yield l) #[] #[]] 291 (0, 0)) :: blk ga (.cells #[.int .i64 at0] 3 (0, 0)) :: wayB gw x :: H) := hi.cons.cons.cons.cons.cons
  refine XG (gf := 285) (lb := [.pointer (some ⟨g2, 0, none⟩)]) (xs := ZE x) (wayB g2 x :: blk g5 (.cells #[.int .i64 endd] 3 (0, 0)) :: blk gy (.cells #[.func (.yield l) #[] #[]] 291 (0, 0)) :: blk ga (.cells #[.int .i64 at0] 3 (0, 0)) :: wayB gw x :: H) (fun y : CtM => [blk g4 (.cells #[.int .i64 y.a] 3 (0, 0)), many y.L])
    (fun k y => y.c ≤ W.length ∧ W = W.take y.c ++ runP x.s.len (Xk x.s.sch x.f.1) endd ((YA x.n.net x.r).drop k) y.a ∧ SS y.c y.L ∧ at0 ≤ y.a ∧ y.a ≤ endd)
    (fun e K => e = .ret ∧ ∃ a L, (SS W.length L ∨ XX L) ∧ K = [blk g4 (.cells #[.int .i64 a] 3 (0, 0)), many L]) ⟨0, at0, L0⟩ rfl YkQ (OH x g2 hok hiK (.head _)) rfl ?_ (by kernel_rfl) (by kernel_rfl) ?_ ⟨Nat.zero_le _, by simpa using hW.symm, h0, Int.le_refl _, by show at0 ≤ endd; omega⟩ ?_ ?_ ?_
  · intro args h
    obtain ⟨k, hk⟩ := List.mem_iff_getElem?.1 h
    obtain ⟨l, _, rfl⟩ := Vo hk
    rfl
  · simp only [List.cons_append, List.nil_append]
    exact zk
  · rintro l2 k args R ⟨c, a, L⟩ hk ⟨hc, hWk, hS, ha0, ha1⟩
    obtain ⟨lk, hlk, rfl⟩ := Vo hk
    have hbd := Wv hok hlk
    dsimp only at hc hWk hS ha0 ha1
    dsimp only [Vy, List.cons_append, List.nil_append]
    unfold lkV
    repeat' (first | refine zgd ?_ | (refine zgh ?_; intro _) | fail)
    rename_i gl
    apply Ja (Ye Yf)
    intro R'
    repeat' (first | refine zgc ?_ | fail)
    have hfew := hok.few
    apply Yo _ Yl6
    exact za
    exact rfl
    exact fun _ hw => (Ye5 x lk (by omega) (hi.mono zk).s (hw))
    rintro _ _ ⟨A, cap, rfl, rfl⟩
    have hcsl : (Xk x.s.sch x.f.1 lk).length ≤ 512 := Nat.le_trans (List.length_filter_le _ _) hfew
    have hdk : (YA x.n.net x.r).drop k = lk :: (YA x.n.net x.r).drop (k + 1) := by
      obtain ⟨h1, h2⟩ := List.getElem?_eq_some_iff.1 hlk
      rw [← h2]; exact List.drop_eq_getElem_cons h1
    rw [hdk, Yjc] at hWk
    obtain ⟨cs, hcs⟩ : ∃ cs, Xk x.s.sch x.f.1 lk = cs := ⟨_, rfl⟩
    obtain ⟨ls, hls⟩ : ∃ ls, (YA x.n.net x.r).drop (k + 1) = ls := ⟨_, rfl⟩
    obtain ⟨C, hC⟩ : ∃ C, Xk x.s.sch x.f.1 = C := ⟨_, rfl⟩
    rw [hcs, hls, hC] at hWk
    rw [hcs] at hcsl ⊢
    rw [hC, hls]
    unfold cels
    repeat' (first | refine zgb ?_ | fail)
    rw [show lk.2.2 + 1 = ((YJ lk : Nat) : Int) from by unfold YJ; omega]
    have hnl8 : YJ lk ≤ 8 := by unfold YJ; omega
    refine Yl (fun z : CuM => [(9, .int .i64 z.slot), (7, .int .i64 (z.k : Nat)), (8, .slice A cs.length cap), (6, .pointer (some ⟨gl, 0, none⟩)), (5, .pointer (some ⟨g5, 0, none⟩)), (4, .pointer (some ⟨g4, 0, none⟩)), (3, .pointer (some ⟨gy, 0, none⟩)), (1, .pointer (some ⟨ga, 0, none⟩)), (2, .pointer (some ⟨gw, 0, none⟩))])
      (fun z => R' :: blk g4 (.cells #[.int .i64 z.a] 3 (0, 0)) :: many z.L :: sl 40 5 A cs.length cap (cs.flatMap celF) :: blk gl (.cells #[.int .i64 lk.1, .int .i64 lk.2.1, .int .i64 lk.2.2] 172 (0, 0)) :: wayB g2 x :: blk g5 (.cells #[.int .i64 endd] 3 (0, 0)) :: blk gy (.cells #[.func (.yield l) #[] #[]] 291 (0, 0)) :: blk ga (.cells #[.int .i64 at0] 3 (0, 0)) :: wayB gw x :: H)
      (fun z => z.c ≤ W.length ∧ W = W.take z.c ++ VO x.s.len C endd cs ls (endd - z.slot).toNat z.k z.slot z.a ∧ SS z.c z.L ∧ (at0 ≤ z.a ∧ z.a ≤ endd) ∧ (at0 ≤ z.slot ∧ z.slot ≤ endd) ∧ z.k ≤ 8) (fun z => (endd - z.slot).toNat) ⟨YJ lk, a, a, c, L⟩ ⟨hc, hWk, hS, ⟨ha0, ha1⟩, ⟨ha0, ha1⟩, hnl8⟩ ?_ ?_ ?_
    · exact zu
    · exact zk
    rintro ⟨kk, slot, a, c, L⟩ ⟨hc, hWk, hS, ⟨ha0, ha1⟩, ⟨hs0, hs1⟩, hk8⟩ K hK
    dsimp only at hc hWk hS ha0 ha1 hs0 hs1 hk8 ⊢
    by_cases hk0 : kk = 0
    · subst hk0
      rw [YhH] at hWk
      clear hK
      repeat' (first | refine zgc ?_ | (refine zge ?_ ?_ <;> intro _ <;> try (exfalso; omega)) | fail)
      apply JA (CtM.mk c a L)
      · exact ⟨hc, hWk, hS, ha0, ha1⟩
      · dsimp only [List.cons_append, List.nil_append]
        exact zk
    by_cases hse : endd ≤ slot
    · rw [show (endd - slot).toNat = 0 by omega, Yjj hk0] at hWk
      have hce := YeK hc hWk
      rw [hce] at hS
      clear hK
      repeat' (first | refine zgc ?_ | (refine zgf ?_ ?_ <;> intro _ <;> try (exfalso; omega)) | fail)
      apply Qy [blk g4 (.cells #[.int .i64 a] 3 (0, 0)), many L]
      · exact ⟨rfl, a, L, .inl hS, rfl⟩
      · dsimp only [List.cons_append, List.nil_append]
        exact zk
    obtain ⟨f, hf⟩ : ∃ f, (endd - (slot + 1)).toNat = f := ⟨_, rfl⟩
    have hf1 : (endd - slot).toNat = f + 1 := by omega
    have hmt : slot.tmod x.s.len = slot % x.s.len := Int.tmod_eq_emod_of_nonneg (by omega)
    rw [hf1, ← Yi8] at hWk
    repeat' (first | refine zgb ?_ | (refine zgf ?_ ?_ <;> intro _ <;> try (exfalso; omega)) | fail)
    refine Yl (fun y : CvM => [(37, .int .i64 (y.j : Nat)), (36, .int .i64 cs.length), (35, .slice A cs.length cap), (9, .int .i64 slot), (7, .int .i64 (y.k : Nat)), (8, .slice A cs.length cap), (6, .pointer (some ⟨gl, 0, none⟩)), (5, .pointer (some ⟨g5, 0, none⟩)), (4, .pointer (some ⟨g4, 0, none⟩)), (3, .pointer (some ⟨gy, 0, none⟩)), (1, .pointer (some ⟨ga, 0, none⟩)), (2, .pointer (some ⟨gw, 0, none⟩))])
      (fun y => R' :: blk g4 (.cells #[.int .i64 y.a] 3 (0, 0)) :: many y.L :: sl 40 5 A cs.length cap (cs.flatMap celF) :: blk gl (.cells #[.int .i64 lk.1, .int .i64 lk.2.1, .int .i64 lk.2.2] 172 (0, 0)) :: wayB g2 x :: blk g5 (.cells #[.int .i64 endd] 3 (0, 0)) :: blk gy (.cells #[.func (.yield l) #[] #[]] 291 (0, 0)) :: blk ga (.cells #[.int .i64 at0] 3 (0, 0)) :: wayB gw x :: H)
      (fun y => y.j ≤ cs.length ∧ y.c ≤ W.length ∧ W = W.take y.c ++ UQ x.s.len C endd cs (cs.drop y.j) ls f y.k slot y.a ∧ SS y.c y.L ∧ (at0 ≤ y.a ∧ y.a ≤ endd) ∧ y.k ≤ 8) (fun y => cs.length - y.j) ⟨0, kk, a, c, L⟩ ⟨Nat.zero_le _, hc, hWk, hS, ⟨ha0, ha1⟩, hk8⟩ ?_ ?_ ?_
    · exact zu
    · exact zk
    clear hWk hS hc hk0 hk8 ha0 ha1
    rintro ⟨j, kk, a, c, L⟩ ⟨hj, hc, hWk, hS, ⟨ha0, ha1⟩, hk8⟩ K2 hK2
    dsimp only at hj hc hWk hS ha0 ha1 hk8 ⊢
    by_cases hjl : j < cs.length
    rotate_left
    · obtain rfl : j = cs.length := by omega
      rw [List.drop_length, Yi9] at hWk
      clear hK2
      repeat' (first | refine zgc ?_ | (refine zge ?_ ?_ <;> intro _ <;> try (exfalso; omega)) | fail)
      apply hK ⟨kk, slot + 1, a, c, L⟩
      · exact ⟨hc, by rw [hf]; exact hWk, hS, ⟨ha0, ha1⟩, ⟨by show at0 ≤ slot + 1; omega, by show slot + 1 ≤ endd; omega⟩, hk8⟩
      · dsimp only; omega
      · exact zu
      · exact fun w hw => hw
    obtain ⟨d, hd⟩ : ∃ d, cs[j]? = some d := ⟨_, List.getElem?_eq_getElem hjl⟩
    have hdj : cs.drop j = d :: cs.drop (j + 1) := by
      obtain ⟨h1, h2⟩ := List.getElem?_eq_some_iff.1 hd
      rw [← h2]; exact List.drop_eq_getElem_cons h1
    rw [hdj] at hWk
    by_cases hcd : d.1 = slot % x.s.len ∧ kk ≠ 0
    · obtain ⟨hcd1, hcd2⟩ := hcd
      obtain ⟨k3, rfl⟩ : ∃ k3, kk = k3 + 1 := ⟨kk - 1, by omega⟩
      rw [Yja (by rw [hmt]; exact hcd1) hcd2, Nat.add_sub_cancel] at hWk
      obtain ⟨hx, hc1, hW1⟩ := Yjk hc hWk
      have hx : (W.map cntV)[c]? = some [celV d, .int .i64 slot] := by rw [List.getElem?_map, hx]; rfl
      repeat' (first | (refine Ycf 3 57 rfl rfl rfl ?_) | refine zgd ?_ | (refine zgf ?_ ?_ <;> intro _ <;> try (exfalso; omega)) | (refine zgh ?_; intro _) | fail)
      first | (rename_i gc _ _; guard_hyp gc : Nat) | (rename_i gc _; guard_hyp gc : Nat) | (rename_i gc _ _ _; guard_hyp gc : Nat)
      rw [show ((k3 + 1 : Nat) : Int) - 1 = (k3 : Int) by omega]
      apply Yi (R' :: blk gc (.cells #[.int .i64 d.1, .int .i64 d.2.1, .int .i64 d.2.2.1, .int .i64 d.2.2.2.1, .int .i64 d.2.2.2.2] 40 (0, 0)) :: sl 40 5 A cs.length cap (cs.flatMap celF) :: blk gl (.cells #[.int .i64 lk.1, .int .i64 lk.2.1, .int .i64 lk.2.2] 172 (0, 0)) :: blk g4 (.cells #[.int .i64 (slot + 1)] 3 (0, 0)) :: wayB g2 x :: blk g5 (.cells #[.int .i64 endd] 3 (0, 0)) :: blk gy (.cells #[.func (.yield l) #[] #[]] 291 (0, 0)) :: many L :: blk ga (.cells #[.int .i64 at0] 3 (0, 0)) :: wayB gw x :: H)
      · exact zk
      have hY := hy c _ hx [R', blk gc (.cells #[.int .i64 d.1, .int .i64 d.2.1, .int .i64 d.2.2.1, .int .i64 d.2.2.2.1, .int .i64 d.2.2.2.2] 40 (0, 0)), sl 40 5 A cs.length cap (cs.flatMap celF), blk gl (.cells #[.int .i64 lk.1, .int .i64 lk.2.1, .int .i64 lk.2.2] 172 (0, 0)), blk g4 (.cells #[.int .i64 (slot + 1)] 3 (0, 0)), wayB g2 x, blk g5 (.cells #[.int .i64 endd] 3 (0, 0)), blk gy (.cells #[.func (.yield l) #[] #[]] 291 (0, 0))] L hS
      apply YgM _ _ (hy := hY)
      · exact OX
      · exact rfl
      · exact za
      · exact rfl
      · rintro ⟨_, _, h⟩; exact h
      · exact rfl
      · rintro _ ⟨L', hS', rfl⟩
        dsimp only [List.cons_append, List.nil_append]
        repeat' (first | refine zgc ?_ | fail)
        apply hK2 ⟨j + 1, k3, slot + 1, c + 1, L'⟩
        · exact ⟨by show j + 1 ≤ _; omega, hc1, hW1, hS', ⟨by show at0 ≤ slot + 1; omega, by show slot + 1 ≤ endd; omega⟩, by show k3 ≤ 8; omega⟩
        · dsimp only; omega
        · exact zu
        · exact zk
      · rintro _ ⟨L', hX', rfl⟩
        dsimp only [List.cons_append, List.nil_append]
        repeat' (first | refine zgd ?_ | fail)
        apply Qy [blk g4 (.cells #[.int .i64 (slot + 1)] 3 (0, 0)), many L']
        · exact ⟨rfl, slot + 1, L', .inr hX', rfl⟩
        · dsimp only [List.cons_append, List.nil_append]
          exact zk
    · rw [Yki (by rw [hmt]; exact hcd)] at hWk
      repeat' (first | refine zgd ?_ | (refine zgf ?_ ?_ <;> intro _ <;> try (exfalso; omega)) | (refine zgh ?_; intro _) | fail)
      all_goals (
        apply hK2 ⟨j + 1, kk, a, c, L⟩
        · exact ⟨by show j + 1 ≤ _; omega, hc, hWk, hS, ⟨ha0, ha1⟩, hk8⟩
        · dsimp only; omega
        · exact zu
        · exact zk)
  · rintro D ⟨c, a, L⟩ ⟨hc, hWk, hS, ha0, ha1⟩
    dsimp only at hc hWk hS ha0 ha1
    have hle : (ZE x).length = (YA x.n.net x.r).length := by unfold ZE; rw [List.length_map]
    rw [hle, List.drop_length] at hWk
    have hce := YeK hc hWk
    rw [hce] at hS
    dsimp only [List.cons_append, List.nil_append]
    repeat' (first | refine zgc ?_ | fail)
    apply YjK
    apply Zf Yf
    apply VQ_m
    apply Yi (many L :: blk ga (.cells #[.int .i64 at0] 3 (0, 0)) :: wayB gw x :: H)
    · exact zk
    apply XU; exact rfl
    exact .inl ⟨L, hS, rfl⟩
  · rintro D _ _ ⟨rfl, a, L, hSL, rfl⟩ _
    dsimp only [List.cons_append, List.nil_append]
    repeat' (first | refine zgc ?_ | fail)
    apply Zf Yf
    apply VQ_m
    apply Yi (many L :: blk ga (.cells #[.int .i64 at0] 3 (0, 0)) :: wayB gw x :: H)
    · exact zk
    apply XU; exact rfl
    rcases hSL with h | h
    · exact .inl ⟨L, h, rfl⟩
    · exact .inr ⟨L, h, rfl⟩
open Go.RowKit Go.Eng Go.Nw Go.Rt
def relE (x : WayM) (a : Int) : Int × List Int × Bool := match YaM x.n.net x.s.sch x.f x.r a with
  | none => (0, [], false)
  | some l => (ZN l - a + 1, l.map (fun z => z - a), true)
theorem Og (x : WayM) (a : Int) : YaM x.n.net x.s.sch x.f x.r a = if (runW x a).length < Y7 (YA x.n.net x.r) then none else some ((runW x a).map Prod.snd) := YcX _ _ _ _ _
theorem YdQ (x : WayM) (a : Int) {B : Nat} {w0 : World} {H : List HP} {w : World} (hw : St B w0 H w) :
    Calls Tryz.prog 207 [x.val, .int .i64 a].toArray w (Post B w0 fun v K => ∃ ga gw, v = .func (.func 247) #[] #[.pointer (some ⟨ga, 0, none⟩), .pointer (some ⟨gw, 0, none⟩)] ∧ K = intB ga a :: wayB gw x :: H) := by
  refine Yc Tryz.func207 Tryz.ntmps207 rfl rfl hw ?_
  unfold WayM.val intB
  repeat' (first | (apply zg23; first | (refine zs52 ?_; intro _) | (refine zs53 ?_; intro _)) | (apply zg29; (apply Yq; exact za ; exact rfl)) | refine zga ?_ | fail)
  apply Yd; exact rfl; exact rfl
  exact ⟨_, _, rfl, rfl⟩
structure NlM where
  A : Option Addr
  cap : Nat
  l : List Int
theorem Yei {x : WayM} (hok : VY x) : 1 ≤ Y7 (YA x.n.net x.r) := by
  have hl := hok.len
  have h0 := U5 (n := x.n.net) (r := x.r) (i := 0) (by omega)
  have hbd := Wv hok h0
  have hne : (YA x.n.net x.r) = X0 x.n.net x.r 0 :: (YA x.n.net x.r).tail := by
    cases h : YA x.n.net x.r with
    | nil => rw [h] at h0; cases h0
    | cons a t => rw [h] at h0; cases h0; rfl
  rw [hne]
  unfold Y7 YJ
  rw [List.map_cons, List.sum_cons]
  omega
set_option maxRecDepth 10000 in
set_option maxHeartbeats 4000000 in
theorem YcU (x : WayM) (at0 : Int) (hok : VY x) (hat : 0 ≤ at0 ∧ at0 ≤ 1000000) {B : Nat} {w0 : World} {H : List HP} {w : World} (hi : x.In B w0 H) (hw : St B w0 H w) :
    Calls Tryz.prog 149 [x.val, .int .i64 at0].toArray w (Post B w0 fun v K => ∃ A cap, v = .tuple #[.int .i64 (relE x at0).1, .slice A (relE x at0).2.1.length cap, .bool (relE x at0).2.2] ∧ K = nrs A cap (relE x at0).2.1 :: H) := by
  refine XF Tryz.func149 Tryz.ntmps149 rfl rfl hw ?_
  have hper := hok.per
  have hl9 := hok.len
  have hnp := Yei hok
  have hnl : Y7 (YA x.n.net x.r) ≤ 72 := by
    have h1 := Qe hok (YA x.n.net x.r).length
    rw [List.take_length, Vp] at h1
    omega
  have hRE : relE x at0 = if (runW x at0).length < Y7 (YA x.n.net x.r) then (0, [], false) else (ZN ((runW x at0).map Prod.snd) - at0 + 1, ((runW x at0).map Prod.snd).map (fun z => z - at0), true) := by
    unfold relE
    rw [Og]
    by_cases h : (runW x at0).length < Y7 (YA x.n.net x.r)
    · rw [if_pos h, if_pos h]
    · rw [if_neg h, if_neg h]
  have hWl : (runW x at0).length ≤ Y7 (YA x.n.net x.r) := Qi _ _ _ _ _
  have hWs : ∀ z ∈ runW x at0, at0 ≤ z.2 ∧ z.2 < at0 + x.f.2.2.2.1 := fun z hz => Qj (by omega) hz
  have hiter := fun {ga gw : Nat} {H' : List HP} (hi : x.In B w0 H') => Ycz x at0 hok hat ga gw hi
  have hxs : Yf5 x at0 = (runW x at0).map cntV := rfl
  rw [hxs] at hiter
  obtain ⟨W, hW⟩ : ∃ W, runW x at0 = W := ⟨_, rfl⟩
  obtain ⟨nd, hnd⟩ : ∃ nd, Y7 (YA x.n.net x.r) = nd := ⟨_, rfl⟩
  have hned := fun {H' : List HP} {w : World} (hi : x.In B w0 H') (hw : St B w0 H' w) => Yej x hok hi hw
  rw [hW, hnd] at hRE hWl
  rw [hW] at hWs hiter
  rw [hnd] at hnp hnl hned
  rw [hRE]
  unfold WayM.val
  unfold intB at hiter
  repeat' (first | (apply zg23; first | (refine zs52 ?_; intro _) | (refine zs53 ?_; intro _)) | refine zgc ?_ | (refine zgh ?_; intro _) | fail)
  rename_i g2 g3 gO
  apply Yo _ YlZ
  exact za
  exact rfl
  exact fun _ hw => (YdQ x at0 (hw))
  rintro _ _ ⟨ga, gw, rfl, rfl⟩
  unfold intB
  repeat' (first | refine zgb ?_ | fail)
  refine ZL 3 1 ?_
  refine XG (gf := 247) (lb := [.pointer (some ⟨ga, 0, none⟩), .pointer (some ⟨gw, 0, none⟩)]) (xs := W.map cntV) (blk ga (.cells #[.int .i64 at0] 3 (0, 0)) :: wayB gw x :: blk g3 (.cells #[.int .i64 at0] 3 (0, 0)) :: wayB g2 x :: H) (fun y : NlM => [blk gO (.cells #[.slice y.A y.l.length y.cap] 24 (0, 0)), nrs y.A y.cap y.l]) (fun i y => y.l = (W.take i).map (fun z => z.2 - at0)) (fun _ _ => False) ⟨none, 0, []⟩ rfl Yl5 (hiter hi.cons.cons) rfl ?_ (by kernel_rfl) (by kernel_rfl) ?_ rfl ?_ ?_ (fun _ _ _ h => h.elim)
  · intro args h
    obtain ⟨z, _, rfl⟩ := List.mem_map.1 h
    rfl
  · simp only [List.cons_append, List.nil_append, List.length_nil]
    intro w hw
    have h1 : St B w0 (nrs none 0 [] :: blk ga (.cells #[.int .i64 at0] 3 (0, 0)) :: wayB gw x :: blk gO (.cells #[.slice none 0 0] 24 (0, 0)) :: blk g3 (.cells #[.int .i64 at0] 3 (0, 0)) :: wayB g2 x :: H) w := hw
    clear hw
    revert w
    exact zk
  · rintro l k args R ⟨A, cap, xs⟩ hk hI
    rw [List.getElem?_map] at hk
    obtain ⟨⟨d, sl⟩, hz, rfl⟩ : ∃ z, W[k]? = some z ∧ args = cntV z := by
      cases h : W[k]? with
      | none => rw [h] at hk; cases hk
      | some z => rw [h] at hk; exact ⟨z, rfl, (Option.some.inj hk).symm⟩
    have hzb := hWs _ (List.mem_of_getElem? hz)
    have hI : xs = (W.take k).map (fun z => z.2 - at0) := hI
    have hxl : xs.length ≤ 72 := by
      rw [hI, List.length_map, List.length_take]; omega
    dsimp only at hzb
    dsimp only [Vy, cntV, List.cons_append, List.nil_append]
    repeat' (first | refine zga ?_ | fail)
    apply Ja Yf
    intro R'
    repeat' (first | refine zgd ?_ | (refine zgh ?_; intro _) | (refine zgi ?_; intro _ _) | fail)
    rename_i A' cap'
    apply JA (NlM.mk A' cap' (xs ++ [sl - at0]))
    · show xs ++ [sl - at0] = _
      rw [List.take_add_one, hz, Option.toList_some, List.map_append, hI]; rfl
    · dsimp only [List.cons_append, List.nil_append]
      rw [ZQ, show xs.length + 1 = (xs ++ [sl - at0]).length by simp]
      exact zk
  · rintro D ⟨A, cap, xs⟩ hI
    have hI : xs = (W.take (W.map cntV).length).map (fun z => z.2 - at0) := hI
    rw [List.length_map, List.take_length] at hI
    have hxl : xs.length = W.length := by rw [hI, List.length_map]
    dsimp only [List.cons_append, List.nil_append]
    have hll : ((W.map Prod.snd).map (fun z => z - at0)) = xs := by rw [hI, List.map_map]; rfl
    by_cases hlt : W.length < nd
    · rw [if_pos hlt]
      repeat' (first | refine zgc ?_ | fail)
      apply YL [0, 1, 2, 3, 4] []
      kernel_rfl
      kernel_rfl
      (simp only [Yj, nthO]; rfl)
      exact rfl
      repeat' (first | refine zgd ?_ | fail)
      first | apply Ya Ygg | apply Yb Ygg
      exact za
      exact rfl
      exact fun _ hw => (hned (hi.mono zk) hw)
      repeat' (first | (apply Yk; (repeat (first | with_reducible exact Yh | (with_reducible apply Yg; (repeat (first | with_reducible exact Yf | with_reducible apply Ye)))))) | refine zga ?_ | fail)
      · show Perm H (H ++ [])
        rw [List.append_nil]; exact Perm.refl _
      repeat' (first | refine zgd ?_ | (refine zge ?_ ?_ <;> intro _ <;> try (exfalso; omega)) | fail)
      apply Zf Yf
      apply VQ_m
      apply Yi (nrs none 0 [] :: H)
      · intro w hw
        have h5 : St B w0 H w := by
          revert w
          exact zk
        exact h5.nilSlice _ _
      apply XV; exact rfl; exact rfl; exact rfl; exact rfl
      exact ⟨none, 0, rfl, rfl⟩
    · rw [if_neg hlt, hll]
      obtain ⟨z, hz⟩ : ∃ z, W[W.length - 1]? = some z := ⟨_, List.getElem?_eq_getElem (by omega)⟩
      have hzb := hWs _ (List.mem_of_getElem? hz)
      have hx1 : xs[((xs.length : Int) - 1).toNat]? = some (z.2 - at0) := by
        rw [show ((xs.length : Int) - 1).toNat = W.length - 1 by omega, hI, List.getElem?_map, hz]; rfl
      have hla : ZN (W.map Prod.snd) = z.2 := by
        unfold ZN
        rw [List.length_map, List.getD_eq_getElem?_getD, List.getElem?_map, hz]; rfl
      rw [hla]
      repeat' (first | refine zgc ?_ | fail)
      apply YL [0, 1, 2, 3, 4] []
      kernel_rfl
      kernel_rfl
      (simp only [Yj, nthO]; rfl)
      exact rfl
      repeat' (first | refine zgd ?_ | fail)
      first | apply Ya Ygg | apply Yb Ygg
      exact za
      exact rfl
      exact fun _ hw => (hned (hi.mono zk) hw)
      repeat' (first | (apply Yk; (repeat (first | with_reducible exact Yh | (with_reducible apply Yg; (repeat (first | with_reducible exact Yf | with_reducible apply Ye)))))) | refine zga ?_ | fail)
      · show Perm H (H ++ [])
        rw [List.append_nil]; exact Perm.refl _
      repeat' (first | refine zgd ?_ | (refine zge ?_ ?_ <;> intro _ <;> try (exfalso; omega)) | fail)
      apply Zf Yf
      apply VQ_m
      apply Yi (nrs A cap xs :: H)
      · exact zk
      apply XV; exact rfl; exact rfl; exact rfl; exact rfl
      exact ⟨A, cap, rfl, rfl⟩
def Qb (R : Option (Int × Int × List Int)) : Int × Int × List Int × Bool := match R with
  | none => (0, 0, [], false)
  | some b => (b.1, b.2.1, b.2.2, true)
def V1 (x : WayM) : Int × Int × List Int × Bool := Qb (V0 x.n.net x.s.sch x.f x.r)
theorem Yjg {x : WayM} (hok : VY x) {a : Int} {l : List Int} (h : YaM x.n.net x.s.sch x.f x.r a = some l) : 1 ≤ l.length ∧ a ≤ ZN l ∧ ZN l < a + x.f.2.2.2.1 := by
  have hper := hok.per
  have hnp := Yei hok
  rw [Og] at h
  split at h
  · cases h
  rename_i hge
  obtain rfl := Option.some.inj h
  rw [List.length_map]
  obtain ⟨z, hz⟩ : ∃ z, (runW x a)[(runW x a).length - 1]? = some z := ⟨_, List.getElem?_eq_getElem (by omega)⟩
  have hzb := Qj (by omega) (List.mem_of_getElem? hz)
  have hla : ZN ((runW x a).map Prod.snd) = z.2 := by
    unfold ZN
    rw [List.length_map, List.getD_eq_getElem?_getD, List.getElem?_map, hz]; rfl
  rw [hla]
  exact ⟨by omega, hzb⟩
structure BdM where
  k : Nat
  rel : Int
  b : Int × Int × List Int
  A : Option Addr
  cap : Nat
set_option maxRecDepth 10000 in
set_option maxHeartbeats 4000000 in
theorem Ye2 (x : WayM) (hok : VY x) {B : Nat} {w0 : World} {H : List HP} {w : World} (hi : x.In B w0 H) (hw : St B w0 H w) :
    Calls Tryz.prog 86 [x.val].toArray w (Post B w0 fun v K => ∃ A cap, v = .tuple #[.int .i64 (V1 x).1, .int .i64 (V1 x).2.1, .slice A (V1 x).2.2.1.length cap, .bool (V1 x).2.2.2] ∧ K = nrs A cap (V1 x).2.2.1 :: H) := by
  refine Yc Tryz.func86 Tryz.ntmps86 rfl rfl hw ?_
  have hper := hok.per
  have hph := hok.ph
  have hsl := hok.slen
  obtain ⟨R, hR⟩ : ∃ R, V0 x.n.net x.s.sch x.f x.r = R := ⟨_, rfl⟩
  have hO : V1 x = Qb R := by unfold V1; rw [hR]
  rw [hO]
  unfold V0 at hR
  rw [show x.s.sch.len = x.s.len from rfl] at hR
  obtain ⟨S, hS⟩ : ∃ S, YaM x.n.net x.s.sch x.f x.r = S := ⟨_, rfl⟩
  rw [hS] at hR
  have hrl := fun {H' : List HP} {w : World} (a : Int) (ha : 0 ≤ a ∧ a ≤ 1000000) (hi : x.In B w0 H') (hw : St B w0 H' w) => YcU x a hok ha hi hw
  unfold WayM.val
  repeat' (first | refine zgb ?_ | (refine zgh ?_; intro _) | fail)
  rename_i g
  refine ZL 3 1 ?_
  refine Yl (fun z : BdM => [(9, .int .i64 z.rel), (8, .slice z.A z.b.2.2.length z.cap), (7, .int .i64 z.b.2.1), (6, .int .i64 z.b.1), (1, .pointer (some ⟨g, 0, none⟩))]) (fun z => nrs z.A z.cap z.b.2.2 :: wayB g x :: H)
    (fun z => VH S x.s.len x.f.2.2.2.1 z.k z.rel z.b = R ∧ x.s.len - z.rel ≤ z.k ∧ 0 ≤ z.rel ∧ z.rel ≤ 2000 ∧ 0 ≤ z.b.1 ∧ z.b.1 ≤ 2000) (fun z => z.k) ⟨x.s.len.toNat, x.f.2.2.2.2.1, (0, 0, []), none, 0⟩ ⟨hR, by show x.s.len - x.f.2.2.2.2.1 ≤ ((x.s.len.toNat : Nat) : Int); omega, hph.1, by show x.f.2.2.2.2.1 ≤ 2000; omega, Int.le_refl _, by show (0 : Int) ≤ 2000; decide⟩ ?_ (fun w hw => hw) ?_
  · exact zu
  rintro ⟨k, rel, ⟨b1, b2, bl⟩, A, cap⟩ ⟨hb, hk, h0, h1, hb0, hb1⟩ K hK
  dsimp only at hb hk h0 h1 hb0 hb1 ⊢
  by_cases hge : x.s.len ≤ rel
  · have hRe : R = some (b1, b2, bl) := by
      rw [← hb]
      cases k with
      | zero => rfl
      | succ k => unfold VH; rw [if_pos hge]
    rw [hRe]
    clear hK
    repeat' (first | refine zgc ?_ | (refine zge ?_ ?_ <;> intro _ <;> try (exfalso; omega)) | fail)
    apply Yi (nrs A cap bl :: H)
    · exact zk
    apply We; exact rfl; exact rfl; exact rfl; exact rfl; exact rfl
    exact ⟨A, cap, rfl, rfl⟩
  obtain ⟨k, rfl⟩ : ∃ k', k = k' + 1 := ⟨k - 1, by omega⟩
  unfold VH at hb
  rw [if_neg hge] at hb
  have hrr := fun {H' : List HP} {w : World} (hi : x.In B w0 H') (hw : St B w0 H' w) => hrl rel (by omega) hi hw
  unfold relE at hrr
  rw [hS] at hrr
  cases hSr : S rel with
  | none =>
    rw [hSr] at hb hrr
    dsimp only at hb hrr
    rw [← hb]
    clear hK
    repeat' (first | refine zgc ?_ | (refine zge ?_ ?_ <;> intro _ <;> try (exfalso; omega)) | fail)
    apply Yo _ YkF
    exact za
    exact rfl
    exact fun _ hw => (hrr (hi.mono zk) (hw))
    rintro _ _ ⟨A2, cap2, rfl, rfl⟩
    repeat' (first | refine zgd ?_ | fail)
    apply Yi (nrs none 0 [] :: H)
    · intro w hw
      have h5 : St B w0 H w := by
        revert w
        exact zk
      exact h5.nilSlice _ _
    apply We; exact rfl; exact rfl; exact rfl; exact rfl; exact rfl
    exact ⟨none, 0, rfl, rfl⟩
  | some l =>
    rw [hSr] at hb hrr
    dsimp only at hb hrr
    have hlb : 0 ≤ ZN l - rel + 1 ∧ ZN l - rel + 1 ≤ 513 := by
      have := Yjg hok (a := rel) (l := l) (by rw [hS]; exact hSr)
      omega
    obtain ⟨m, hm⟩ : ∃ m, ZN l - rel + 1 = m := ⟨_, rfl⟩
    rw [hm] at hb hrr hlb
    repeat' (first | refine zgc ?_ | (refine zge ?_ ?_ <;> intro _ <;> try (exfalso; omega)) | fail)
    apply Yo _ YkF
    exact za
    exact rfl
    exact fun _ hw => (hrr (hi.mono zk) (hw))
    rintro _ _ ⟨A2, cap2, rfl, rfl⟩
    by_cases hgt : b1 < m
    · rw [if_pos hgt] at hb
      repeat' (first | refine zgd ?_ | (refine zge ?_ ?_ <;> intro _ <;> try (exfalso; omega)) | fail)
      apply hK ⟨k, rel + x.f.2.2.2.1, (m, rel, l.map fun z => z - rel), A2, cap2⟩
      · exact ⟨hb, by show x.s.len - (rel + x.f.2.2.2.1) ≤ ((k : Nat) : Int); omega, by show 0 ≤ rel + x.f.2.2.2.1; omega, by show rel + x.f.2.2.2.1 ≤ 2000; omega, hlb.1, by show m ≤ 2000; omega⟩
      · dsimp only; omega
      · exact zu
      · exact zk
    · rw [if_neg hgt] at hb
      repeat' (first | refine zgd ?_ | (refine zge ?_ ?_ <;> intro _ <;> try (exfalso; omega)) | fail)
      apply hK ⟨k, rel + x.f.2.2.2.1, (b1, b2, bl), A, cap⟩
      · exact ⟨hb, by show x.s.len - (rel + x.f.2.2.2.1) ≤ ((k : Nat) : Int); omega, by show 0 ≤ rel + x.f.2.2.2.1; omega, by show rel + x.f.2.2.2.1 ≤ 2000; omega, hb0, hb1⟩
      · dsimp only; omega
      · exact zu
      · exact zk
open Go.RowKit Go.Eng Go.Nw Go.Rt
set_option maxRecDepth 10000 in
set_option maxHeartbeats 4000000 in
theorem YfB (x : WayM) {B : Nat} {w0 : World} {H : List HP} {w : World} (ht : TabsB B w0) (hi : x.In B w0 H) (hw : St B w0 H w) :
    Calls Tryz.prog 34 [x.n.val, x.s.val, flwV x.f, .slice x.A x.r.length x.cap].toArray w (Post B w0 fun v K => ∃ A cap, v = .tuple #[.int .i64 (YP x.n.net x.s.sch x.f x.r).1.1, .int .i64 (YP x.n.net x.s.sch x.f x.r).1.2.1, .slice A (YP x.n.net x.s.sch x.f x.r).1.2.2.length cap, .int .i64 (YP x.n.net x.s.sch x.f x.r).2] ∧ K = nrs A cap (YP x.n.net x.s.sch x.f x.r).1.2.2 :: H) := by
  refine Yc Tryz.func34 Tryz.ntmps34 rfl rfl hw ?_
  have p1 := fun {H' : List HP} {w : World} (hi : x.In B w0 H') (hw : St B w0 H' w) => YeP x ht hi hw
  obtain ⟨R, hR⟩ : ∃ R, YP x.n.net x.s.sch x.f x.r = R := ⟨_, rfl⟩
  rw [hR]
  unfold YP at hR
  obtain ⟨e, he⟩ : ∃ e, wayE x.n.net x.s.sch x.f x.r = e := ⟨_, rfl⟩
  rw [he] at p1 hR
  unfold NetM.val SchM.val flwV
  by_cases h0 : e = 0
  rotate_left
  · rw [if_pos h0] at hR
    subst hR
    repeat' (first | ((first | apply Ya en85 | apply Yb en85); exact za; exact rfl; exact fun _ hw => (p1 (hi.mono zk) hw)) | refine zgd ?_ | (refine zge ?_ ?_ <;> intro _ <;> try (exfalso; omega)) | (refine zgh ?_; intro _) | fail)
    apply Yi (nrs none 0 [] :: H)
    · intro w hw
      have h5 : St B w0 H w := by
        revert w
        exact zk
      exact h5.nilSlice _ _
    apply We; exact rfl; exact rfl; exact rfl; exact rfl; exact rfl
    exact ⟨none, 0, rfl, rfl⟩
  subst h0
  rw [if_neg (fun h => h rfl)] at hR
  have hok := YgB he
  have p2 := fun {H' : List HP} {w : World} (hi : x.In B w0 H') (hw : St B w0 H' w) => Ye2 x hok hi hw
  unfold V1 at p2
  cases hb : V0 x.n.net x.s.sch x.f x.r with
  | none =>
    rw [hb] at hR p2
    dsimp only [Qb] at hR p2
    subst hR
    repeat' (first | ((first | apply Ya en85 | apply Yb en85); exact za; exact rfl; exact fun _ hw => (p1 (hi.mono zk) hw)) | refine zgd ?_ | (refine zge ?_ ?_ <;> intro _ <;> try (exfalso; omega)) | (refine zgh ?_; intro _) | fail)
    apply Yo _ en86
    exact za
    exact rfl
    exact fun _ hw => (p2 (hi.mono zk) (hw))
    rintro _ _ ⟨A2, cap2, rfl, rfl⟩
    repeat' (first | refine zgd ?_ | fail)
    apply Yi (nrs none 0 [] :: H)
    · intro w hw
      have h5 : St B w0 H w := by
        revert w
        exact zk
      exact h5.nilSlice _ _
    apply We; exact rfl; exact rfl; exact rfl; exact rfl; exact rfl
    exact ⟨none, 0, rfl, rfl⟩
  | some b =>
    rw [hb] at hR p2
    dsimp only [Qb] at hR p2
    subst hR
    repeat' (first | ((first | apply Ya en85 | apply Yb en85); exact za; exact rfl; exact fun _ hw => (p1 (hi.mono zk) hw)) | refine zgd ?_ | (refine zge ?_ ?_ <;> intro _ <;> try (exfalso; omega)) | (refine zgh ?_; intro _) | fail)
    apply Yo _ en86
    exact za
    exact rfl
    exact fun _ hw => (p2 (hi.mono zk) (hw))
    rintro _ _ ⟨A2, cap2, rfl, rfl⟩
    repeat' (first | refine zgd ?_ | fail)
    apply Yi (nrs A2 cap2 b.2.2 :: H)
    · exact zk
    apply We; exact rfl; exact rfl; exact rfl; exact rfl; exact rfl
    exact ⟨A2, cap2, rfl, rfl⟩
open Go.RowKit Go.Eng Go.Nw Go.Rt
set_option maxRecDepth 10000 in
theorem O3 (l : List Int) (hlen : l.length ≤ 1000) {A : Option Addr} {cap B : Nat} {w0 : World} {H : List HP} {w : World} (hr : Rd B w0 H A (l.flatMap numF)) (hw : St B w0 H w) :
    Calls Tryz.prog 122 [.slice A l.length cap].toArray w (Post B w0 fun v K => ∃ A' cap', v = .slice A' l.length cap' ∧ K = sl 3 1 A' l.length cap' (l.flatMap numF) :: H) := by
  cases A with
  | none =>
    have hl : l = [] := by
      cases l with
      | nil => rfl
      | cons x l =>
        obtain ⟨g, o, e, _⟩ := hr w hw 0 _ rfl
        cases e
    subst hl
    refine Yc Tryz.func122 Tryz.ntmps122 rfl rfl hw ?_
    repeat' (first | (apply Ut; exact rfl; exact rfl; exact rfl) | refine zgb ?_ | fail)
    apply On 3 1; apply Yd; exact rfl; exact rfl; exact ⟨none, 0, rfl, rfl⟩
  | some a =>
    refine Yc Tryz.func122 Tryz.ntmps122 rfl rfl hw ?_
    repeat' (first | (apply Ut; exact rfl; exact rfl; exact rfl) | (apply Jf T; exact rfl; exact rfl; intro g2) | refine zgb ?_ | fail)
    apply Wb T (f := numF) (l2 := l) (e := 3) (size := 1) (xs := []); exact rfl; exact rfl; exact rfl; exact hr.cons; exact (fun _ => rfl); exact (fun _ => rfl); exact rfl; (intro _ _; exact zd); omega; intro A' cap'
    repeat' (first | refine zga ?_ | fail)
    rw [Nat.zero_add, List.nil_append]
    apply Yd; exact rfl; exact rfl; exact ⟨A', cap', rfl, rfl⟩
abbrev clA (g : Nat) (c : ClM) : HP := blk g (.cells #[.int .i64 c.flow, .slice c.rA c.rs.length c.rcap, .slice c.bA c.bs.length c.bcap, .slice c.wA c.ws.length c.wcap, .slice c.sA c.ss.length c.scap] 61 (0, 0))
theorem WB (e : Nat) (A : Option Addr) (cap : Nat) (l : List RowM) (r : RowM) : sl e 1 A (l.length + 1) cap (l.flatMap rowF ++ #[Value.slice r.A r.xs.length r.cap].toList) = sl e 1 A (l ++ [r]).length cap ((l ++ [r]).flatMap rowF) := by simp [List.flatMap_append, rowF]
theorem UC (f : RowM → HP) (l : List RowM) (r : RowM) (H : List HP) : Perm (f r :: many (l.map f) :: H) (many ((l ++ [r]).map f) :: H) := by
  have := Perm.push (f r) (l.map f) [] H
  rw [List.append_nil] at this
  rw [List.map_append]
  exact this
theorem YdC {S : Int → Option (List Int)} {len per : Int} {N : Nat} (hS : ∀ a l, S a = some l → l.length ≤ N) : ∀ {k : Nat} {rel : Int} {b0 b : Int × Int × List Int}, b0.2.2.length ≤ N → VH S len per k rel b0 = some b → b.2.2.length ≤ N
  | 0, rel, b0, b, h0, h => by
    unfold VH at h
    rw [← Option.some.inj h]; exact h0
  | k + 1, rel, b0, b, h0, h => by
    unfold VH at h
    split at h
    · rw [← Option.some.inj h]; exact h0
    cases hs : S rel with
    | none => rw [hs] at h; cases h
    | some l =>
      rw [hs] at h
      refine YdC hS ?_ h
      split
      · show (l.map _).length ≤ N
        rw [List.length_map]; exact hS _ _ hs
      · exact h0
theorem YgP {x : WayM} (hok : VY x) {b : Int × Int × List Int} (h : V0 x.n.net x.s.sch x.f x.r = some b) : b.2.2.length ≤ 72 := by
  have hl := hok.len
  refine YdC (fun a l hs => ?_) (Nat.zero_le _) h
  rw [Og] at hs
  split at hs
  · cases hs
  rw [← Option.some.inj hs, List.length_map]
  have h1 : (runW x a).length ≤ Y7 (YA x.n.net x.r) := Qi _ _ _ _ _
  have h2 := Qe hok (YA x.n.net x.r).length
  rw [List.take_length, Vp] at h2
  omega
structure M8 (xs : List Int) where
  A1 : Option Addr
  c1 : Nat
  r : RowM
  hr : r.xs = xs
  A3 : Option Addr
  c3 : Nat
structure CkM where
  i : Nat
  c : ClM
def ClM.lens (c : ClM) : Prop := (c.rs.length ≤ 1000 ∧ c.bs.length ≤ 1000 ∧ c.ws.length ≤ 1000 ∧ c.ss.length ≤ 1000) ∧ (∀ r ∈ c.rs, r.xs.length ≤ 1000) ∧ ∀ r ∈ c.ss, r.xs.length ≤ 1000
set_option maxRecDepth 10000 in
set_option maxHeartbeats 8000000 in
theorem Ye7 (n : NetM) (s : SchM) (x : RqM) {B : Nat} {w0 : World} {H : List HP} {w : World} (ht : TabsB B w0) (hin : n.In B w0 H) (hrs : Rd B w0 H s.A (s.cells.flatMap celF)) (hsl : s.cells.length ≤ 1000000000000) (hx : x.In B w0 H) (hr9 : x.rows.length ≤ 9) (hw : St B w0 H w) :
    Calls Tryz.prog 69 [n.val, s.val, rqV x].toArray w (Post B w0 fun v K => ∃ c : ClM, v = .tuple #[clV c, .bool (!(ZO n.net s.sch x.rq))] ∧ (ZO n.net s.sch x.rq = false → c.clm = clmE n.net s.sch x.rq ∧ c.lens) ∧ K = clQ c :: H) := by
  refine Yc Tryz.func69 Tryz.ntmps69 rfl rfl hw ?_
  have e1 : x.rq.1 = x.f := rfl
  have p1 := fun {H' : List HP} {w : World} (r : RowM) (hr : r ∈ x.rows) (hin : n.In B w0 H') (hrs : Rd B w0 H' s.A (s.cells.flatMap celF)) (hx : x.In B w0 H') (hw : St B w0 H' w) => YfB ⟨n, s, x.f, r.A, r.cap, r.xs⟩ ht ⟨hin, hrs, hx.rw_ r hr, hsl, (hx.rl r hr).1, (hx.rl r hr).2⟩ hw
  unfold NetM.val SchM.val rqV
  repeat' (first | refine zgd ?_ | (refine zgh ?_; intro _) | fail)
  rename_i g3 g4 g5 g6 g8
  have hln : x.rq.2 = x.rows.map (·.xs) := rfl
  obtain ⟨P, hP⟩ : ∃ P, badR n.net s.sch x.f = P := ⟨_, rfl⟩
  have hla : ZO n.net s.sch x.rq = (x.rows.map (·.xs)).any P := by unfold ZO; rw [hln, e1, hP]
  rw [hla]
  refine Yl (fun z : CkM => [(22, .int .i64 (z.i : Nat)), (21, .int .i64 x.rows.length), (20, .slice x.A x.rows.length x.cap), (8, .pointer (some ⟨g8, 0, none⟩)), (6, .pointer (some ⟨g6, 0, none⟩)), (5, .pointer (some ⟨g5, 0, none⟩)), (4, .pointer (some ⟨g4, 0, none⟩)), (3, .pointer (some ⟨g3, 0, none⟩))]) (fun z => clA g8 z.c :: clQ z.c :: clA g6 (nilC 0) :: rqA g5 x :: schA g4 s :: netA g3 n :: H)
    (fun z => z.i ≤ x.rows.length ∧ z.c.clm = YdM n.net s.sch x.rq ((x.rows.take z.i).map (·.xs)) ∧ z.c.lens ∧ ((x.rows.take z.i).map (·.xs)).any P = false) (fun z => x.rows.length - z.i) ⟨0, nilC x.f.1⟩ ⟨Nat.zero_le _, rfl, ⟨by unfold nilC; simp, by unfold nilC; simp, by unfold nilC; simp⟩, by simp⟩ ?_ ?_ ?_
  · exact zu
  · intro w hw
    have h1 := Yar x.f.1 hw
    have h2 : St B w0 (clQ (nilC x.f.1) :: clA g8 (nilC x.f.1) :: clA g6 (nilC 0) :: rqA g5 x :: schA g4 s :: netA g3 n :: H) w := h1
    clear hw h1
    revert w
    exact zk
  rintro ⟨i, c⟩ ⟨hi, hcm, hlen, hno⟩ K hK
  dsimp only at hi hcm hlen hno ⊢
  have hrt : Rd B w0 (clA g8 c :: clQ c :: clA g6 (nilC 0) :: rqA g5 x :: schA g4 s :: netA g3 n :: H) x.A (x.rows.flatMap rowF) := hx.rt.cons.cons.cons.cons.cons.cons
  by_cases hlt : i < x.rows.length
  rotate_left
  · obtain rfl : i = x.rows.length := by omega
    rw [List.take_length] at hcm hno
    rw [hno]
    clear hK
    repeat' (first | refine zgd ?_ | (refine zge ?_ ?_ <;> intro _ <;> try (exfalso; omega)) | fail)
    apply Wf T (H2 := clQ c :: H); exact rfl; exact rfl; exact rfl; exact zm; exact rfl; exact rfl; exact zk
    exact ⟨c, rfl, fun _ => ⟨hcm, hlen⟩, rfl⟩
  obtain ⟨r, hr⟩ : ∃ r, x.rows[i]? = some r := ⟨_, List.getElem?_eq_getElem hlt⟩
  have hrm := List.mem_of_getElem? hr
  have hri := hx.rw_ r hrm
  have p2 := fun {H' : List HP} {w : World} (hin : n.In B w0 H') (hrs : Rd B w0 H' s.A (s.cells.flatMap celF)) (hx : x.In B w0 H') (hw : St B w0 H' w) => p1 r hrm hin hrs hx hw
  dsimp only at p2
  obtain ⟨⟨⟨m, wst, sx⟩, e⟩, hRt⟩ : ∃ z, YP n.net s.sch x.f r.xs = z := ⟨_, rfl⟩
  rw [hRt] at p2
  dsimp only at p2
  unfold flwV at p2
  repeat' (first | (apply YV T; exact rfl; exact zm; exact rfl; exact zv; exact rfl; exact rfl) | refine zgd ?_ | (refine zge ?_ ?_ <;> intro _ <;> try (exfalso; omega)) | fail)
  apply Yo _ en34
  exact za
  exact rfl
  exact fun _ hw => (p2 (hin.mono zk) (hrs.mono zk) (hx.mono zk) (hw))
  rintro _ _ ⟨A2, cap2, rfl, rfl⟩
  have hPr : P r.xs = decide (e ≠ 0 ∨ x.f.2.2.2.2.2 < m) := by rw [← hP]; unfold badR; rw [hRt]
  by_cases hbad : e ≠ 0 ∨ x.f.2.2.2.2.2 < m
  · rw [decide_eq_true hbad] at hPr
    have hany : (x.rows.map (·.xs)).any P = true := List.any_eq_true.2 ⟨r.xs, List.mem_map_of_mem hrm, hPr⟩
    rw [hany]
    clear hK
    by_cases he0 : e = 0
    all_goals (
      repeat' (first | refine zgd ?_ | (refine zge ?_ ?_ <;> intro _ <;> try (exfalso; omega)) | fail)
      apply Wf T (H2 := clQ (nilC 0) :: H); exact rfl; exact rfl; exact rfl; exact zm; exact rfl; exact rfl
      · intro w hw
        have h5 : St B w0 H w := by
          revert w
          exact zk
        exact Yar 0 h5
      exact ⟨nilC 0, rfl, (fun h => by cases h), rfl⟩)
  rw [decide_eq_false hbad] at hPr
  have he0 : e = 0 := Decidable.byContradiction fun h => hbad (.inl h)
  have hml : m ≤ x.f.2.2.2.2.2 := by omega
  subst he0
  obtain ⟨hri9, hsx9⟩ : r.xs.length ≤ 9 ∧ sx.length ≤ 72 := by
    have h0 : (YP n.net s.sch x.f r.xs).2 = 0 := by rw [hRt]
    obtain ⟨h1, b, h2, h3⟩ := WA h0
    have hok := YgB (x := ⟨n, s, x.f, r.A, r.cap, r.xs⟩) h1
    have h4 := YgP hok h2
    rw [hRt] at h3
    injection h3 with h3 _
    rw [← h3] at h4
    exact ⟨hok.len.2, h4⟩
  have hinv : ∀ (A1 : Option Addr) (c1 : Nat) (r8 : RowM) (_ : r8.xs = r.xs) (A3 : Option Addr) (c3 : Nat) (A4 : Option Addr) (c4 : Nat) (A5 : Option Addr) (c5 : Nat), (i + 1 ≤ x.rows.length ∧ (ClM.mk c.flow A1 c1 (c.rs ++ [r8]) A3 c3 (c.bs ++ [m]) A4 c4 (c.ws ++ [wst]) A5 c5 (c.ss ++ [⟨A2, cap2, sx⟩])).clm = YdM n.net s.sch x.rq ((x.rows.take (i + 1)).map (·.xs)) ∧ (ClM.mk c.flow A1 c1 (c.rs ++ [r8]) A3 c3 (c.bs ++ [m]) A4 c4 (c.ws ++ [wst]) A5 c5 (c.ss ++ [⟨A2, cap2, sx⟩])).lens ∧ ((x.rows.take (i + 1)).map (·.xs)).any P = false) := by
    intro A1 c1 r8 hr8 A3 c3 A4 c4 A5 c5
    have hst : (x.rows.take (i + 1)).map (·.xs) = (x.rows.take i).map (·.xs) ++ [r.xs] := by
      rw [List.take_add_one, hr, Option.toList_some, List.map_append]; rfl
    have hli : ((x.rows.take i).map (·.xs)).length = i := by rw [List.length_map, List.length_take]; omega
    rw [hst]
    unfold ClM.clm YdM at hcm
    injection hcm with f1 f2 f3 f4 f5
    have l1 : c.rs.length = i := by rw [← hli, ← f2, List.length_map]
    have l2 : c.bs.length = i := by rw [f3, List.length_map, hli]
    have l3 : c.ws.length = i := by rw [f4, List.length_map, hli]
    have l4 : c.ss.length = i := by
      have := congrArg List.length f5
      rw [List.length_map, List.length_map, hli] at this
      exact this
    refine ⟨by omega, ?_, ⟨?_, ?_, ?_⟩, ?_⟩
    · unfold ClM.clm YdM
      simp only [List.map_append, List.map_cons, List.map_nil, hr8, f1, f2, f3, f4, f5, e1, hRt]
    · simp only [List.length_append, List.length_cons, List.length_nil, l1, l2, l3, l4]
      omega
    · intro q hq
      rcases List.mem_append.1 hq with h | h
      · exact hlen.2.1 q h
      · rw [List.mem_singleton.1 h, hr8]; omega
    · intro q hq
      rcases List.mem_append.1 hq with h | h
      · exact hlen.2.2 q h
      · rw [List.mem_singleton.1 h]; show sx.length ≤ 1000; omega
    · rw [List.any_append, hno]
      simp [hPr]
  repeat' (first | refine zgd ?_ | (refine zge ?_ ?_ <;> intro _ <;> try (exfalso; omega)) | fail)
  refine VR (nrs A2 cap2 sx :: clA g8 c :: sl 72 1 c.rA c.rs.length c.rcap (c.rs.flatMap rowF) :: many (c.rs.map rowQ) :: nrs c.bA c.bcap c.bs :: nrs c.wA c.wcap c.ws :: sl 24 1 c.sA c.ss.length c.scap (c.ss.flatMap rowF) :: many (c.ss.map rowQ) :: clA g6 (nilC 0) :: rqA g5 x :: schA g4 s :: netA g3 n :: H) (fun w hw => hw.perm (.cons _ (.cons _ (.open_ (clP c) _)))) ?_
  have hl1 := hlen.1
  refine Zb (fun z : M8 r.xs => [(22, .int .i64 (i : Nat)), (21, .int .i64 x.rows.length), (20, .slice x.A x.rows.length x.cap), (8, .pointer (some ⟨g8, 0, none⟩)), (6, .pointer (some ⟨g6, 0, none⟩)), (5, .pointer (some ⟨g5, 0, none⟩)), (4, .pointer (some ⟨g4, 0, none⟩)), (3, .pointer (some ⟨g3, 0, none⟩)), (13, .slice A2 sx.length cap2), (12, .int .i64 wst)])
    (fun z => nrs A2 cap2 sx :: blk g8 (.cells #[.int .i64 c.flow, .slice z.A1 (c.rs ++ [z.r]).length z.c1, .slice z.A3 (c.bs ++ [m]).length z.c3, .slice c.wA c.ws.length c.wcap, .slice c.sA c.ss.length c.scap] 61 (0, 0)) :: sl 72 1 z.A1 (c.rs ++ [z.r]).length z.c1 ((c.rs ++ [z.r]).flatMap rowF) :: many ((c.rs ++ [z.r]).map rowQ) :: nrs z.A3 z.c3 (c.bs ++ [m]) :: nrs c.wA c.wcap c.ws :: sl 24 1 c.sA c.ss.length c.scap (c.ss.flatMap rowF) :: many (c.ss.map rowQ) :: clA g6 (nilC 0) :: rqA g5 x :: schA g4 s :: netA g3 n :: H) ?_ ?_
  · intro K8 hK8
    apply Wa (.n1 0 (.n1 1 (.n1 2 (.n1 6 (.n1 7 (.n1 8 (.n2 3 (.n2 4 (.n2 5 (.n1 11 (.n1 9 (.n1 10 .done))) 9 (.n1 5 (.n1 11 (.n1 10 .done)))) 9 (.n1 4 (.n1 5 (.n1 11 (.n1 10 .done))))) 9 (.n1 3 (.n1 4 (.n1 5 (.n1 11 (.n1 10 .done)))))))))))) [12, 13, 14] [false, true]
    kernel_rfl
    kernel_rfl
    exact zy
    (simp only [Yj, nthO]; rfl)
    repeat' (first | ((apply Yo _ YlH); exact za; exact rfl; exact fun _ hw => O3 r.xs (by omega) (hri.mono zk) hw; rintro _ _ ⟨A8, cap8, rfl, rfl⟩) | (apply Yf0; (simp only [nthO]; rfl); (simp only [nthO]; rfl)) | (apply YfZ; (simp only [nthO]; rfl)) | (apply Wg; (repeat (first | with_reducible exact Yh | (with_reducible apply Yg; (repeat (first | with_reducible exact Yf | with_reducible apply Ye)))))) | (apply Yk; (repeat (first | with_reducible exact Yh | (with_reducible apply Yg; (repeat (first | with_reducible exact Yf | with_reducible apply Ye)))))) | refine zgd ?_ | (refine zgh ?_; intro _) | (refine zgi ?_; intro _ _) | fail)
    all_goals (
      first
        | (rename_i A1 c1 g A3 c3; guard_hyp g : Nat; guard_hyp A1 : Option Addr)
        | (rename_i A1 c1 A3 c3; guard_hyp A1 : Option Addr)
      refine hK8 ⟨A1, c1, ⟨A8, cap8, r.xs⟩, rfl, A3, c3⟩ _ _ zu ?_
      intro w hw
      have q1 : sl 72 1 A1 (c.rs.length + 1) c1 (c.rs.flatMap rowF ++ #[Value.slice A8 r.xs.length cap8].toList) = sl 72 1 A1 (c.rs ++ [(⟨A8, cap8, r.xs⟩ : RowM)]).length c1 ((c.rs ++ [(⟨A8, cap8, r.xs⟩ : RowM)]).flatMap rowF) := WB _ _ _ _ ⟨A8, cap8, r.xs⟩
      rw [q1, ZQ, show c.rs.length + 1 = (c.rs ++ [(⟨A8, cap8, r.xs⟩ : RowM)]).length by simp, show c.bs.length + 1 = (c.bs ++ [m]).length by simp] at hw
      have h5 : St B w0 (nrs A2 cap2 sx :: blk g8 (.cells #[.int .i64 c.flow, .slice A1 (c.rs ++ [(⟨A8, cap8, r.xs⟩ : RowM)]).length c1, .slice A3 (c.bs ++ [m]).length c3, .slice c.wA c.ws.length c.wcap, .slice c.sA c.ss.length c.scap] 61 (0, 0)) :: sl 72 1 A1 (c.rs ++ [(⟨A8, cap8, r.xs⟩ : RowM)]).length c1 ((c.rs ++ [(⟨A8, cap8, r.xs⟩ : RowM)]).flatMap rowF) :: sl 3 1 A8 r.xs.length cap8 (r.xs.flatMap numF) :: many (c.rs.map rowQ) :: nrs A3 c3 (c.bs ++ [m]) :: nrs c.wA c.wcap c.ws :: sl 24 1 c.sA c.ss.length c.scap (c.ss.flatMap rowF) :: many (c.ss.map rowQ) :: clA g6 (nilC 0) :: rqA g5 x :: schA g4 s :: netA g3 n :: H) w := by
        clear q1
        revert w
        exact zk
      exact h5.perm (.cons _ (.cons _ (.cons _ (UC rowQ c.rs ⟨A8, cap8, r.xs⟩ _)))))
  rintro ⟨A1, c1, r8, hr8, A3, c3⟩
  dsimp only
  repeat' (first | fail)
  apply Wa (.n1 0 (.n1 1 (.n1 2 (.n1 5 (.n1 6 (.n1 7 (.n2 3 (.n2 4 (.n1 10 (.n1 8 (.n1 9 .done))) 8 (.n1 4 (.n1 10 (.n1 9 .done)))) 8 (.n1 3 (.n1 4 (.n1 10 (.n1 9 .done))))))))))) [11, 12, 13] [false, true]
  kernel_rfl
  kernel_rfl
  exact zy
  (simp only [Yj, nthO]; rfl)
  repeat' (first | (apply Yf0; (simp only [nthO]; rfl); (simp only [nthO]; rfl)) | (apply YfZ; (simp only [nthO]; rfl)) | (apply Wg; (repeat (first | with_reducible exact Yh | (with_reducible apply Yg; (repeat (first | with_reducible exact Yf | with_reducible apply Ye)))))) | (apply Yk; (repeat (first | with_reducible exact Yh | (with_reducible apply Yg; (repeat (first | with_reducible exact Yf | with_reducible apply Ye)))))) | refine zgd ?_ | (refine zgh ?_; intro _) | (refine zgi ?_; intro _ _) | fail)
  all_goals (
    first
      | (rename_i A4 c4 g A5 c5; guard_hyp g : Nat; guard_hyp A4 : Option Addr)
      | (rename_i A4 c4 A5 c5; guard_hyp A4 : Option Addr)
    refine hK ⟨i + 1, ⟨c.flow, A1, c1, c.rs ++ [r8], A3, c3, c.bs ++ [m], A4, c4, c.ws ++ [wst], A5, c5, c.ss ++ [⟨A2, cap2, sx⟩]⟩⟩ ?_ ?_ _ _ zu ?_
    · exact hinv A1 c1 r8 hr8 A3 c3 A4 c4 A5 c5
    · dsimp only; omega
    intro w hw
    have q1 : sl 24 1 A5 (c.ss.length + 1) c5 (c.ss.flatMap rowF ++ #[Value.slice A2 sx.length cap2].toList) = sl 24 1 A5 (c.ss ++ [(⟨A2, cap2, sx⟩ : RowM)]).length c5 ((c.ss ++ [(⟨A2, cap2, sx⟩ : RowM)]).flatMap rowF) := WB _ _ _ _ ⟨A2, cap2, sx⟩
    rw [q1, ZQ, show c.ss.length + 1 = (c.ss ++ [(⟨A2, cap2, sx⟩ : RowM)]).length by simp, show c.ws.length + 1 = (c.ws ++ [wst]).length by simp] at hw
    have h5 : St B w0 (blk g8 (.cells #[.int .i64 c.flow, .slice A1 (c.rs ++ [r8]).length c1, .slice A3 (c.bs ++ [m]).length c3, .slice A4 (c.ws ++ [wst]).length c4, .slice A5 (c.ss ++ [(⟨A2, cap2, sx⟩ : RowM)]).length c5] 61 (0, 0)) :: sl 72 1 A1 (c.rs ++ [r8]).length c1 ((c.rs ++ [r8]).flatMap rowF) :: many ((c.rs ++ [r8]).map rowQ) :: nrs A3 c3 (c.bs ++ [m]) :: nrs A4 c4 (c.ws ++ [wst]) :: sl 24 1 A5 (c.ss ++ [(⟨A2, cap2, sx⟩ : RowM)]).length c5 ((c.ss ++ [(⟨A2, cap2, sx⟩ : RowM)]).flatMap rowF) :: nrs A2 cap2 sx :: many (c.ss.map rowQ) :: clA g6 (nilC 0) :: rqA g5 x :: schA g4 s :: netA g3 n :: H) w := by
      clear q1
      revert w
      exact zk
    have h6 := h5.perm (.cons _ (.cons _ (.cons _ (.cons _ (.cons _ (.cons _ (UC rowQ c.ss ⟨A2, cap2, sx⟩ _)))))))
    exact h6.perm (.cons _ (.close [_, _, _, _, _, _] _)))
end Go.Proofs.YtmalhidldgfeoaaGreatDoor
