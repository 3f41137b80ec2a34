/- Lemmas for the claim, part 3. -/
import Derived.Lib.Builder
import Derived.Lib.AtoiAllCases
import Derived.Deep.Slices
import Derived.Lib.SmallJoins
import Derived.OpenShut
import Derived.ProofKit
import Derived.Below
import Derived.ChangeSame
import Derived.Carry
import Derived.Test.YtmalhidldgfeoaaGreatDoorQ2

namespace Go.Proofs.YtmalhidldgfeoaaGreatDoor
open Go.RowKit Go.Eng Go.Nw
def inI (s : Sch) (slot : Int) (k : Nat) : List Nat := (List.range k).filter fun i => decide ((Yl s i).1 = slot)
def inXs (s : Sch) (slot : Int) : List (List Value) := (inI s slot s.cells.length).map fun (i : Nat) => [Value.int .i64 (i : Int)]
theorem Ydj {s : Sch} {slot : Int} {k : Nat} (h : (Yl s k).1 = slot) : inI s slot (k + 1) = inI s slot k ++ [k] := by
  unfold inI; rw [List.range_succ, List.filter_append]; simp [h]
theorem Yfp {s : Sch} {slot : Int} {k : Nat} (h : (Yl s k).1 ≠ slot) : inI s slot (k + 1) = inI s slot k := by
  unfold inI; rw [List.range_succ, List.filter_append]; simp [h]
theorem Yf5 {s : Sch} {slot : Int} {k n : Nat} (h : (Yl s k).1 = slot) (hk : k < n) : (inI s slot n)[(inI s slot k).length]? = some k := by
  obtain ⟨m, rfl⟩ : ∃ m, n = k + (m + 1) := ⟨n - k - 1, by omega⟩
  have e : inI s slot (k + (m + 1)) = inI s slot k ++ ((List.range (m + 1)).map (k + ·)).filter fun i => decide ((Yl s i).1 = slot) := by
    unfold inI; rw [List.range_add, List.filter_append]
  rw [e, List.getElem?_append_right (Nat.le_refl _), Nat.sub_self, List.range_succ_eq_map]
  simp [h]
theorem Vn {s : Sch} {slot : Int} {k i : Nat} : i ∈ inI s slot k ↔ i < k ∧ (Yl s i).1 = slot := by
  unfold inI; simp
def schB (g : Nat) (s : SchM) : HP := blk g (.cells #[.int .i64 s.len, .int .i64 s.off, .slice s.A s.cells.length s.cap] 30 (0, 0))
def intB (g : Nat) (x : Int) : HP := blk g (.cells #[.int .i64 x] 3 (0, 0))
set_option maxRecDepth 10000 in
set_option maxHeartbeats 1000000 in
theorem Ybn (s : SchM) (slot : Int) (gs gt : Nat) {B : Nat} {w0 : World} {HI : List HP} (hr : Rd B w0 HI s.A (s.cells.flatMap celF)) (hl : s.cells.length ≤ 1000000000000)
    (hms : blk gs (.cells #[.int .i64 s.len, .int .i64 s.off, .slice s.A s.cells.length s.cap] 30 (0, 0)) ∈ HI) (hmt : blk gt (.cells #[.int .i64 slot] 3 (0, 0)) ∈ HI) :
    QY Tryz.prog 118 [.pointer (some ⟨gs, 0, none⟩), .pointer (some ⟨gt, 0, none⟩)] (inXs s.sch slot) B w0 HI := by
  refine Ycq Tryz.func118 Tryz.ntmps118 rfl rfl ?_
  intro l SS X hy L0 h0
  repeat' (first | apply (zs1 ?_) | (apply zg2; refine zs6 ?_) | (apply zg3; refine zs7 ?_) | (apply zg4; refine zs9 ?_) | apply (zs65 ?_) | apply (zs68 ?_) | apply (zs69 ?_) | apply (zs70 ?_) | apply (zs73 ?_) | fail)
  refine Yk (fun (x : Nat × List HP) => [(9, .int .i64 x.1), (8, .int .i64 s.cells.length), (7, .slice s.A s.cells.length s.cap), (0, .func (.yield l) #[] #[]), (1, .pointer (some ⟨gs, 0, none⟩)), (2, .pointer (some ⟨gt, 0, none⟩))]) (fun x => many x.2 :: HI) (fun x => x.1 ≤ s.cells.length ∧ SS (inI s.sch slot x.1).length x.2) (fun x => s.cells.length - x.1) (0, L0) ⟨Nat.zero_le _, h0⟩ ?_ (fun w hw => hw) ?_
  · exact zu
  rintro ⟨i, L⟩ ⟨hi, hS⟩ K hK
  dsimp only at hi hS ⊢
  have hr := hr.cons (X := many L)
  by_cases hlt : i < s.cells.length
  · have hget : s.cells[i]? = some (Yl s.sch i) := YC (s := s.sch) hlt
    have hlt2 : i < s.sch.cells.length := hlt
    iterate 22 (first | apply (zs1 ?_) | apply (zs2 ?_) | (apply zg3; refine zs61 ?_) | (apply zg5; refine zs57 ?_) | (apply (zs17 ?_ ?_) <;> intro _ <;> try (exfalso; omega)) | (apply zg22; refine zs51 ?_) | (apply zg24; (refine zs54 ?_; intro _)) | apply (zs65 ?_) | apply (zs68 ?_) | apply (zs69 ?_) | apply (zs70 ?_) | (apply zg27; refine zs71 ?_) | apply (zs73 ?_) | apply (zs76 ?_) | fail)
    refine W7 7 rfl rfl (by rintro ⟨_, _, _, _, h, _⟩; cases h) ?_
    repeat' (first | apply (zs1 ?_) | (apply zg1; first | refine zs3 ?_ | refine zs4 ?_) | (apply zg2; refine zs6 ?_) | (apply zg3; refine zs7 ?_) | (apply zg7; (refine zs15 ?_ ?_ <;> intro _ <;> try (exfalso; omega))) | apply (zs65 ?_) | fail)
    · rename_i g5 hs
      have hx : (inXs s.sch slot)[(inI s.sch slot i).length]? = some [.int .i64 (i : Int)] := by
        rw [inXs, List.getElem?_map, Yf5 hs hlt2]; rfl
      have hY := hy _ _ hx [blk g5 (.cells (celF (Yl s.sch i)).toArray 40 (0, 0))] L hS
      apply Ybg _ _ (hy := hY)
      · exact Yci (j := 4) (s := 18) rfl rfl rfl
      · exact rfl
      · exact za
      · exact rfl
      · rintro ⟨_, _, _, _, h, _⟩; cases h
      · rintro _ ⟨L', hS', rfl⟩
        repeat' (first | apply (zs1 ?_) | (apply zg1; refine zs4 ?_) | (apply zg6; refine zs11 ?_) | (apply zg13; refine zs30 ?_) | (apply zg20; refine zs47 ?_) | apply (zs65 ?_) | apply (zs68 ?_) | apply (zs70 ?_) | (apply zg27; refine zs72 ?_) | apply (zs76 ?_) | apply (zs79 ?_) | fail)
        apply hK (i + 1, L')
        · exact ⟨by omega, by rw [Ydj hs, List.length_append]; exact hS'⟩
        · dsimp only; omega
        · exact zu
        · exact fun w hw => hw.tail
      · rintro _ ⟨L', hX', rfl⟩
        repeat' (first | (apply zg1; refine zs4 ?_) | (apply zg6; refine zs11 ?_) | (apply zg20; refine zs48 ?_) | apply (zs65 ?_) | apply (zs68 ?_) | (apply zg27; refine zs71 ?_) | apply (zs74 ?_) | apply (zs77 ?_) | apply (zs78 ?_) | fail)
        apply Yj (many L' :: HI)
        · exact fun w hw => hw.tail
        apply V4; exact rfl
        exact .inr ⟨L', hX', rfl⟩
    · rename_i hs
      apply YeZ (by rintro ⟨_, _, _, _, h, _⟩; cases h)
      repeat' (first | apply (zs1 ?_) | (apply zg1; refine zs3 ?_) | (apply zg6; refine zs12 ?_) | (apply zg13; refine zs30 ?_) | apply (zs65 ?_) | apply (zs68 ?_) | apply (zs70 ?_) | (apply zg27; refine zs72 ?_) | apply (zs76 ?_) | apply (zs79 ?_) | fail)
      apply hK (i + 1, L)
      · exact ⟨by omega, by rw [Yfp hs]; exact hS⟩
      · dsimp only; omega
      · exact zu
      · exact fun w hw => hw.tail
  · repeat' (first | (apply (zs17 ?_ ?_) <;> intro _ <;> try (exfalso; omega)) | apply (zs65 ?_) | apply (zs68 ?_) | apply (zs69 ?_) | apply (zs70 ?_) | (apply zg27; refine zs72 ?_) | apply (zs75 ?_) | apply (zs80 ?_) | apply (zs81 ?_) | fail)
    apply XW; exact rfl
    rw [show i = s.cells.length by omega] at hS
    exact .inl ⟨L, by rw [inXs, List.length_map]; exact hS, rfl⟩
theorem YbM (s : SchM) (slot : Int) {B : Nat} {w0 : World} {H : List HP} {w : World} (hw : St B w0 H w) :
    Calls Tryz.prog 59 [s.val, .int .i64 slot].toArray w (Post B w0 fun v K => ∃ gs gt, v = .func (.func 118) #[] #[.pointer (some ⟨gs, 0, none⟩), .pointer (some ⟨gt, 0, none⟩)] ∧ K = intB gt slot :: schB gs s :: H) := by
  refine Yd Tryz.func59 Tryz.ntmps59 rfl rfl hw ?_
  repeat' (first | apply (zs2 ?_) | (apply zg23; first | (refine zs52 ?_; intro _) | (refine zs53 ?_; intro _)) | apply (zs65 ?_) | apply (zs68 ?_) | apply (zs69 ?_) | apply (zs70 ?_) | apply (zs74 ?_) | (apply zg29; (apply Yo; exact za ; exact rfl)) | fail)
  apply Yc; exact rfl; exact rfl
  exact ⟨_, _, rfl, rfl⟩
end Go.Proofs.YtmalhidldgfeoaaGreatDoor
namespace Go.Eng
open Go.RowKit
theorem Ygf {P : Program} {n : Shp} {B : Nat} {w0 : World} {Q : Exit → Act → World → Prop} {env : Env} {H : List HP} {c : Code} {e size k cap : Nat} {A : Option Addr} {xs : List Value} (hm : sl e size A k cap xs ∈ H) (h : k ≤ cap → VC P n B w0 c Q env H) : VC P n B w0 c Q env H := by
  refine ⟨fun a w ha hw => ?_⟩
  have hown := hw.sl hm
  have hkc : k ≤ cap := by
    rcases hown.2 with ⟨e1, e2⟩ | ⟨g, c, cur, e1, _, _, e4, _⟩
    · omega
    · injection e1 with _ _ e3; omega
  exact (h hkc).run a w ha hw
end Go.Eng
namespace Go.Proofs.YtmalhidldgfeoaaGreatDoor
open Go.RowKit Go.Eng Go.Nw
theorem Oc (A : Option Addr) (cap size : Nat) : subA A 0 cap size = A := by
  unfold subA
  split
  · rfl
  · cases A with
    | none => rfl
    | some a => simp [Addr.add]
def cels (A : Option Addr) (cap : Nat) (l : List Cel) : HP := sl 40 5 A l.length cap (l.flatMap celF)
theorem YdD (A : Option Addr) (cap : Nat) (l : List Cel) (c : Cel) : sl 40 5 A (l.length + 1) cap (l.flatMap celF ++ celF c) = cels A cap (l ++ [c]) := by
  unfold cels; simp
theorem O9 (A : Option Addr) (cap : Nat) (l : List Cel) (c : Cel) : sl 40 5 A (l.length + 1) cap (l.flatMap celF ++ #[Value.int .i64 c.1, .int .i64 c.2.1, .int .i64 c.2.2.1, .int .i64 c.2.2.2.1, .int .i64 c.2.2.2.2].toList) = cels A cap (l ++ [c]) := YdD A cap l c
theorem Yb4 (l : List Cel) (c : Cel) : l.length + 1 = (l ++ [c]).length := by simp
theorem Rd.cels {B : Nat} {w0 : World} {H : List HP} {A : Option Addr} {cap : Nat} {l : List Cel} (h : cels A cap l ∈ H) : Rd B w0 H A (l.flatMap celF) := .sl h
section
variable {m : Eng.Mode} {n : Shp} {B d : Nat} {w0 : World} {ops : Array Oper} {Q : Exit → Act → World → Prop} {rest : List Oper} {env : Env} {H : List HP} {ty : TypeId} {pos : String} {after : Array Edge}
end
open Go.RowKit Go.Eng Go.Nw
theorem V3 {s : Sch} {slot : Int} {k : Nat} {args : List Value} (h : (inXs s slot)[k]? = some args) : ∃ i, (inI s slot s.cells.length)[k]? = some i ∧ i < s.cells.length ∧ args = [.int .i64 (i : Int)] := by
  unfold inXs at h
  rw [List.getElem?_map] at h
  cases hi : (inI s slot s.cells.length)[k]? with
  | none => rw [hi] at h; cases h
  | some i =>
    rw [hi] at h
    cases h
    exact ⟨i, rfl, (Vn.1 (List.mem_of_getElem? hi)).1, rfl⟩
open Go.RowKit Go.Eng Go.Nw
section
variable {m : Eng.Mode} {n : Shp} {B d : Nat} {w0 : World} {ops : Array Oper} {Q : Exit → Act → World → Prop} {rest : List Oper} {env : Env} {H : List HP} {ty : TypeId} {pos : String} {after : Array Edge} {x y : Operand}
theorem Vh (a b : List UInt8) (hx : evo env x = some (strV a)) (hy : evo env y = some (strV b)) (hn : Nat.ble (d + 1) n.k = true) (hb : a.length + b.length ≤ 1000000) (h : VL Tryz.prog m n B w0 ops Q rest ((d, strV (a ++ b)) :: env) H) :
    VL Tryz.prog m n B w0 ops Q (⟨some d, .binOp .add 9 x y 9, ty, pos, after, none⟩ :: rest) env H := by
  have hs : ∀ l : List UInt8, (⟨l.toArray⟩ : ByteArray).size = l.length := fun l => by simp [ByteArray.size]
  refine YfZ hx hy hn (by rw [hs, hs]; omega) ?_
  have e : (⟨a.toArray⟩ : ByteArray) ++ ⟨b.toArray⟩ = ⟨(a ++ b).toArray⟩ := by
    apply ByteArray.ext
    simp
  rw [e]
  exact h
theorem YfL {g : Nat} {cs : Array Value} {fr : Nat × Nat} (hx : evo env x = some (.pointer (some ⟨g, 0, none⟩))) (hm : blk g (.cells cs 132 fr) ∈ H) (hc : cs.size = 2) (hn : Nat.ble (d + 1) n.k = true)
    (h : VL Tryz.prog none n B w0 ops Q rest ((d, .pointer (some ⟨g, 0, none⟩)) :: env) H) : VL Tryz.prog none n B w0 ops Q (⟨some d, .convert 129 245 x, ty, pos, after, none⟩ :: rest) env H := by
  refine ZC (fun v K' => v = .pointer (some ⟨g, 0, none⟩) ∧ K' = H) rfl rfl hn (fun a w ha hw => ?_) (by rintro _ _ ⟨rfl, rfl⟩; exact h)
  have hb := (hw.blk hm).1
  obtain ⟨j, hj, hjs⟩ := Option.map_eq_some_iff.1 (show (Tryz.prog.info? 132).map (·.size) = some 2 by kernel_rfl)
  have hr := Lib.run_to_unsafe (P := Tryz.prog) w ⟨g, 0, none⟩ Tryz.underlying129 Tryz.underlying245 hj (by rw [hjs]; decide) (show w.shape? g = some (132, 2) by simp [World.shape?, hb, hc]) (Nat.zero_lt_succ 1)
  exact ⟨_, H, w, by simp [execOp, ha.eval hx, hr], hw, rfl, rfl⟩
theorem Yfq {g : Nat} {cs : Array Value} {fr : Nat × Nat} (hx : evo env x = some (.pointer (some ⟨g, 0, none⟩))) (hm : blk g (.cells cs 132 fr) ∈ H) (hc : cs.size = 2) (hn : Nat.ble (d + 1) n.k = true)
    (h : VL Tryz.prog none n B w0 ops Q rest ((d, .pointer (some ⟨g, 0, none⟩)) :: env) H) : VL Tryz.prog none n B w0 ops Q (⟨some d, .convert 245 129 x, ty, pos, after, none⟩ :: rest) env H := by
  refine ZC (fun v K' => v = .pointer (some ⟨g, 0, none⟩) ∧ K' = H) rfl rfl hn (fun a w ha hw => ?_) (by rintro _ _ ⟨rfl, rfl⟩; exact h)
  have hb := (hw.blk hm).1
  obtain ⟨j, hj, hjs⟩ := Option.map_eq_some_iff.1 (show (Tryz.prog.info? 132).map (·.size) = some 2 by kernel_rfl)
  have hr := Lib.run_from_unsafe (P := Tryz.prog) w ⟨g, 0, none⟩ Tryz.underlying245 Tryz.underlying129 hj (show w.shape? g = some (132, 2) by simp [World.shape?, hb, hc]) (by kernel_rfl)
  exact ⟨_, H, w, by simp [execOp, ha.eval hx, hr], hw, rfl, rfl⟩
theorem YeH {v : Value} {tys : Array TypeId} (hx : evo env x = some v) (hn : Nat.ble (d + 1) n.k = true) (h : VL Tryz.prog none n B w0 ops Q rest ((d, v) :: env) H) :
    VL Tryz.prog none n B w0 ops Q (⟨some d, .call ⟨.value (.func 196), #[x], tys⟩, ty, pos, after, none⟩ :: rest) env H := by
  refine ZC (fun u K' => u = v ∧ K' = H) rfl rfl hn (fun a w ha hw => ⟨v, H, w, ?_, hw, rfl, rfl⟩) (by rintro _ _ ⟨rfl, rfl⟩; exact h)
  have hr := run_callFunc_extern (P := Tryz.prog) Tryz.func196 (by kernel_rfl) (by kernel_rfl) (by kernel_rfl) (e := Extern.AbiNoEscape.same) (by kernel_rfl) #[v] w
  have he : a.eval (.func 196) = .func (.func 196) #[] #[] := rfl
  simp [execOp, resolve, invoke, ha.eval hx, he, Deferred.ofValue, hr, Lib.run_noEscape, Result.andThen]
theorem Yck {g : Addr} (hx : evo env x = some (.pointer (some g))) (hy : evo env y = some (.pointer (some g))) (hn : Nat.ble (d + 1) n.k = true) (h : VL Tryz.prog m n B w0 ops Q rest ((d, .bool false) :: env) H) :
    VL Tryz.prog m n B w0 ops Q (⟨some d, .binOp .neq 129 x y 129, ty, pos, after, none⟩ :: rest) env H := by
  obtain ⟨j, hj, hjs⟩ := Option.map_eq_some_iff.1 (show (Tryz.prog.info? 132).map (·.size) = some 2 by kernel_rfl)
  exact YI hx hy hn (fun _ => rfl) (fun w => Lib.run_neq_ptr_same w g Tryz.underlying129 hj) h
end
set_option maxRecDepth 10000 in
theorem OI (b : Nat) (p v : Value) (hp : p = .pointer none ∨ p = .pointer (some ⟨b, 0, none⟩)) {B : Nat} {w0 : World} {H : List HP} {w : World} (hw : St B w0 (blk b (.cells #[p, v] 132 (0, 0)) :: H) w) :
    Calls Tryz.prog 136 [.pointer (some ⟨b, 0, none⟩)].toArray w (Post B w0 fun u K => u = .tuple #[] ∧ K = blk b (.cells #[.pointer (some ⟨b, 0, none⟩), v] 132 (0, 0)) :: H) := by
  refine Yd Tryz.func136 Tryz.ntmps136 rfl rfl hw ?_
  rcases hp with rfl | rfl
  · skip
    repeat' (first | (apply Ybq; exact rfl; exact rfl; kernel_rfl) | (apply YfL; exact rfl; exact zm; exact rfl; exact rfl) | (apply Yfq; exact rfl; exact zm; exact rfl; exact rfl) | (apply YeH; exact rfl; exact rfl) | (apply Yck; exact rfl; exact rfl; exact rfl) | apply (zs1 ?_) | apply (zs5 ?_) | (apply zg2; refine zs6 ?_) | (apply zg3; refine zs7 ?_) | (apply zg22; refine zs50 ?_) | apply (zs65 ?_) | apply (zs68 ?_) | apply (zs69 ?_) | apply (zs70 ?_) | (apply zg27; refine zs71 ?_) | fail)
    apply XW; exact rfl; exact ⟨rfl, rfl⟩
  · skip
    repeat' (first | (apply Ybq; exact rfl; exact rfl; kernel_rfl) | (apply Yck; exact rfl; exact rfl; exact rfl) | apply (zs1 ?_) | apply (zs5 ?_) | (apply zg2; refine zs6 ?_) | (apply zg3; refine zs7 ?_) | apply (zs65 ?_) | apply (zs68 ?_) | apply (zs69 ?_) | apply (zs70 ?_) | (apply zg27; refine zs72 ?_) | apply (zs76 ?_) | fail)
    apply XW; exact rfl; exact ⟨rfl, rfl⟩
def bdP (b : Nat) (p : Value) (A : Option Addr) (cap : Nat) (l : List UInt8) (H : List HP) : List HP := blk b (.cells #[p, .slice A l.length cap] 132 (0, 0)) :: sl 5 1 A l.length cap (Lib.byteCells l) :: H
set_option maxRecDepth 10000 in
theorem Jt (b : Nat) (p : Value) (hp : p = .pointer none ∨ p = .pointer (some ⟨b, 0, none⟩)) (A : Option Addr) (cap : Nat) (l s : List UInt8) (hl : l.length + s.length ≤ 1000000) {B : Nat} {w0 : World} {H : List HP} {w : World} (hw : St B w0 (bdP b p A cap l H) w) :
    Calls Tryz.prog 76 [.pointer (some ⟨b, 0, none⟩), strV s].toArray w (Post B w0 fun u K => u = .tuple #[.int .i64 s.length, .nilIface] ∧ ∃ A' cap', K = bdP b (.pointer (some ⟨b, 0, none⟩)) A' cap' (l ++ s) H) := by
  have hs : (⟨s.toArray⟩ : ByteArray).size = s.length := by simp [ByteArray.size]
  refine Yd Tryz.func76 Tryz.ntmps76 rfl rfl hw ?_
  unfold bdP
  repeat' (first | apply (zs1 ?_) | apply (zs2 ?_) | apply (zs65 ?_) | apply (zs68 ?_) | apply (zs69 ?_) | apply (zs70 ?_) | fail)
  apply Ys _ YhG
  exact za
  exact rfl
  exact fun _ hw => (OI b p _ hp (hw))
  rintro _ _ ⟨rfl, rfl⟩
  repeat' (first | (apply YaS T (e := 5); exact rfl; exact rfl; exact rfl; kernel_rfl; exact rfl; exact rfl; (intro _ _; exact zd); (rw [hs]; omega); intro A' cap') | apply (zs1 ?_) | apply (zs2 ?_) | apply (zs5 ?_) | (apply zg2; refine zs6 ?_) | (apply zg3; refine zs7 ?_) | (apply zg4; refine zs14 ?_) | (apply zg22; refine zs50 ?_) | apply (zs65 ?_) | apply (zs68 ?_) | apply (zs69 ?_) | apply (zs70 ?_) | apply (zs74 ?_) | fail)
  have e1 : Lib.byteCells l ++ Lib.strCells ⟨s.toArray⟩ = Lib.byteCells (l ++ s) := by
    unfold Lib.byteCells Lib.strCells
    rw [List.map_append]
  have e2 : l.length + (⟨s.toArray⟩ : ByteArray).size = (l ++ s).length := by rw [hs, List.length_append]
  apply Yt; exact rfl; exact rfl; exact rfl
  refine ⟨by rw [hs], A', cap', ?_⟩
  rw [e1, e2]
theorem Yhw {b : Nat} {p : Value} {A : Option Addr} {cap : Nat} {l : List UInt8} {B : Nat} {w0 w : World} {H : List HP} (hp : p = .pointer none ∨ p = .pointer (some ⟨b, 0, none⟩)) (hw : St B w0 (bdP b p A cap l H) w) : Lib.IsBuilder 132 5 B b (Lib.byteCells l) w := by
  obtain ⟨_, _, S1, S2, k1, k2, k3, ⟨k4, k5⟩, S3, S4, j1, j2, j3, ⟨⟨j4, j5⟩, j6⟩, j7⟩ := hw
  have hl : (Lib.byteCells l).length = l.length := by unfold Lib.byteCells; rw [List.length_map]
  have hat : Lib.BuilderAt 132 5 B b p (Lib.byteCells l) w := by
    refine ⟨(k1 b k4).1, .slice A l.length cap, k5, ⟨by rw [hl]; omega, ?_⟩, ?_⟩
    · rw [hl]
      rcases j5 with j5 | ⟨g, c, cur, e1, e2, e3⟩
      · exact .inl j5
      · refine .inr ⟨g, c, cur, e1, ?_, e3⟩
        injection e1 with e1
        exact (k2 g (j1 g (j6 _ e1))).1
    · intro e
      cases A with
      | none => cases e
      | some a =>
        simp only [Value.ownBlock, Option.some.injEq] at e
        have := j6 a rfl
        rw [e] at this
        exact k3 b k4 (j1 b this)
  rcases hp with rfl | rfl
  · exact .inl hat
  · exact .inr hat
theorem U5 {b : Nat} {p : Value} {A : Option Addr} {cap : Nat} {l : List UInt8} {B : Nat} {w0 w : World} {H : List HP} (hp : p = .pointer none ∨ p = .pointer (some ⟨b, 0, none⟩)) (hw : St B w0 (bdP b p A cap l H) w) :
    Calls Tryz.prog 78 [.pointer (some ⟨b, 0, none⟩)].toArray w (Post B w0 fun v K => v = strV l ∧ K = []) := by
  refine (Tryz.Builder_String_any B b l w (Yhw hp hw) hw.le).mono ?_
  rintro e w' ⟨rfl, hb⟩
  exact ⟨_, [], rfl, ⟨hw.below.trans hb, Nat.le_trans hw.le hb.size, trivial⟩, rfl, rfl⟩
theorem WZ {n : Int} (h : 0 ≤ n ∧ n < 10000) : (Lib.itoa n).length ≤ 4 := by
  rw [Z4 h.1]; exact WN (by omega)
theorem Ui {w : List UInt8} : ∀ {l : List Int}, (∀ n ∈ l, 0 ≤ n ∧ n < 10000) → (YA w l).length ≤ w.length + 5 * l.length
  | [], _ => by simp [YA]
  | n :: l, h => by
    have ih := Ui (w := w) (l := l) fun m hm => h m (List.mem_cons_of_mem _ hm)
    have h1 := WZ (h n List.mem_cons_self)
    unfold YA at ih ⊢
    simp only [List.flatMap_cons, List.length_append, List.length_cons] at ih ⊢
    omega
theorem Yad (w : List UInt8) (l : List Int) (n : Int) : YA w (l ++ [n]) = YA w l ++ ([32] ++ Lib.itoa n) := by
  unfold YA; simp
set_option maxRecDepth 10000 in
theorem QF (word : List UInt8) (l : List Int) (h : ∀ n ∈ l, 0 ≤ n ∧ n < 10000) (h5 : l.length ≤ 100) (hwd : word.length ≤ 100) {A : Option Addr} {cap B : Nat} {w0 : World} {H : List HP} {w : World} (ht : TabsB B w0) (hr : Rd B w0 H A (l.flatMap numF)) (hw : St B w0 H w) :
    Calls Tryz.prog 104 [strV word, .slice A l.length cap].toArray w (Post B w0 fun v K => v = strV (Xi word l) ∧ K = H) := by
  refine Yd Tryz.func104 Tryz.ntmps104 rfl rfl hw ?_
  repeat' (first | apply (zs1 ?_) | apply (zs2 ?_) | (apply zg4; refine zs9 ?_) | apply (zs65 ?_) | apply (zs68 ?_) | apply (zs69 ?_) | apply (zs70 ?_) | apply (zs73 ?_) | fail)
  refine Yk (fun (i : Nat) => [(9, .int .i64 i), (8, .int .i64 l.length), (7, .slice A l.length cap), (0, strV (YA word (l.take i)))]) (fun _ => H) (fun i => i ≤ l.length) (fun i => l.length - i) 0 (Nat.zero_le _) ?_ (fun w hw => hw) ?_
  · have e0 : YA word (l.take 0) = word := by simp [YA]
    rw [e0]
    exact zu
  intro i hi K hK
  have hbl := Ui (w := word) (l := l.take i) fun n hn => h n (List.mem_of_mem_take hn)
  have hlt0 : (l.take i).length ≤ 100 := by rw [List.length_take]; omega
  by_cases hlt : i < l.length
  · obtain ⟨n, hn⟩ : ∃ n, l[i]? = some n := ⟨_, List.getElem?_eq_getElem hlt⟩
    have hnb := h n (List.mem_of_getElem? hn)
    have hil := WZ hnb
    repeat' (first | ((first | apply Ya Q5 | apply Yb Q5); exact za; exact rfl; exact fun _ hw => (UZ n (by omega) (by omega) ht hw)) | (apply Vh [32] (Lib.itoa n); exact rfl; exact rfl; exact rfl; (show 1 + _ ≤ _; omega)) | (apply Vh (YA word (l.take i)) ([32] ++ Lib.itoa n); exact rfl; exact rfl; exact rfl; (rw [List.length_append]; show _ + (1 + _) ≤ _; omega)) | apply (zs1 ?_) | apply (zs2 ?_) | (apply zg3; refine zs60 ?_) | (apply zg5; refine zs57 ?_) | (apply (zs17 ?_ ?_) <;> intro _ <;> try (exfalso; omega)) | (apply zg13; refine zs30 ?_) | apply (zs65 ?_) | apply (zs68 ?_) | apply (zs69 ?_) | apply (zs70 ?_) | (apply zg27; refine zs71 ?_) | apply (zs73 ?_) | apply (zs76 ?_) | apply (zs79 ?_) | fail)
    apply hK (i + 1)
    · show i + 1 ≤ l.length
      omega
    · omega
    · rw [List.take_add_one, hn, Option.toList_some, Yad]
      exact zu
    · exact fun w hw => hw
  · skip
    repeat' (first | (apply Vh (YA word (l.take i)) [10]; exact rfl; exact rfl; exact rfl; (show _ + 1 ≤ _; omega)) | apply (zs1 ?_) | apply (zs2 ?_) | (apply (zs17 ?_ ?_) <;> intro _ <;> try (exfalso; omega)) | apply (zs65 ?_) | apply (zs68 ?_) | apply (zs69 ?_) | apply (zs70 ?_) | (apply zg27; refine zs72 ?_) | apply (zs74 ?_) | apply (zs75 ?_) | apply (zs80 ?_) | apply (zs81 ?_) | fail)
    apply Yc; exact rfl; exact rfl
    rw [show i = l.length by omega, List.take_length]
    exact ⟨rfl, rfl⟩
def XH (s : Sch) (i : Nat) : List UInt8 := Xi wordS [s.len, s.off] ++ (s.cells.take i).flatMap fun c => Xi wordC (nums c)
theorem Wl {s : Sch} {i : Nat} (h : i < s.cells.length) : XH s (i + 1) = XH s i ++ Xi wordC (nums (Yl s i)) := by
  unfold XH
  rw [List.take_add_one, YC h, Option.toList_some, List.flatMap_append, List.append_assoc]
  simp
theorem Xv {w : List UInt8} {l : List Int} (h : ∀ n ∈ l, 0 ≤ n ∧ n < 10000) : (Xi w l).length ≤ w.length + 5 * l.length + 1 := by
  unfold Xi
  have := Ui (w := w) h
  rw [List.length_append]
  show _ + 1 ≤ _
  omega
theorem Of {s : Sch} (h : Frm s) : ∀ i, i ≤ s.cells.length → (XH s i).length ≤ 100 + 40 * i
  | 0, _ => by
    have h1 := Xv (w := wordS) (UM h).1
    unfold XH
    simp only [List.take_zero, List.flatMap_nil, List.append_nil]
    have : wordS.length = 8 := rfl
    simp only [List.length_cons, List.length_nil] at h1
    omega
  | i + 1, hi => by
    have ih := Of h i (by omega)
    have h1 := Xv (w := wordC) ((UM h).2 _ (UY (s := s) (i := i) (by omega)))
    rw [Wl (by omega), List.length_append]
    have : wordC.length = 4 := rfl
    have h2 : (nums (Yl s i)).length = 5 := rfl
    omega
set_option maxRecDepth 10000 in
set_option maxHeartbeats 1000000 in
theorem Yfj (s : SchM) {B : Nat} {w0 : World} {w : World} (ht : TabsB B w0) (hr : Rd B w0 [] s.A (s.cells.flatMap celF)) (hl : s.cells.length ≤ 1000000000000) (hw : St B w0 [] w) :
    Calls Tryz.prog 47 [s.val].toArray w (Post B w0 fun v _ => v = .tuple #[strV (JD s.sch).1, .int .i64 (JD s.sch).2]) := by
  refine Yd Tryz.func47 Tryz.ntmps47 rfl rfl hw ?_
  have e1 : s.sch.cells = s.cells := rfl
  cases hf : XF s.sch with
  | false =>
    repeat' (first | ((first | apply Ya en58 | apply Yb en58); exact za; exact rfl; exact fun _ hw => (QP (congrArg Value.bool hf) (fun _ hw => Yag s hr.cons hl hw) hw)) | apply (zs2 ?_) | (apply zg3; refine zs8 ?_) | (apply zg20; refine zs48 ?_) | (apply zg23; (refine zs52 ?_; intro _)) | apply (zs65 ?_) | apply (zs68 ?_) | apply (zs69 ?_) | apply (zs70 ?_) | (apply zg27; refine zs71 ?_) | apply (zs74 ?_) | apply (zs77 ?_) | fail)
    apply Yt; exact rfl; exact rfl; exact rfl
    rw [JD, if_pos hf]
  | true =>
    have hfr := O0.1 hf
    have hle : s.cells.length ≤ 512 := hfr.few
    have hnm := UM hfr
    have hln1 := Xv (w := wordS) hnm.1
    repeat' (first | ((first | apply Ya en58 | apply Yb en58); exact za; exact rfl; exact fun _ hw => (QP (congrArg Value.bool hf) (fun _ hw => Yag s hr.cons hl hw) hw)) | apply (zs2 ?_) | (apply zg2; refine zs6 ?_) | (apply zg3; first | refine zs7 ?_ | refine zs8 ?_) | (apply zg20; refine zs47 ?_) | (apply zg23; (refine zs52 ?_; intro _)) | (apply zg24; (refine zs54 ?_; intro _)) | (apply zg26; (refine zs56 ?_; intro _)) | apply (zs65 ?_) | apply (zs68 ?_) | apply (zs69 ?_) | apply (zs70 ?_) | (apply zg27; refine zs72 ?_) | apply (zs76 ?_) | fail)
    rename_i gs gb gl
    have hrl : Rd B w0 [blk gl (.cells #[.int .i64 s.len, .int .i64 s.off] 3 (0, 0)), blk gb (.cells (Value.agg #[.pointer none, .slice none 0 0]).cells 132 (0, 0)), blk gs (.cells #[.int .i64 s.len, .int .i64 s.off, .slice s.A s.cells.length s.cap] 30 (0, 0))] (some ⟨gl, 0, none⟩) ([s.sch.len, s.sch.off].flatMap numF) := Rd.blk (cs := #[.int .i64 s.len, .int .i64 s.off]) (.head _)
    first | apply Ya Yda | apply Yb Yda
    exact za
    exact rfl
    exact fun _ hw => (QF wordS [s.sch.len, s.sch.off] hnm.1 (by show 2 ≤ 100; decide) (by decide) ht hrl hw)
    apply QI (bdP gb (.pointer none) none 0 [] [blk gs (.cells #[.int .i64 s.len, .int .i64 s.off, .slice s.A s.cells.length s.cap] 30 (0, 0))])
    · unfold bdP
      intro w hw
      have h5 : St B w0 [blk gb (.cells (Value.agg #[.pointer none, .slice none 0 0]).cells 132 (0, 0)), blk gs (.cells #[.int .i64 s.len, .int .i64 s.off, .slice s.A s.cells.length s.cap] 30 (0, 0))] w := by
        revert w
        exact zk
      exact (h5.nilSlice _ _).perm (.swap _ _ _)
    apply Ys _ en76
    exact za
    exact rfl
    exact fun _ hw => (Jt gb _ (.inl rfl) none 0 [] (Xi wordS [s.sch.len, s.sch.off]) (by simp only [List.length_nil]; have : wordS.length = 8 := rfl; simp only [List.length_cons, List.length_nil] at hln1; omega) (hw))
    rintro _ _ ⟨rfl, A1, cap1, rfl⟩
    unfold bdP
    repeat' (first | apply (zs1 ?_) | (apply zg2; refine zs6 ?_) | (apply zg3; refine zs7 ?_) | (apply zg4; refine zs9 ?_) | apply (zs65 ?_) | apply (zs68 ?_) | apply (zs69 ?_) | apply (zs70 ?_) | apply (zs73 ?_) | fail)
    refine Yk (fun (z : Nat × Option Addr × Nat) => [(21, .int .i64 z.1), (20, .int .i64 s.cells.length), (19, .slice s.A s.cells.length s.cap), (4, .pointer (some ⟨gb, 0, none⟩))]) (fun z => bdP gb (.pointer (some ⟨gb, 0, none⟩)) z.2.1 z.2.2 (XH s.sch z.1) [blk gs (.cells #[.int .i64 s.len, .int .i64 s.off, .slice s.A s.cells.length s.cap] 30 (0, 0))]) (fun z => z.1 ≤ s.cells.length) (fun z => s.cells.length - z.1) (0, A1, cap1) (Nat.zero_le _) ?_ ?_ ?_
    · exact zu
    · have e0 : XH s.sch 0 = [] ++ Xi wordS [s.sch.len, s.sch.off] := by unfold XH; simp
      rw [e0]
      unfold bdP
      exact fun w hw => hw
    rintro ⟨i, A2, cap2⟩ hi K hK
    dsimp only at hi ⊢
    have htl := Of hfr i hi
    by_cases hlt : i < s.cells.length
    · have hget : s.cells[i]? = some (Yl s.sch i) := YC (s := s.sch) hlt
      have hnc := hnm.2 _ (UY (s := s.sch) hlt)
      have hln := Xv (w := wordC) hnc
      have hr' : Rd B w0 (bdP gb (.pointer (some ⟨gb, 0, none⟩)) A2 cap2 (XH s.sch i) [blk gs (.cells #[.int .i64 s.len, .int .i64 s.off, .slice s.A s.cells.length s.cap] 30 (0, 0))]) s.A (s.cells.flatMap celF) := hr.cons.cons.cons
      repeat' (first | ((first | apply Ya YeY | apply Yb YeY); exact za; exact rfl; exact fun _ hw => (Ux _ hw)) | (apply Us T (e := 3); exact rfl; exact rfl; exact rfl) | (apply zg3; first | refine zs8 ?_ | refine zs61 ?_) | (apply zg5; refine zs57 ?_) | (apply (zs17 ?_ ?_) <;> intro _ <;> try (exfalso; omega)) | (apply zg22; refine zs51 ?_) | (apply zg24; (refine zs54 ?_; intro _)) | apply (zs65 ?_) | apply (zs68 ?_) | apply (zs69 ?_) | apply (zs70 ?_) | (apply zg27; refine zs71 ?_) | apply (zs73 ?_) | apply (zs76 ?_) | fail)
      rename_i gc ga
      have hra : ∀ X, Rd B w0 (blk ga (.cells (celF (Yl s.sch i)).toArray 183 (0, 0)) :: X) (some ⟨ga, 0, none⟩) ((nums (Yl s.sch i)).flatMap numF) := fun X => Rd.blk (cs := (celF (Yl s.sch i)).toArray) (.head _)
      first | apply Ya Yda | apply Yb Yda
      exact za
      exact rfl
      exact fun _ hw => (QF wordC (nums (Yl s.sch i)) hnc (by show 5 ≤ 100; decide) (by decide) ht (hra _) hw)
      apply QI (bdP gb (.pointer (some ⟨gb, 0, none⟩)) A2 cap2 (XH s.sch i) [blk gs (.cells #[.int .i64 s.len, .int .i64 s.off, .slice s.A s.cells.length s.cap] 30 (0, 0))])
      · exact fun w hw => hw.tail.tail
      have h5n : (nums (Yl s.sch i)).length = 5 := rfl
      have h4w : wordC.length = 4 := rfl
      apply Ys _ en76
      exact za
      exact rfl
      exact fun _ hw => (Jt gb _ (.inr rfl) A2 cap2 (XH s.sch i) (Xi wordC (nums (Yl s.sch i))) (by omega) (hw))
      rintro _ _ ⟨rfl, A3, cap3, rfl⟩
      rw [← Wl hlt]
      repeat' (first | apply (zs1 ?_) | (apply zg13; refine zs30 ?_) | apply (zs65 ?_) | apply (zs68 ?_) | apply (zs70 ?_) | apply (zs79 ?_) | fail)
      apply hK (i + 1, A3, cap3)
      · show i + 1 ≤ s.cells.length
        omega
      · dsimp only; omega
      · exact zu
      · exact fun w hw => hw
    · repeat' (first | (apply (zs17 ?_ ?_) <;> intro _ <;> try (exfalso; omega)) | apply (zs65 ?_) | apply (zs68 ?_) | apply (zs69 ?_) | apply (zs70 ?_) | (apply zg27; refine zs72 ?_) | apply (zs75 ?_) | apply (zs80 ?_) | apply (zs81 ?_) | fail)
      apply Ys _ en78
      exact za
      exact rfl
      exact fun _ hw => (U5 (l := XH s.sch i) (.inr rfl) (hw))
      rintro _ _ ⟨rfl, rfl⟩
      repeat' (first | apply (zs2 ?_) | apply (zs65 ?_) | apply (zs68 ?_) | apply (zs74 ?_) | fail)
      apply Yt; exact rfl; exact rfl; exact rfl
      rw [JD, if_neg (by simp [hf])]
      rw [show i = s.sch.cells.length from (by have : s.sch.cells.length = s.cells.length := rfl; omega), show XH s.sch s.sch.cells.length = YfO s.sch from (by unfold XH YfO; rw [List.take_length])]
theorem YcV (s : SchM) {B : Nat} {w0 : World} {H : List HP} {w : World} (ht : TabsB B w0) (hr : Rd B w0 H s.A (s.cells.flatMap celF)) (hl : s.cells.length ≤ 1000000000000) (hw : St B w0 H w) :
    Calls Tryz.prog 47 [s.val].toArray w (Post B w0 fun v K => v = .tuple #[strV (JD s.sch).1, .int .i64 (JD s.sch).2] ∧ K = H) :=
  Wf hw (Yfj s (ht.here hw) (hr.here hw) hl (St.start w))
open Go.RowKit Go.Eng Go.Nw
set_option maxRecDepth 10000 in
theorem Ybi (l : List Cel) (hlen : l.length ≤ 1000000) {A : Option Addr} {cap B : Nat} {w0 : World} {H : List HP} {w : World} (hr : Rd B w0 H A (l.flatMap celF)) (hw : St B w0 H w) :
    Calls Tryz.prog 64 [.slice A l.length cap].toArray w (Post B w0 fun v K => ∃ A' cap', v = .slice A' l.length cap' ∧ K = cels A' cap' l :: H) := by
  cases A with
  | none =>
    have hl : l = [] := by
      cases l with
      | nil => rfl
      | cons x l =>
        obtain ⟨g, o, e, _⟩ := hr w hw 0 _ rfl
        cases e
    subst hl
    refine Yd Tryz.func64 Tryz.ntmps64 rfl rfl hw ?_
    repeat' (first | (apply Vm; exact rfl; exact rfl; exact rfl) | apply (zs1 ?_) | apply (zs2 ?_) | apply (zs65 ?_) | apply (zs68 ?_) | apply (zs69 ?_) | apply (zs70 ?_) | (apply zg27; refine zs71 ?_) | apply (zs74 ?_) | apply (zs77 ?_) | fail)
    apply Wh 40 5; apply Yc; exact rfl; exact rfl; exact ⟨none, 0, rfl, rfl⟩
  | some a =>
    refine Yd Tryz.func64 Tryz.ntmps64 rfl rfl hw ?_
    repeat' (first | (apply Vm; exact rfl; exact rfl; exact rfl) | (apply Ve T; exact rfl; exact rfl; intro g2) | apply (zs1 ?_) | apply (zs2 ?_) | apply (zs65 ?_) | apply (zs68 ?_) | apply (zs69 ?_) | apply (zs70 ?_) | (apply zg27; refine zs72 ?_) | apply (zs76 ?_) | fail)
    apply Ue T (f := celF) (l2 := l) (e := 40) (size := 5) (xs := []); exact rfl; exact rfl; exact rfl; exact hr.cons; exact (fun _ => rfl); exact (fun _ => rfl); exact rfl; (intro _ _; exact zd); omega; intro A' cap'
    repeat' (first | apply (zs2 ?_) | apply (zs65 ?_) | apply (zs68 ?_) | apply (zs74 ?_) | fail)
    rw [Nat.zero_add, List.nil_append]
    apply Yc; exact rfl; exact rfl; exact ⟨A', cap', rfl, rfl⟩
open Go.RowKit Go.Eng Go.Nw
theorem W6 {α : Type} (p : α → Bool) : ∀ (l : List α) (k : Int), (l.filter (fun a => !p a) = l ∧ Yq p l k = -1) ∨ ∃ j, j < l.length ∧ Yq p l k = k + j ∧ (l.take j).filter (fun a => !p a) = l.take j ∧ ∃ a, l[j]? = some a ∧ p a = true
  | [], _ => .inl ⟨rfl, rfl⟩
  | a :: l, k => by
    unfold Yq
    cases h : p a with
    | true => exact .inr ⟨0, by simp, by simp, rfl, a, rfl, h⟩
    | false =>
      rw [if_neg (by decide)]
      have hn : (!p a) = true := by rw [h]; rfl
      rcases W6 p l (k + 1) with ⟨h1, h2⟩ | ⟨j, h1, h2, h3, b, h4, h5⟩
      · exact .inl ⟨by rw [List.filter_cons, if_pos hn, h1], h2⟩
      · refine .inr ⟨j + 1, by simp only [List.length_cons]; omega, by rw [h2]; omega, ?_, b, h4, h5⟩
        rw [List.take_succ_cons, List.filter_cons, if_pos hn, h3]
theorem OS (p : Cel → Bool) (l : List Cel) (f : Nat) (cs : List Value) (hen : ∀ xs w, (callFunc f xs).run Tryz.prog w = .ok (.enter f xs) w) (hlen : l.length ≤ 1000) {A : Option Addr} {cap B : Nat} {w0 : World} {H : List HP} {w : World} (hr : Rd B w0 H A (l.flatMap celF))
    (hp : ∀ a ∈ l, ∀ w, St B w0 H w → Calls Tryz.prog f ([celV a] ++ cs).toArray w (Post B w0 fun v K => v = .bool (p a) ∧ K = H)) (hw : St B w0 H w) :
    Calls Tryz.prog 229 [.slice A l.length cap, .func (.func f) #[] cs.toArray].toArray w (Post B w0 fun v K => v = .int .i64 (Yq p l 0) ∧ K = H) := by
  refine Yd Tryz.func229 Tryz.ntmps229 rfl rfl hw ?_
  repeat' (first | apply (zs1 ?_) | apply (zs2 ?_) | (apply zg4; refine zs9 ?_) | apply (zs65 ?_) | apply (zs68 ?_) | apply (zs69 ?_) | apply (zs70 ?_) | apply (zs73 ?_) | fail)
  refine Yk (fun (k : Nat) => [(8, .int .i64 k), (7, .int .i64 l.length), (0, .slice A l.length cap), (1, .func (.func f) #[] cs.toArray)]) (fun _ => H) (fun k => k ≤ l.length ∧ Yq p l 0 = Yq p (l.drop k) k) (fun k => l.length - k) 0 ⟨Nat.zero_le _, by simp⟩ ?_ (fun w hw => hw) ?_
  · exact zu
  rintro k ⟨hk, hi⟩ K hK
  by_cases hlt : k < l.length
  · obtain ⟨a, ha⟩ : ∃ a, l[k]? = some a := ⟨_, List.getElem?_eq_getElem hlt⟩
    have hpa := hp a (List.mem_of_getElem? ha)
    rw [Ja p l ha] at hi
    repeat' (first | ((first | apply YE (cs := cs)); exact rfl; exact hen; exact za; exact rfl; exact fun _ hw => hpa _ hw) | apply (zs1 ?_) | apply (zs2 ?_) | (apply zg3; refine zs61 ?_) | (apply zg5; refine zs57 ?_) | (apply (zs17 ?_ ?_) <;> intro _ <;> try (exfalso; omega)) | apply (zs65 ?_) | apply (zs68 ?_) | apply (zs69 ?_) | apply (zs70 ?_) | (apply zg27; refine zs71 ?_) | apply (zs73 ?_) | apply (zs76 ?_) | fail)
    cases hpv : p a
    · rw [hpv] at hi
      repeat' (first | apply (zs1 ?_) | (apply zg13; refine zs30 ?_) | apply (zs65 ?_) | apply (zs68 ?_) | apply (zs70 ?_) | (apply zg27; refine zs72 ?_) | apply (zs76 ?_) | apply (zs79 ?_) | fail)
      apply hK (k + 1)
      · exact ⟨by omega, hi⟩
      · omega
      · exact zu
      · exact fun w hw => hw
    · rw [hpv] at hi
      repeat' (first | apply (zs1 ?_) | apply (zs2 ?_) | apply (zs65 ?_) | apply (zs68 ?_) | apply (zs69 ?_) | apply (zs70 ?_) | (apply zg27; refine zs71 ?_) | apply (zs74 ?_) | apply (zs77 ?_) | apply (zs78 ?_) | fail)
      apply Yc; exact rfl; exact rfl
      exact ⟨by rw [hi]; rfl, rfl⟩
  · repeat' (first | apply (zs2 ?_) | (apply (zs17 ?_ ?_) <;> intro _ <;> try (exfalso; omega)) | apply (zs65 ?_) | apply (zs68 ?_) | apply (zs69 ?_) | apply (zs70 ?_) | (apply zg27; refine zs72 ?_) | apply (zs74 ?_) | apply (zs75 ?_) | apply (zs80 ?_) | apply (zs81 ?_) | fail)
    apply Yc; exact rfl; exact rfl
    rw [hi, List.drop_eq_nil_of_le (by omega)]
    exact ⟨rfl, rfl⟩
structure Kc where
  i : Nat
  j : Nat
  M : List Cel
set_option maxRecDepth 10000 in
set_option maxHeartbeats 1000000 in
theorem Ycs (p : Cel → Bool) (l : List Cel) (f : Nat) (cs : List Value) (hen : ∀ xs w, (callFunc f xs).run Tryz.prog w = .ok (.enter f xs) w) (hlen : l.length ≤ 1000) {A : Option Addr} {cap B : Nat} {w0 : World} {H : List HP} {w : World}
    (hp : ∀ a ∈ l, ∀ (X : List HP) w, St B w0 (X ++ H) w → Calls Tryz.prog f ([celV a] ++ cs).toArray w (Post B w0 fun v K => v = .bool (p a) ∧ K = X ++ H)) (hw : St B w0 (cels A cap l :: H) w) :
    Calls Tryz.prog 286 [.slice A l.length cap, .func (.func f) #[] cs.toArray].toArray w (Post B w0 fun v K => v = .slice A (l.filter fun a => !p a).length cap ∧ K = cels A cap (l.filter fun a => !p a) :: H) := by
  refine Yd Tryz.func286 Tryz.ntmps286 rfl rfl hw ?_
  refine Ygf (e := 40) (size := 5) (A := A) (xs := l.flatMap celF) (k := l.length) (cap := cap) List.mem_cons_self fun hcap => ?_
  have hif := fun {w : World} (hw : St B w0 (cels A cap l :: H) w) => OS p l f cs hen hlen (cap := cap) (.sl List.mem_cons_self) (fun a ha w hw => hp a ha [cels A cap l] w hw) hw
  rcases W6 p l 0 with ⟨h1, h2⟩ | ⟨i0, h1, h2, h3, a0, h4, h5⟩
  · rw [h2] at hif
    rw [h1]
    repeat' (first | ((first | apply Ya QU | apply Yb QU); exact za; exact rfl; exact fun _ hw => (hif hw)) | apply (zs1 ?_) | apply (zs2 ?_) | (apply zg7; (refine zs15 ?_ ?_ <;> intro _ <;> try (exfalso; omega))) | apply (zs65 ?_) | apply (zs68 ?_) | apply (zs69 ?_) | apply (zs70 ?_) | (apply zg27; refine zs71 ?_) | apply (zs74 ?_) | apply (zs77 ?_) | fail)
    apply Yc; exact rfl; exact rfl; exact ⟨rfl, rfl⟩
  rw [h2, Int.zero_add] at hif
  repeat' (first | ((first | apply Ya QU | apply Yb QU); exact za; exact rfl; exact fun _ hw => (hif hw)) | apply (zs1 ?_) | apply (zs2 ?_) | (apply zg7; (refine zs15 ?_ ?_ <;> intro _ <;> try (exfalso; omega))) | (apply zg13; refine zs30 ?_) | apply (zs65 ?_) | apply (zs68 ?_) | apply (zs69 ?_) | apply (zs70 ?_) | (apply zg27; refine zs72 ?_) | apply (zs73 ?_) | apply (zs76 ?_) | fail)
  refine Yk (fun (z : Kc) => [(6, .int .i64 z.j), (5, .int .i64 z.i), (0, .slice A z.M.length cap), (1, .func (.func f) #[] cs.toArray)]) (fun z => cels A cap z.M :: H) (fun z => z.M.length = l.length ∧ z.i < z.j ∧ z.j ≤ l.length ∧ z.M.take z.i = (l.take z.j).filter (fun a => !p a) ∧ z.M.drop z.j = l.drop z.j) (fun z => l.length - z.j) ⟨i0, i0 + 1, l⟩ ⟨rfl, by simp only; omega, by simp only; omega, ?_, rfl⟩ ?_ (fun w hw => hw) ?_
  · simp only
    rw [List.take_add_one, h4, List.filter_append, h3]
    simp [h5]
  · exact zu
  rintro ⟨i, j, M⟩ ⟨hM, hij, hj, ht, hd⟩ K hK
  simp only at hM hij hj ht hd ⊢
  unfold cels
  by_cases hlt : j < l.length
  · obtain ⟨a, ha⟩ : ∃ a, l[j]? = some a := ⟨_, List.getElem?_eq_getElem hlt⟩
    have hMa : M[j]? = some a := by
      have e1 : (M.drop j)[0]? = (l.drop j)[0]? := by rw [hd]
      rw [List.getElem?_drop, List.getElem?_drop, Nat.add_zero, ha] at e1
      exact e1
    have hpa := fun {X1 X2 : HP} {w : World} (hw : St B w0 (X1 :: X2 :: H) w) => hp a (List.mem_of_getElem? ha) [X1, X2] w hw
    have hft : (l.take (j + 1)).filter (fun a => !p a) = M.take i ++ (if p a = true then [] else [a]) := by
      rw [List.take_add_one, ha, List.filter_append, ht]
      cases hpv : p a <;> simp [hpv]
    obtain ⟨b, hb⟩ : ∃ b, p a = b := ⟨_, rfl⟩
    rw [hb] at hft hpa
    have hd1 : ∀ x : Cel, (M.set i x).drop (j + 1) = l.drop (j + 1) := fun x => by
      rw [List.drop_set_of_lt (by omega), ← List.drop_drop, ← List.drop_drop, hd]
    cases b with
    | true =>
      rw [if_pos rfl, List.append_nil] at hft
      repeat' (first | ((first | apply YE (cs := cs)); exact rfl; exact hen; exact za; exact rfl; exact fun _ hw => hpa hw) | apply (zs1 ?_) | apply (zs2 ?_) | (apply zg3; first | refine zs8 ?_ | refine zs61 ?_) | (apply zg4; refine zs9 ?_) | (apply zg5; refine zs10 ?_) | (apply (zs17 ?_ ?_) <;> intro _ <;> try (exfalso; omega)) | (apply zg13; refine zs30 ?_) | (apply zg20; refine zs47 ?_) | (apply zg22; refine zs51 ?_) | (apply zg24; (refine zs54 ?_; intro _)) | apply (zs65 ?_) | apply (zs68 ?_) | apply (zs69 ?_) | apply (zs70 ?_) | (apply zg27; first | refine zs71 ?_ | refine zs72 ?_) | apply (zs73 ?_) | apply (zs76 ?_) | apply (zs79 ?_) | fail)
      apply hK ⟨i, j + 1, M⟩
      · exact ⟨hM, by simp only; omega, by simp only; omega, hft.symm, by simp only; rw [← List.drop_drop, ← List.drop_drop, hd]⟩
      · simp only; omega
      · exact zu
      · exact fun w hw => hw.tail
    | false =>
      rw [if_neg (by decide)] at hft
      have hMl : (M.set i a).length = M.length := List.length_set
      repeat' (first | ((first | apply YE (cs := cs)); exact rfl; exact hen; exact za; exact rfl; exact fun _ hw => hpa hw) | (apply Ql T (f := celF) (l := M) (i := i) (a := a); exact rfl; exact rfl; exact rfl; exact zd; exact fun _ => rfl; exact rfl; exact rfl; exact rfl; omega) | apply (zs1 ?_) | apply (zs2 ?_) | (apply zg3; first | refine zs8 ?_ | refine zs61 ?_) | (apply zg4; refine zs9 ?_) | (apply zg5; refine zs10 ?_) | (apply (zs17 ?_ ?_) <;> intro _ <;> try (exfalso; omega)) | (apply zg13; refine zs30 ?_) | (apply zg20; refine zs48 ?_) | (apply zg22; refine zs51 ?_) | (apply zg24; (refine zs54 ?_; intro _)) | apply (zs65 ?_) | apply (zs68 ?_) | apply (zs69 ?_) | apply (zs70 ?_) | (apply zg27; refine zs71 ?_) | apply (zs73 ?_) | apply (zs76 ?_) | apply (zs79 ?_) | fail)
      apply hK ⟨i + 1, j + 1, M.set i a⟩
      · refine ⟨by simp only; omega, by simp only; omega, by simp only; omega, ?_, hd1 a⟩
        simp only
        rw [hft, List.take_add_one, List.getElem?_set_self (by omega), List.take_set_of_le (Nat.le_refl _)]
        rfl
      · simp only; omega
      · dsimp only
        rw [hMl]
        exact zu
      · unfold cels
        dsimp only
        rw [hMl]
        exact fun w hw => hw.tail
  · obtain rfl : j = l.length := by omega
    clear hK
    rw [List.take_length] at ht
    have hil : (l.filter fun a => !p a).length = i := by rw [← ht, List.length_take]; omega
    have hfl : (M.flatMap celF).take (i * 5) = (l.filter fun a => !p a).flatMap celF := by rw [← Vr (q := 5) (fun _ => rfl), ht]
    repeat' (first | (apply J5 T (n' := M.length - i); exact rfl; exact rfl; exact rfl; exact rfl; omega; omega) | apply (zs1 ?_) | (apply zg4; refine zs9 ?_) | (apply (zs17 ?_ ?_) <;> intro _ <;> try (exfalso; omega)) | apply (zs65 ?_) | apply (zs68 ?_) | apply (zs69 ?_) | apply (zs70 ?_) | (apply zg27; refine zs72 ?_) | apply (zs75 ?_) | apply (zs80 ?_) | apply (zs81 ?_) | fail)
    rw [Int.toNat_natCast]
    apply QI (sl 40 5 A i cap ((l.filter fun a => !p a).flatMap celF) :: H)
    · intro w hw
      refine hw.shrink (e := 40) (size := 5) (cap := cap) (A := A) (xs := M.flatMap celF) (k := M.length) (k' := i) (by omega) ?_
      rw [hfl]
      exact Upd.here _
    apply YeO T T2 (e := 40) (size := 5) (k := i) (xs := (l.filter fun a => !p a).flatMap celF); exact rfl; exact List.mem_cons_self; exact rfl; exact rfl; exact rfl; omega
    repeat' (first | (apply Xy T (l := M) (n' := i); exact rfl; exact rfl; exact rfl; exact rfl; omega; omega; omega) | apply (zs1 ?_) | apply (zs2 ?_) | apply (zs65 ?_) | apply (zs68 ?_) | apply (zs69 ?_) | apply (zs70 ?_) | apply (zs74 ?_) | fail)
    rw [Oc]
    repeat' (first | fail)
    apply Yc; exact rfl; exact rfl
    exact ⟨by rw [hil], by rw [hil]⟩
open Go.RowKit Go.Eng Go.Nw
section
variable {m : Eng.Mode} {n : Shp} {B d : Nat} {w0 : World} {ops : Array Oper} {Q : Exit → Act → World → Prop} {rest : List Oper} {env : Env} {H : List HP} {ty : TypeId} {pos : String} {after : Array Edge} {x y : Operand}
theorem Ycr {a b : List UInt8} : (⟨a.toArray⟩ : ByteArray) = ⟨b.toArray⟩ ↔ a = b := by
  constructor
  · intro h
    have h1 := congrArg (fun s : ByteArray => s.data.toList) h
    simpa using h1
  · rintro rfl; rfl
theorem YaR (a b : List UInt8) (hx : evo env x = some (strV a)) (hy : evo env y = some (strV b)) (hn : Nat.ble (d + 1) n.k = true) (h1 : a ≠ b → VL Tryz.prog m n B w0 ops Q rest ((d, .bool true) :: env) H) (h2 : a = b → VL Tryz.prog m n B w0 ops Q rest ((d, .bool false) :: env) H) :
    VL Tryz.prog m n B w0 ops Q (⟨some d, .binOp .neq 9 x y 9, ty, pos, after, none⟩ :: rest) env H :=
  Ygj hx hy hn (fun h => h1 fun e => h (Ycr.2 e)) (fun h => h2 (Ycr.1 h))
theorem Ygm (hx : evo env x = some .nilIface) (hn : Nat.ble (d + 1) n.k = true) (h : VL Tryz.prog m n B w0 ops Q rest ((d, .bool false) :: env) H) :
    VL Tryz.prog m n B w0 ops Q (⟨some d, .binOp .neq 134 x (.const .nilIface) 134, ty, pos, after, none⟩ :: rest) env H :=
  YI (y := .const .nilIface) hx rfl hn (fun w => by simp [eqGuard]) (fun w => run_neq_nil_nil (P := Tryz.prog) (w := w) 134 (by kernel_rfl)) h
theorem YgC {t : TypeId} {p : Value} (hx : evo env x = some (.iface t p)) (hn : Nat.ble (d + 1) n.k = true) (h : VL Tryz.prog m n B w0 ops Q rest ((d, .bool true) :: env) H) :
    VL Tryz.prog m n B w0 ops Q (⟨some d, .binOp .neq 134 x (.const .nilIface) 134, ty, pos, after, none⟩ :: rest) env H :=
  YI (y := .const .nilIface) hx rfl hn (fun w => by simp [eqGuard]) (fun w => run_neq_held_nil (P := Tryz.prog) (w := w) 134 t p (by kernel_rfl)) h
end
abbrev nrs (A : Option Addr) (cap : Nat) (l : List Int) : HP := sl 3 1 A l.length cap (l.flatMap numF)
theorem Jf (A : Option Addr) (cap : Nat) (l : List Int) (z : Int) : sl 3 1 A (l.length + 1) cap (l.flatMap numF ++ #[Value.int .i64 z].toList) = nrs A cap (l ++ [z]) := by simp [nrs, List.flatMap_append, numF]
theorem Yah (ps : List (List UInt8)) : (ps.map strV) = ps.flatMap strL := by induction ps with | nil => rfl | cons a l ih => simp [strL, List.flatMap_cons, ih]
theorem Yd2 {ws : List (List UInt8)} (h : ∀ w ∈ ws, 0 ≤ numW w) : Jb ws = some (ws.map numW) := by
  unfold Jb
  rw [if_neg]
  rw [Bool.not_eq_true, List.any_eq_false]
  intro w hw
  have := h w hw
  simp; omega
theorem Yd5 {ws : List (List UInt8)} {w : List UInt8} (hw : w ∈ ws) (h : numW w < 0) : Jb ws = none := by
  unfold Jb
  rw [if_pos]
  rw [List.any_eq_true]
  exact ⟨w, hw, by simpa using h⟩
theorem Yat {c : UInt8} : ∀ {l : List UInt8}, ∀ p ∈ cutC c l, p.length ≤ l.length
  | [], p, hp => by
    simp only [cutC, List.mem_singleton] at hp
    subst hp; simp
  | x :: l, p, hp => by
    have ih := Yat (c := c) (l := l)
    unfold cutC at hp
    split at hp
    · rcases List.mem_cons.1 hp with rfl | hp
      · simp
      · have := ih p hp; simp only [List.length_cons]; omega
    · cases hc : cutC c l with
      | nil => rw [hc] at hp; simp at hp; subst hp; simp
      | cons q qs =>
        rw [hc] at hp ih
        simp only [List.mem_cons] at hp ih
        rcases hp with rfl | hp
        · have := ih q (.inl rfl); simp only [List.length_cons]; omega
        · have := ih p (.inr hp); simp only [List.length_cons]; omega
def OutR (H : List HP) (r : Option (List Int)) (v : Value) (K : List HP) : Prop :=
  match r with
  | none => v = .tuple #[.slice none 0 0, .bool false] ∧ K = H
  | some x => ∃ A cap, v = .tuple #[.slice A x.length cap, .bool true] ∧ K = nrs A cap x :: H
end Go.Proofs.YtmalhidldgfeoaaGreatDoor
namespace Go.Eng
open Go.RowKit
end Go.Eng
namespace Go.Proofs.YtmalhidldgfeoaaGreatDoor
open Go.RowKit Go.Eng Go.Nw
theorem Xa {f : Nat → Int} : ∀ {r i0 i : Nat}, (∀ k, i0 ≤ k → k < i → f k = 0) → i0 ≤ i → i < i0 + r → f i ≠ 0 → Yz f r i0 = ((i : Int), f i)
  | 0, i0, i, _, h1, h2, _ => by omega
  | r + 1, i0, i, h0, h1, h2, h3 => by
    unfold Yz
    by_cases e : i0 = i
    · subst e; rw [if_neg h3]
    · rw [if_pos (h0 i0 (Nat.le_refl _) (by omega))]
      exact Xa (fun k hk1 hk2 => h0 k (by omega) hk2) (by omega) (by omega) h3
theorem Xo {f : Nat → Int} {r i0 : Nat} (h : ∀ k, i0 ≤ k → k < i0 + r → f k = 0) : Yz f r i0 = (-1, 0) := by
  have h2 := Xf.2 h
  exact Prod.ext (On h2) h2
theorem Vq {c : UInt8} : ∀ l : List UInt8, (cutC c l).length ≤ l.length + 1
  | [] => by simp [cutC]
  | x :: l => by
    have ih := Vq (c := c) l
    unfold cutC
    split
    · simp only [List.length_cons]; omega
    · split
      · simp
      · rename_i h t he
        rw [he] at ih
        simp only [List.length_cons] at ih ⊢
        omega
end Go.Proofs.YtmalhidldgfeoaaGreatDoor
namespace Go.Eng
open Go.ChangeShapes Go.WideShapes Go.ChangeAt Go.RowKit Go.Deep
def Old (W : World) (A : Option Addr) (xs : List Value) : Prop := ∀ j v, xs[j]? = some v → ∃ g o, A = some ⟨g, o, none⟩ ∧ g < W.heap.size ∧ W.cell? ⟨g, o + j, none⟩ = some v
theorem Old.rd {W : World} {H : List HP} {A : Option Addr} {xs : List Value} (h : Old W A xs) : Rd W.heap.size W H A xs := Rd.old h
theorem Ygw {W : World} {a : Addr} {v : Value} (h : W.cell? a = some v) : a.block < W.heap.size := by
  unfold World.cell? at h
  rcases Nat.lt_or_ge a.block W.heap.size with h1 | h1
  · exact h1
  · rw [Array.getElem?_eq_none h1] at h; cases h
section
variable {H : Type} {enc : TypeId × Value → H} {P : Program} {W : World} {held : Bool}
theorem Yec {α : Type} {f : α → List Value} {good : α → Prop} {t e q : Nat} {fuel : Nat} {A : Option Addr} {len cap : Nat} {x : DataW H × List MemPlace} {spare : Nat → Bool} (ht : P.underlying t = some (.slice e)) (hc : P.cellsOf e = q) (h0 : 0 < q)
    (hel : ∀ n cs y, cs.length = q → DataW.trod enc P W 0 spare held n e cs = some y → ∃ a, cs = f a ∧ good a) (h : DataW.trod enc P W 0 spare held fuel t [.slice A len cap] = some x) :
    ∃ l : List α, l.length = len ∧ Old W A (l.flatMap f) ∧ (∀ a ∈ l, good a) ∧ len ≤ maxLen ∧ (∀ a ∈ l, (f a).length = q) := by
  rcases open_slice ht h with ⟨h1, _⟩ | ⟨a, len', cap', m, n, D, Pl, h1, _, hl, hm, hmm, hxx, hx⟩
  · injection h1 with h1 _
    injection h1 with h1 h2 h3
    subst h1 h2 h3
    exact ⟨[], rfl, (fun j v hv => by simp at hv), (fun a ha => by cases ha), Nat.zero_le _, (fun a ha => by cases ha)⟩
  · injection h1 with h1 _
    injection h1 with h1 h2 h3
    subst h1 h2 h3
    have hle : len ≤ m := by rw [hmm]; split <;> omega
    rw [hc] at hx
    have key : ∀ i, i < len → ∃ b : α, W.cells? 0 (a.add (i * q)) q = some (f b) ∧ good b := fun i hi => by
      obtain ⟨cs', h2, h3⟩ := hx i (by omega)
      obtain ⟨_, h5, _⟩ := World.cells?_some h2
      obtain ⟨b, rfl, hb⟩ := hel n cs' _ h5 h3
      exact ⟨b, h2, hb⟩
    obtain ⟨l, hlen, hl2⟩ : ∃ l : List α, l.length = len ∧ ∀ i b, l[i]? = some b → W.cells? 0 (a.add (i * q)) q = some (f b) ∧ good b := by
      clear hx hmm hle h hl hm hxx
      induction len with
      | zero => exact ⟨[], rfl, fun i b hb => by simp at hb⟩
      | succ k ih =>
        obtain ⟨l, h2, h3⟩ := ih (fun i hi => key i (by omega))
        obtain ⟨b, h4⟩ := key k (by omega)
        refine ⟨l ++ [b], by simp [h2], fun i c hc => ?_⟩
        by_cases hi : i < l.length
        · rw [List.getElem?_append_left hi] at hc; exact h3 i c hc
        · rw [List.getElem?_append_right (by omega)] at hc
          have hi2 : i - l.length = 0 := by
            have := (List.getElem?_eq_some_iff.1 hc).1
            simp at this; omega
          rw [hi2] at hc
          obtain rfl : b = c := by simpa using hc
          obtain rfl : i = k := by omega
          exact h4
    have hfq : ∀ b ∈ l, (f b).length = q := fun b hb => by
      obtain ⟨i, hi⟩ := List.getElem?_of_mem hb
      exact (World.cells?_some (hl2 i b hi).1).2.1
    refine ⟨l, hlen, fun j v hv => ?_, fun b hb => ?_, by omega, hfq⟩
    · have hspl : ∃ i b, l[i]? = some b ∧ ∃ r, j = i * q + r ∧ r < q ∧ (f b)[r]? = some v := by
        clear hlen hl2 key
        induction l generalizing j with
        | nil => simp at hv
        | cons b l ih =>
          rw [List.flatMap_cons] at hv
          have hb := hfq b (by simp)
          by_cases hj : j < q
          · rw [List.getElem?_append_left (by omega)] at hv
            exact ⟨0, b, rfl, j, by omega, hj, hv⟩
          · rw [List.getElem?_append_right (by omega), hb] at hv
            obtain ⟨i, b', h5, r, h6, h7, h8⟩ := ih (fun c hc => hfq c (by simp [hc])) (j - q) hv
            exact ⟨i + 1, b', by simpa using h5, r, by rw [Nat.add_mul]; omega, h7, h8⟩
      obtain ⟨i, b, h5, r, rfl, h7, h8⟩ := hspl
      have h9 := (World.cells?_some (hl2 i b h5).1).2.2 r h7
      rw [h8, add_add] at h9
      obtain ⟨ab, ao, spot⟩ := a
      have hs0 : spot = none := by
        have h10 := World.cell?_spot h9
        unfold Addr.add at h10
        split at h10
        · exact h10
        · rename_i hne
          have hi0 : i < len := by have := (List.getElem?_eq_some_iff.1 h5).1; omega
          have h11 := (World.cells?_some (hl2 0 l[0] (List.getElem?_eq_getElem (by omega))).1).2.2 0 h0
          rw [add_add, Nat.zero_mul, Nat.zero_add] at h11
          have hf0 : ((f l[0])[0]?).isSome = true := by
            rw [List.getElem?_eq_getElem (by rw [hfq _ (List.getElem_mem _)]; exact h0)]; rfl
          cases hf1 : (f l[0])[0]? with
          | none => rw [hf1] at hf0; cases hf0
          | some u =>
            rw [hf1] at h11
            exact World.cell?_spot h11
      subst hs0
      refine ⟨ab, ao, rfl, ?_, ?_⟩
      · have := Ygw h9
        rw [Addr.add_lit] at this
        exact this
      · rw [Addr.add_lit] at h9
        exact h9
    · obtain ⟨i, hi⟩ := List.getElem?_of_mem hb
      exact (hl2 i b hi).2
end
open Go.ChangeShapes Go.WideShapes Go.ChangeAt Go.RowKit Go.Deep
structure SlM (α : Type) where
  A : Option Addr
  cap : Nat
  xs : List α
def SlM.val {α : Type} (s : SlM α) : Value := .slice s.A s.xs.length s.cap
section
variable {H : Type} {enc : TypeId × Value → H} {P : Program} {W : World} {spare : Nat → Bool} {held : Bool}
def Opn (enc : TypeId × Value → H) (P : Program) (W : World) (spare : Nat → Bool) (held : Bool) (t : TypeId) {α : Type} (f : α → List Value) (good : α → Prop) : Prop :=
  ∀ fuel cs y, DataW.trod enc P W 0 spare held fuel t cs = some y → ∃ a, cs = f a ∧ good a
theorem YcL {t : TypeId} {α β : Type} {f : α → List Value} {good : α → Prop} {f' : β → List Value} {good' : β → Prop} (h : Opn enc P W spare held t f good) (g : α → β) (hf : ∀ a, f a = f' (g a)) (hg : ∀ a, good a → good' (g a)) : Opn enc P W spare held t f' good' := by
  intro fuel cs y hy
  obtain ⟨a, h1, h2⟩ := h fuel cs y hy
  exact ⟨g a, h1.trans (hf a), hg a h2⟩
theorem Yhv {t : TypeId} {k : IntKind} (ht : P.underlying t = some (.int k)) : Opn enc P W spare held t (fun z : Int => [Value.int k z]) (fun z => (Lit.int k z).wf = true) := by
  intro fuel cs y hy
  obtain ⟨m, rfl, rfl, hw⟩ := DataW.trod_int ht hy
  exact ⟨m, rfl, hw⟩
structure SlG {α : Type} (W : World) (f : α → List Value) (good : α → Prop) (s : SlM α) : Prop where
  old : Old W s.A (s.xs.flatMap f)
  good : ∀ a ∈ s.xs, good a
  len : s.xs.length ≤ maxLen
  cap : s.xs.length ≤ s.cap
theorem Va {t e q : TypeId} {α : Type} {f : α → List Value} {good : α → Prop} (ht : P.underlying t = some (.slice e)) (hc : P.cellsOf e = q) (h0 : 0 < q) (h : Opn enc P W spare held e f good) : Opn enc P W spare held t (fun s : SlM α => [s.val]) (SlG W f good) := by
  intro fuel cs y hy
  rcases open_slice ht hy with ⟨rfl, _⟩ | ⟨a, len, cap, m, n, D, Pl, rfl, _, hlc, _⟩
  · exact ⟨⟨none, 0, []⟩, rfl, ⟨(fun j v hv => by simp at hv), (fun a ha => by cases ha), Nat.zero_le _, Nat.zero_le _⟩⟩
  · obtain ⟨l, h1, h2, h3, h4, _⟩ := Yec ht hc h0 (fun n cs y _ hy => h n cs y hy) hy
    subst h1
    exact ⟨⟨some a, cap, l⟩, rfl, h2, h3, h4, hlc⟩
def FOpn (enc : TypeId × Value → H) (P : Program) (W : World) (spare : Nat → Bool) (held : Bool) (ts : List TypeId) {α : Type} (f : α → List Value) (good : α → Prop) : Prop :=
  ∀ (n : Nat) (cs : List Value), cs.length = (ts.map P.cellsOf).sum → (∀ i t, ts[i]? = some t → ∃ y, DataW.trod enc P W 0 spare held n t ((cs.drop ((ts.take i).map P.cellsOf).sum).take (P.cellsOf t)) = some y) → ∃ a, cs = f a ∧ good a
theorem Ygc : FOpn enc P W spare held [] (fun _ : Unit => []) (fun _ => True) := fun n cs h _ => ⟨(), List.eq_nil_of_length_eq_zero (by simpa using h), trivial⟩
theorem JV {t : TypeId} {ts : List TypeId} {α β : Type} {f : α → List Value} {good : α → Prop} {g : β → List Value} {good' : β → Prop} (h : Opn enc P W spare held t f good) (hs : FOpn enc P W spare held ts g good') :
    FOpn enc P W spare held (t :: ts) (fun x : α × β => f x.1 ++ g x.2) (fun x => good x.1 ∧ good' x.2) := by
  intro n cs hl hx
  simp only [List.map_cons, List.sum_cons] at hl
  obtain ⟨y, hy⟩ := hx 0 t rfl
  simp only [List.take_zero, List.map_nil, List.sum_nil, List.drop_zero] at hy
  obtain ⟨a, h1, h2⟩ := h n _ y hy
  obtain ⟨b, h3, h4⟩ := hs n (cs.drop (P.cellsOf t)) (by simp; omega) (fun i u hu => by
    obtain ⟨y, hy⟩ := hx (i + 1) u (by simpa using hu)
    refine ⟨y, ?_⟩
    rw [List.drop_drop]
    simpa using hy)
  exact ⟨(a, b), by show cs = f a ++ g b; rw [← h1, ← h3, List.take_append_drop], h2, h4⟩
def offs (P : Program) : List TypeId → Nat → List Nat
  | [], _ => []
  | t :: ts, o => o :: offs P ts (o + P.cellsOf t)
theorem YbO (P : Program) : ∀ (ts : List TypeId) (o i : Nat), i < ts.length → (offs P ts o)[i]? = some (o + ((ts.take i).map P.cellsOf).sum)
  | [], _, _, h => by simp at h
  | t :: ts, o, 0, _ => by simp [offs]
  | t :: ts, o, i + 1, h => by
    rw [offs, List.getElem?_cons_succ, YbO P ts _ i (by simpa using h)]
    simp [Nat.add_assoc]
def YdA (P : Program) (t : TypeId) (ts : List TypeId) : Bool :=
  match P.underlying t with
  | some (.struct fs) => (fs.toList.map (·.type) == ts) && (fs.toList.map (·.offset) == offs P ts 0) && (P.cellsOf t == (ts.map P.cellsOf).sum)
  | _ => false
theorem Yef {t : TypeId} {ts : List TypeId} {α : Type} {f : α → List Value} {good : α → Prop} (hB : YdA P t ts = true) (h : FOpn enc P W spare held ts f good) : Opn enc P W spare held t f good := by
  intro fuel cs y hy
  unfold YdA at hB
  cases hu : P.underlying t with
  | none => rw [hu] at hB; cases hB
  | some d =>
    rw [hu] at hB
    cases d with
    | struct fs =>
      simp only [Bool.and_eq_true, beq_iff_eq] at hB
      obtain ⟨⟨h1, h2⟩, h3⟩ := hB
      obtain ⟨xs, n, _, _, hl, hn, hx⟩ := DataW.trod_struct hu hy
      refine h n cs (hl.trans h3) fun i u hi => ?_
      have hlt : i < ts.length := (List.getElem?_eq_some_iff.1 hi).1
      have hlf : i < fs.toList.length := by rw [← h1] at hlt; simpa using hlt
      have hf : fs[i]? = some (fs.toList[i]) := by rw [← Array.getElem?_toList, List.getElem?_eq_getElem hlf]
      have ht : (fs.toList[i]).type = u := by
        rw [← h1, List.getElem?_map, List.getElem?_eq_getElem hlf] at hi
        simpa using hi
      have ho : (fs.toList[i]).offset = ((ts.take i).map P.cellsOf).sum := by
        have h5 := YbO P ts 0 i hlt
        rw [← h2, List.getElem?_map, List.getElem?_eq_getElem hlf] at h5
        simpa using h5
      have h6 := hx i _ hf
      rw [ht, ho] at h6
      have hlx : i < xs.length := by rw [hn]; simpa using hlf
      exact ⟨xs[i], by rw [h6, List.getElem?_eq_getElem hlx]⟩
    | _ => cases hB
end
end Go.Eng
namespace Go.Proofs.YtmalhidldgfeoaaGreatDoor
open Go.ChangeShapes Go.WideShapes Go.ChangeAt Go.RowKit Go.Eng Go.Nw
section
variable {H : Type} {enc : TypeId × Value → H} {W : World} {spare : Nat → Bool} {held : Bool}
abbrev I64 (z : Int) : Prop := (Lit.int .i64 z).wf = true
theorem op_i : Opn enc Tryz.prog W spare held 3 numF I64 := Yhv Tryz.underlying3
theorem Yf6 : Opn enc Tryz.prog W spare held 24 (fun s : SlM Int => [s.val]) (SlG W numF I64) := Va (q := 1) Tryz.underlying24 (by kernel_rfl) (by decide) op_i
structure NetG (W : World) (n : NetM) : Prop where
  nodes : I64 n.nodes
  pw : Old W n.pA (n.rows.flatMap rowF)
  rw_ : ∀ r ∈ n.rows, Old W r.A (r.xs.flatMap numF)
  noise : I64 n.noise
  thr : I64 n.thr
  lk : Old W n.lA (n.links.flatMap lkF)
  mg : Old W n.mA (n.margin.flatMap numF)
  s1 : n.rows.length ≤ 9223372036854775807
  s2 : ∀ r ∈ n.rows, r.xs.length ≤ 9223372036854775807
  s3 : n.links.length ≤ 9223372036854775807
  s4 : n.margin.length ≤ 9223372036854775807
  w1 : ∀ r ∈ n.rows, ∀ z ∈ r.xs, I64 z
  w2 : ∀ l ∈ n.links, I64 l.1 ∧ I64 l.2.1 ∧ I64 l.2.2
  w3 : ∀ z ∈ n.margin, I64 z
  c3 : n.links.length ≤ n.lcap
  c4 : n.margin.length ≤ n.mcap
theorem NetG.In {n : NetM} {K : List HP} (h : NetG W n) : n.In W.heap.size W K := ⟨h.pw.rd, fun r hr => (h.rw_ r hr).rd, h.lk.rd, h.mg.rd, h.s1, h.s2, h.s3, h.s4⟩
def YgU (s : SlM Int) : RowM := ⟨s.A, s.cap, s.xs⟩
theorem maxL : maxLen ≤ 9223372036854775807 := by decide
end
open Go.ChangeShapes Go.WideShapes Go.ChangeAt Go.RowKit
section
variable {H : Type} {enc : TypeId × Value → H} {P : Program}
theorem Uh (hl : laidOutB P = true) {W W' : World} {sp : Nat → Bool} : ∀ {ts : List TypeId} {vs : List Value} {ds : List (DataW H)} {ps : List MemPlace}, (ts.all fun t => P.readableRec t && decide (t < P.types.size)) = true →
    DataW.TrodAll enc P W 0 (fun _ => true) true ts vs ds ps → (∀ p ∈ ps, W.sameAt W' p) → (∀ p ∈ ps, sp p.block = true) → DataW.TrodAll enc P W' 0 sp true ts vs ds ps
  | [], [], [], _, _, h, _, _ => h
  | [], [], _ :: _, _, _, h, _, _ => h.elim
  | [], _ :: _, _, _, _, h, _, _ => h.elim
  | _ :: _, [], _, _, _, h, _, _ => h.elim
  | _ :: _, _ :: _, [], _, _, h, _, _ => h.elim
  | t :: ts, v :: vs, d :: ds, ps, hr, h, hs, hp => by
    obtain ⟨p, q, h1, h2, rfl⟩ := h
    simp only [List.all_cons, Bool.and_eq_true, decide_eq_true_eq] at hr
    exact ⟨p, q, WideElems.Trod_stays hl hr.1.1 hr.1.2 h1 (fun x hx => hs x (by simp [hx])) (fun x hx => hp x (by simp [hx])), Uh hl hr.2 h2 (fun x hx => hs x (by simp [hx])) (fun x hx => hp x (by simp [hx])), rfl⟩
theorem Yd8 {f : Func} {s : ChangeSpec} {apart fresh handsOn again : Bool} {W W' : World} {args : Array Value} {ds gs : List (DataW H)} {before : List MemPlace} {tb : TypeId} (hl : laidOutB P = true)
    (hrd : (f.params.toList.all fun t => P.readableRec t && decide (t < P.types.size)) = true) (hv : s.vars = []) (hrt : f.resultTypes = #[tb]) (htb : P.underlying tb = some .bool)
    (hW : DataW.Whole enc P f.params.toList s.vars apart W args.toList ds gs before) (hb : Below W.heap.size W W')
    (hres : (s.fn H (ds ++ gs)).results = [.lit (.bool true)]) (hargs : (s.fn H (ds ++ gs)).args = ds) (hvars : (s.fn H (ds ++ gs)).vars = []) :
    s.post enc P f apart fresh handsOn again W args (.bool true) W' := by
  have hlt : ∀ p ∈ before, p.block < W.heap.size := fun p hp => hW.lt p hp
  have hW0 := hW
  obtain ⟨p, q, hA, hV, rfl, hz, hn⟩ := hW
  rw [hv] at hV
  have hq : gs = [] ∧ q = [] := by
    cases gs with
    | nil => exact ⟨rfl, hV⟩
    | cons _ _ => exact hV.elim
  obtain ⟨rfl, rfl⟩ := hq
  have hkeep : ∀ sp : Nat → Bool, (∀ x ∈ p ++ [], sp x.block = true) → DataW.TrodAll enc P W' 0 sp true f.params.toList args.toList ds p := fun sp hsp =>
    Uh hl hrd hA (fun x hx => hb.same (hlt x (by simpa using hx))) (fun x hx => hsp x (by simpa using hx))
  have hR : ∀ (b : Nat) (sp : Nat → Bool) (hd : Bool), DataW.TrodAll enc P W' b sp hd f.resultTypes.toList ((Value.bool true).resultList f.resultTypes.size) (s.fn H (ds ++ [])).results [] := by
    intro b sp hd
    rw [hres, hrt]
    exact trodAll_mk1 (shut_bool htb true)
  have hok := ok_one (P := P) (W' := W') (f := f) (v := .bool true) hrt rfl (okWide_bool_mk htb true)
  have hold : ∀ x ∈ p ++ [], (fun b => decide (b < W.heap.size)) x.block = true := fun x hx => by simpa using hlt x hx
  refine ⟨ds, [], p ++ [], [], p, [], hW0, hR _ _ _, by rw [hargs]; exact hkeep _ hold, by rw [hvars, hv]; rfl, World.keptBut_mono (fun x hx => ⟨hx, Or.inr (by simpa using hx)⟩) (hb.frame (· ∈ p ++ [])), fun _ => ?_⟩
  refine ⟨hok, _, _, ([] ++ p) ++ [], ⟨[] ++ p, [], trodAll_append (hkeep _ (fun _ _ => rfl)) (hR _ _ _), (show DataW.TrodVars enc P W' (fun _ => true) s.vars [] [] by rw [hv]; rfl), rfl, ?_, ?_⟩, ?_⟩
  · intro b off hp
    have hin : MemPlace.cell b off ∈ p ++ [] := by simpa using hp
    rw [hb.frozen (hlt _ hin)]
    exact hz b off hin
  · intro ha
    simpa using hn ha
  · intro x hx _
    simpa using hx
end
open Go.ChangeShapes Go.WideShapes Go.ChangeAt Go.RowKit Go.Eng Go.Nw
open Go.ChangeMaps (open_string)
def flwF (f : Flw) : List Value := [.int .i64 f.1, .int .i64 f.2.1, .int .i64 f.2.2.1, .int .i64 f.2.2.2.1, .int .i64 f.2.2.2.2.1, .int .i64 f.2.2.2.2.2]
section
variable {H : Type} {enc : TypeId × Value → H} {W : World} {spare : Nat → Bool} {held : Bool}
theorem Ye9 (s : ByteArray) : ∃ l : List UInt8, s = ⟨l.toArray⟩ := ⟨s.data.toList, by cases s; simp⟩
end
open Go.RowKit Go.Eng Go.Nw
def flwV (f : Flw) : Value := .agg #[.int .i64 f.1, .int .i64 f.2.1, .int .i64 f.2.2.1, .int .i64 f.2.2.2.1, .int .i64 f.2.2.2.2.1, .int .i64 f.2.2.2.2.2]
theorem O7 {l : List Flw} {i : Nat} (h : i < l.length) : l[i]? = some (Zd l i) := by
  unfold Zd; rw [List.getD_eq_getElem?_getD, List.getElem?_eq_getElem h]; rfl
theorem Yc4 (v nodes : Int) (gn : Nat) {B : Nat} {w0 : World} {H : List HP} {w : World} (hm : blk gn (.cells #[.int .i64 nodes] 3 (0, 0)) ∈ H) (hw : St B w0 H w) :
    Calls Tryz.prog 167 [.int .i64 v, .pointer (some ⟨gn, 0, none⟩)].toArray w (Post B w0 fun u K => u = .bool (insE v nodes) ∧ K = H) := by
  refine Yd Tryz.func167 Tryz.ntmps167 rfl rfl hw ?_
  repeat' (first | apply (zs1 ?_) | apply (zs2 ?_) | (apply zg1; first | refine zs3 ?_ | refine zs4 ?_) | (apply zg3; refine zs7 ?_) | (apply zg6; first | refine zs11 ?_ | refine zs12 ?_) | (apply (zs17 ?_ ?_) <;> intro _ <;> try (exfalso; omega)) | (apply (zs20 ?_ ?_) <;> intro _ <;> try (exfalso; omega)) | apply (zs65 ?_) | apply (zs68 ?_) | apply (zs69 ?_) | apply (zs70 ?_) | apply (zs74 ?_) | fail)
  all_goals (
    apply Yc; exact rfl; exact rfl
    first
      | exact ⟨by rw [show insE v nodes = true from decide_eq_true (by omega)], rfl⟩
      | exact ⟨by rw [show insE v nodes = false from decide_eq_false (by omega)], rfl⟩)
set_option maxRecDepth 10000 in
set_option maxHeartbeats 1000000 in
theorem U6 (nodes : Int) (f : Flw) {B : Nat} {w0 : World} {H : List HP} {w : World} (hw : St B w0 H w) :
    Calls Tryz.prog 110 [.int .i64 nodes, flwV f].toArray w (Post B w0 fun v K => v = .int .i64 (XK nodes f) ∧ K = H) := by
  refine Yd Tryz.func110 Tryz.ntmps110 rfl rfl hw ?_
  obtain ⟨e, he⟩ : ∃ e, XK nodes f = e := ⟨_, rfl⟩
  rw [he]
  by_cases hA : f.1 < 0 ∨ 255 < f.1
  · repeat' (first | apply (zs1 ?_) | apply (zs2 ?_) | (apply zg1; first | refine zs3 ?_ | refine zs4 ?_) | (apply zg2; refine zs6 ?_) | (apply zg3; refine zs7 ?_) | (apply zg6; first | refine zs11 ?_ | refine zs12 ?_) | (apply (zs17 ?_ ?_) <;> intro _ <;> try (exfalso; omega)) | (apply (zs19 ?_ ?_) <;> intro _ <;> try (exfalso; omega)) | (apply zg23; first | (refine zs52 ?_; intro _) | (refine zs53 ?_; intro _)) | apply (zs65 ?_) | apply (zs68 ?_) | apply (zs69 ?_) | apply (zs70 ?_) | (apply zg27; refine zs71 ?_) | apply (zs73 ?_) | apply (zs74 ?_) | apply (zs77 ?_) | apply (zs78 ?_) | (apply zg29; (apply Yo; exact za ; exact rfl)) | fail)
    all_goals (
      apply Yj H
      · exact zk
      apply Yc; exact rfl; exact rfl
      refine ⟨?_, rfl⟩
      rw [← he]
      unfold XK
      first
        | (rw [if_pos (by first | exact .inl (by omega) | exact .inr (.inl (by omega)) | exact .inr (.inr (.inl (by assumption))) | exact .inr (.inr (.inr (by assumption))))]; done)
        | (rw [if_neg (by rintro (h | h | h | h) <;> first | omega | simp_all)]
           first
             | (rw [if_pos (by omega)]; done)
             | (rw [if_neg (by omega), if_pos (by omega)]; done)
             | (rw [if_neg (by omega), if_neg (by omega)]; done)))
  · repeat' (first | apply (zs1 ?_) | apply (zs2 ?_) | (apply zg1; refine zs4 ?_) | (apply zg2; refine zs6 ?_) | (apply zg3; refine zs7 ?_) | (apply zg6; refine zs12 ?_) | (apply (zs17 ?_ ?_) <;> intro _ <;> try (exfalso; omega)) | (apply (zs19 ?_ ?_) <;> intro _ <;> try (exfalso; omega)) | (apply zg23; first | (refine zs52 ?_; intro _) | (refine zs53 ?_; intro _)) | apply (zs65 ?_) | apply (zs68 ?_) | apply (zs69 ?_) | apply (zs70 ?_) | apply (zs73 ?_) | (apply zg29; (apply Yo; exact za ; exact rfl)) | fail)
    rename_i gn gf _ _
    repeat' (first | ((first | apply ZE (cs := [.pointer (some ⟨gn, 0, none⟩)]) | apply ZH (cs := [.pointer (some ⟨gn, 0, none⟩)])); exact rfl; exact YhH; exact za; exact rfl; exact fun _ hw => (Yc4 _ nodes gn zm hw); all_goals (intro hB; (try simp only [decide_eq_true_eq, decide_eq_false_iff_not] at hB); try (exfalso; omega))) | apply (zs1 ?_) | apply (zs2 ?_) | (apply zg1; first | refine zs3 ?_ | refine zs4 ?_) | (apply zg2; refine zs6 ?_) | (apply zg3; refine zs7 ?_) | (apply zg6; first | refine zs11 ?_ | refine zs12 ?_) | (apply zg7; (refine zs15 ?_ ?_ <;> intro _ <;> try (exfalso; omega))) | (apply (zs17 ?_ ?_) <;> intro _ <;> try (exfalso; omega)) | (apply (zs19 ?_ ?_) <;> intro _ <;> try (exfalso; omega)) | (apply (zs20 ?_ ?_) <;> intro _ <;> try (exfalso; omega)) | (apply zg20; first | refine zs47 ?_ | refine zs48 ?_) | apply (zs65 ?_) | apply (zs68 ?_) | apply (zs69 ?_) | apply (zs70 ?_) | (apply zg27; first | refine zs71 ?_ | refine zs72 ?_) | apply (zs74 ?_) | apply (zs76 ?_) | apply (zs77 ?_) | apply (zs78 ?_) | apply (zs79 ?_) | fail)
    all_goals (
      apply Yj H
      · exact zk
      apply Yc; exact rfl; exact rfl
      refine ⟨?_, rfl⟩
      rw [← he]
      unfold XK
      first
        | (rw [if_pos (by first | exact .inl (by omega) | exact .inr (.inl (by omega)) | exact .inr (.inr (.inl (by assumption))) | exact .inr (.inr (.inr (by assumption))))]; done)
        | (rw [if_neg (by rintro (h | h | h | h) <;> first | omega | simp_all)]
           first
             | (rw [if_pos (by omega)]; done)
             | (rw [if_neg (by omega), if_pos (by omega)]; done)
             | (rw [if_neg (by omega), if_neg (by omega)]; done)))
set_option maxRecDepth 10000 in
set_option maxHeartbeats 1000000 in
theorem YL (nodes : Int) (l : List Flw) (hl : l.length ≤ 9223372036854775807) {A : Option Addr} {cap B : Nat} {w0 : World} {H : List HP} {w : World} (hr : Rd B w0 H A (l.flatMap flwF)) (hw : St B w0 H w) :
    Calls Tryz.prog 51 [.int .i64 nodes, .slice A l.length cap].toArray w (Post B w0 fun v K => v = .tuple #[.int .i64 (YR nodes l).1, .int .i64 (YR nodes l).2] ∧ K = H) := by
  refine Yd Tryz.func51 Tryz.ntmps51 rfl rfl hw ?_
  by_cases hn : nodes < 2 ∨ 32 < nodes
  · have hE : YR nodes l = (-1, 2) := by unfold YR; exact if_pos hn
    rw [hE]
    repeat' (first | apply (zs1 ?_) | apply (zs2 ?_) | (apply zg1; first | refine zs3 ?_ | refine zs4 ?_) | (apply zg6; first | refine zs11 ?_ | refine zs12 ?_) | (apply (zs17 ?_ ?_) <;> intro _ <;> try (exfalso; omega)) | (apply (zs19 ?_ ?_) <;> intro _ <;> try (exfalso; omega)) | apply (zs65 ?_) | apply (zs68 ?_) | apply (zs69 ?_) | apply (zs70 ?_) | (apply zg27; refine zs71 ?_) | apply (zs74 ?_) | apply (zs77 ?_) | fail)
    all_goals (apply Yt; exact rfl; exact rfl; exact rfl; exact ⟨rfl, rfl⟩)
  by_cases h16 : 16 < l.length
  · have hE : YR nodes l = (-1, 8) := by unfold YR; exact (if_neg hn).trans (if_pos h16)
    rw [hE]
    repeat' (first | apply (zs1 ?_) | apply (zs2 ?_) | (apply zg1; refine zs4 ?_) | (apply zg4; refine zs9 ?_) | (apply zg6; refine zs12 ?_) | (apply (zs17 ?_ ?_) <;> intro _ <;> try (exfalso; omega)) | (apply (zs19 ?_ ?_) <;> intro _ <;> try (exfalso; omega)) | apply (zs65 ?_) | apply (zs68 ?_) | apply (zs69 ?_) | apply (zs70 ?_) | (apply zg27; first | refine zs71 ?_ | refine zs72 ?_) | apply (zs74 ?_) | apply (zs76 ?_) | apply (zs77 ?_) | fail)
    apply Yt; exact rfl; exact rfl; exact rfl; exact ⟨rfl, rfl⟩
  have hE : YR nodes l = Yz (YO nodes l) l.length 0 := by unfold YR; exact (if_neg hn).trans (if_neg h16)
  rw [hE]
  repeat' (first | apply (zs1 ?_) | apply (zs2 ?_) | (apply zg1; refine zs4 ?_) | (apply zg4; refine zs9 ?_) | (apply zg6; refine zs12 ?_) | (apply (zs17 ?_ ?_) <;> intro _ <;> try (exfalso; omega)) | (apply (zs19 ?_ ?_) <;> intro _ <;> try (exfalso; omega)) | apply (zs65 ?_) | apply (zs68 ?_) | apply (zs69 ?_) | apply (zs70 ?_) | (apply zg27; refine zs72 ?_) | apply (zs73 ?_) | apply (zs76 ?_) | fail)
  refine Yk (fun (i : Nat) => [(20, .int .i64 i), (19, .int .i64 l.length), (18, .slice A l.length cap), (0, .int .i64 nodes), (1, .slice A l.length cap)]) (fun _ => H) (fun i => i ≤ l.length ∧ ∀ k, k < i → YO nodes l k = 0) (fun i => l.length - i) 0 ⟨Nat.zero_le _, fun k hk => absurd hk (Nat.not_lt_zero _)⟩ ?_ (fun w hw => hw) ?_
  · exact zu
  rintro i ⟨hi, hall⟩ K hK
  by_cases hlt : i < l.length
  · have hget : l[i]? = some (Zd l i) := O7 hlt
    have hbad : YO nodes l i ≠ 0 → Yz (YO nodes l) l.length 0 = ((i : Int), YO nodes l i) := fun h => Xa (fun k _ hk => hall k hk) (Nat.zero_le _) (by omega) h
    have hstep : YO nodes l i = 0 → ∀ k, k < i + 1 → YO nodes l k = 0 := fun h k hk => by
      by_cases e : k = i
      · rw [e]; exact h
      · exact hall k (by omega)
    by_cases he : XK nodes (Zd l i) ≠ 0
    · have hf : YO nodes l i = XK nodes (Zd l i) := by unfold YO; exact if_pos he
      rw [hbad (by rw [hf]; exact he), hf]
      repeat' (first | ((first | apply Ya WB | apply Yb WB); exact za; exact rfl; exact fun _ hw => (U6 nodes (Zd l i) hw)) | apply (zs1 ?_) | apply (zs2 ?_) | (apply zg3; first | refine zs8 ?_ | refine zs61 ?_) | (apply zg5; refine zs57 ?_) | (apply zg8; (refine zs16 ?_ ?_ <;> intro _ <;> try (exfalso; omega))) | (apply (zs17 ?_ ?_) <;> intro _ <;> try (exfalso; omega)) | (apply zg22; refine zs51 ?_) | (apply zg24; (refine zs54 ?_; intro _)) | apply (zs65 ?_) | apply (zs68 ?_) | apply (zs69 ?_) | apply (zs70 ?_) | (apply zg27; refine zs71 ?_) | apply (zs73 ?_) | apply (zs74 ?_) | apply (zs76 ?_) | apply (zs77 ?_) | apply (zs78 ?_) | fail)
      apply Yj H
      · exact zk
      apply Yt; exact rfl; exact rfl; exact rfl; exact ⟨rfl, rfl⟩
    have he0 := Decidable.not_not.1 he
    have hck := fun {H' : List HP} {w : World} (hw : St B w0 H' w) => U6 nodes (Zd l i) hw
    rw [he0] at hck
    rcases Nat.eq_zero_or_pos i with h0 | h0
    · subst h0
      have hf : YO nodes l 0 = 0 := by unfold YO; rw [if_neg he, if_neg (by omega)]
      repeat' (first | ((first | apply Ya WB | apply Yb WB); exact za; exact rfl; exact fun _ hw => (hck hw)) | apply (zs1 ?_) | apply (zs2 ?_) | (apply zg1; refine zs3 ?_) | (apply zg3; first | refine zs8 ?_ | refine zs61 ?_) | (apply zg5; refine zs57 ?_) | (apply zg6; refine zs12 ?_) | (apply zg8; (refine zs16 ?_ ?_ <;> intro _ <;> try (exfalso; omega))) | (apply (zs17 ?_ ?_) <;> intro _ <;> try (exfalso; omega)) | (apply (zs19 ?_ ?_) <;> intro _ <;> try (exfalso; omega)) | (apply zg13; refine zs30 ?_) | (apply zg22; refine zs51 ?_) | (apply zg24; (refine zs54 ?_; intro _)) | apply (zs65 ?_) | apply (zs66 ?_) | apply (zs68 ?_) | apply (zs69 ?_) | apply (zs70 ?_) | (apply zg27; first | refine zs71 ?_ | refine zs72 ?_) | apply (zs73 ?_) | apply (zs76 ?_) | apply (zs79 ?_) | (apply zg28; refine zs83 ?_) | fail)
      apply hK (0 + 1)
      · exact ⟨by omega, hstep hf⟩
      · omega
      · exact zu
      · exact zk
    have hget2 : l[((i : Int) - 1).toNat]? = some (Zd l (i - 1)) := by
      rw [show ((i : Int) - 1).toNat = i - 1 by omega]
      exact O7 (by omega)
    by_cases hle : (Zd l i).1 ≤ (Zd l (i - 1)).1
    · have hf : YO nodes l i = 5 := by unfold YO; rw [if_neg he, if_pos ⟨h0, hle⟩]
      rw [hbad (by rw [hf]; decide), hf]
      repeat' (first | ((first | apply Ya WB | apply Yb WB); exact za; exact rfl; exact fun _ hw => (hck hw)) | apply (zs1 ?_) | apply (zs2 ?_) | (apply zg1; refine zs4 ?_) | (apply zg2; first | refine zs6 ?_ | refine zs58 ?_) | (apply zg3; first | refine zs7 ?_ | refine zs8 ?_ | refine zs59 ?_ | refine zs61 ?_) | (apply zg5; refine zs57 ?_) | (apply zg6; refine zs11 ?_) | (apply zg8; (refine zs16 ?_ ?_ <;> intro _ <;> try (exfalso; omega))) | (apply (zs17 ?_ ?_) <;> intro _ <;> try (exfalso; omega)) | (apply (zs18 ?_ ?_) <;> intro _ <;> try (exfalso; omega)) | (apply (zs19 ?_ ?_) <;> intro _ <;> try (exfalso; omega)) | (apply zg14; refine zs31 ?_) | (apply zg22; refine zs51 ?_) | (apply zg24; (refine zs54 ?_; intro _)) | apply (zs65 ?_) | apply (zs66 ?_) | apply (zs68 ?_) | apply (zs69 ?_) | apply (zs70 ?_) | (apply zg27; first | refine zs71 ?_ | refine zs72 ?_) | apply (zs73 ?_) | apply (zs74 ?_) | apply (zs76 ?_) | apply (zs77 ?_) | apply (zs78 ?_) | (apply zg28; refine zs83 ?_) | fail)
      apply Yj H
      · exact zk
      apply Yt; exact rfl; exact rfl; exact rfl; exact ⟨rfl, rfl⟩
    · have hf : YO nodes l i = 0 := by unfold YO; rw [if_neg he, if_neg (fun h => hle h.2)]
      repeat' (first | ((first | apply Ya WB | apply Yb WB); exact za; exact rfl; exact fun _ hw => (hck hw)) | apply (zs1 ?_) | apply (zs2 ?_) | (apply zg1; refine zs4 ?_) | (apply zg2; first | refine zs6 ?_ | refine zs58 ?_) | (apply zg3; first | refine zs7 ?_ | refine zs8 ?_ | refine zs59 ?_ | refine zs61 ?_) | (apply zg5; refine zs57 ?_) | (apply zg6; refine zs11 ?_) | (apply zg8; (refine zs16 ?_ ?_ <;> intro _ <;> try (exfalso; omega))) | (apply (zs17 ?_ ?_) <;> intro _ <;> try (exfalso; omega)) | (apply (zs18 ?_ ?_) <;> intro _ <;> try (exfalso; omega)) | (apply (zs19 ?_ ?_) <;> intro _ <;> try (exfalso; omega)) | (apply zg13; refine zs30 ?_) | (apply zg14; refine zs31 ?_) | (apply zg22; refine zs51 ?_) | (apply zg24; (refine zs54 ?_; intro _)) | apply (zs65 ?_) | apply (zs66 ?_) | apply (zs68 ?_) | apply (zs69 ?_) | apply (zs70 ?_) | (apply zg27; first | refine zs71 ?_ | refine zs72 ?_) | apply (zs73 ?_) | apply (zs76 ?_) | apply (zs79 ?_) | (apply zg28; refine zs83 ?_) | fail)
      apply hK (i + 1)
      · exact ⟨by omega, hstep hf⟩
      · omega
      · exact zu
      · exact zk
  · repeat' (first | apply (zs2 ?_) | (apply (zs17 ?_ ?_) <;> intro _ <;> try (exfalso; omega)) | apply (zs65 ?_) | apply (zs68 ?_) | apply (zs69 ?_) | apply (zs70 ?_) | (apply zg27; refine zs72 ?_) | apply (zs74 ?_) | apply (zs75 ?_) | apply (zs80 ?_) | apply (zs81 ?_) | fail)
    rw [show i = l.length by omega] at hall
    rw [Xo fun k _ hk => hall k (by omega)]
    apply Yt; exact rfl; exact rfl; exact rfl; exact ⟨rfl, rfl⟩
theorem O3 (p : Flw → Bool) (l : List Flw) (f : Nat) (cs : List Value) (hen : ∀ xs w, (callFunc f xs).run Tryz.prog w = .ok (.enter f xs) w) (hlen : l.length ≤ 1000) {A : Option Addr} {cap B : Nat} {w0 : World} {H : List HP} {w : World} (hr : Rd B w0 H A (l.flatMap flwF))
    (hp : ∀ a ∈ l, ∀ w, St B w0 H w → Calls Tryz.prog f ([flwV a] ++ cs).toArray w (Post B w0 fun v K => v = .bool (p a) ∧ K = H)) (hw : St B w0 H w) :
    Calls Tryz.prog 111 [.slice A l.length cap, .func (.func f) #[] cs.toArray].toArray w (Post B w0 fun v K => v = .int .i64 (Yq p l 0) ∧ K = H) := by
  refine Yd Tryz.func111 Tryz.ntmps111 rfl rfl hw ?_
  repeat' (first | apply (zs1 ?_) | apply (zs2 ?_) | (apply zg4; refine zs9 ?_) | apply (zs65 ?_) | apply (zs68 ?_) | apply (zs69 ?_) | apply (zs70 ?_) | apply (zs73 ?_) | fail)
  refine Yk (fun (k : Nat) => [(8, .int .i64 k), (7, .int .i64 l.length), (0, .slice A l.length cap), (1, .func (.func f) #[] cs.toArray)]) (fun _ => H) (fun k => k ≤ l.length ∧ Yq p l 0 = Yq p (l.drop k) k) (fun k => l.length - k) 0 ⟨Nat.zero_le _, by simp⟩ ?_ (fun w hw => hw) ?_
  · exact zu
  rintro k ⟨hk, hi⟩ K hK
  by_cases hlt : k < l.length
  · obtain ⟨a, ha⟩ : ∃ a, l[k]? = some a := ⟨_, List.getElem?_eq_getElem hlt⟩
    have hpa := hp a (List.mem_of_getElem? ha)
    rw [Ja p l ha] at hi
    repeat' (first | ((first | apply YE (cs := cs)); exact rfl; exact hen; exact za; exact rfl; exact fun _ hw => hpa _ hw) | apply (zs1 ?_) | apply (zs2 ?_) | (apply zg3; refine zs61 ?_) | (apply zg5; refine zs57 ?_) | (apply (zs17 ?_ ?_) <;> intro _ <;> try (exfalso; omega)) | apply (zs65 ?_) | apply (zs68 ?_) | apply (zs69 ?_) | apply (zs70 ?_) | (apply zg27; refine zs71 ?_) | apply (zs73 ?_) | apply (zs76 ?_) | fail)
    cases hpv : p a
    · rw [hpv] at hi
      repeat' (first | apply (zs1 ?_) | (apply zg13; refine zs30 ?_) | apply (zs65 ?_) | apply (zs68 ?_) | apply (zs70 ?_) | (apply zg27; refine zs72 ?_) | apply (zs76 ?_) | apply (zs79 ?_) | fail)
      apply hK (k + 1)
      · exact ⟨by omega, hi⟩
      · omega
      · exact zu
      · exact fun w hw => hw
    · rw [hpv] at hi
      repeat' (first | apply (zs1 ?_) | apply (zs2 ?_) | apply (zs65 ?_) | apply (zs68 ?_) | apply (zs69 ?_) | apply (zs70 ?_) | (apply zg27; refine zs71 ?_) | apply (zs74 ?_) | apply (zs77 ?_) | apply (zs78 ?_) | fail)
      apply Yc; exact rfl; exact rfl
      exact ⟨by rw [hi]; rfl, rfl⟩
  · repeat' (first | apply (zs2 ?_) | (apply (zs17 ?_ ?_) <;> intro _ <;> try (exfalso; omega)) | apply (zs65 ?_) | apply (zs68 ?_) | apply (zs69 ?_) | apply (zs70 ?_) | (apply zg27; refine zs72 ?_) | apply (zs74 ?_) | apply (zs75 ?_) | apply (zs80 ?_) | apply (zs81 ?_) | fail)
    apply Yc; exact rfl; exact rfl
    rw [hi, List.drop_eq_nil_of_le (by omega)]
    exact ⟨rfl, rfl⟩
theorem YcK (f : Flw) (id : Int) (gi : Nat) {B : Nat} {w0 : World} {H : List HP} {w : World} (hm : blk gi (.cells #[.int .i64 id] 3 (0, 0)) ∈ H) (hw : St B w0 H w) :
    Calls Tryz.prog 170 [flwV f, .pointer (some ⟨gi, 0, none⟩)].toArray w (Post B w0 fun v K => v = .bool (decide (f.1 = id)) ∧ K = H) := by
  refine Yd Tryz.func170 Tryz.ntmps170 rfl rfl hw ?_
  by_cases h : f.1 = id
  · rw [decide_eq_true h]
    repeat' (first | apply (zs2 ?_) | (apply zg2; refine zs6 ?_) | (apply zg3; refine zs7 ?_) | (apply zg7; (refine zs15 ?_ ?_ <;> intro _ <;> try (exfalso; omega))) | (apply zg23; (refine zs52 ?_; intro _)) | apply (zs65 ?_) | apply (zs68 ?_) | apply (zs69 ?_) | apply (zs70 ?_) | apply (zs74 ?_) | fail)
    all_goals (apply Yn; apply Yc; exact rfl; exact rfl; exact ⟨rfl, rfl⟩)
  · rw [decide_eq_false h]
    repeat' (first | apply (zs2 ?_) | (apply zg2; refine zs6 ?_) | (apply zg3; refine zs7 ?_) | (apply zg7; (refine zs15 ?_ ?_ <;> intro _ <;> try (exfalso; omega))) | (apply zg23; (refine zs52 ?_; intro _)) | apply (zs65 ?_) | apply (zs68 ?_) | apply (zs69 ?_) | apply (zs70 ?_) | apply (zs74 ?_) | fail)
    all_goals (apply Yn; apply Yc; exact rfl; exact rfl; exact ⟨rfl, rfl⟩)
theorem YcQ (l : List Flw) (id : Int) (hlen : l.length ≤ 1000) {A : Option Addr} {cap B : Nat} {w0 : World} {H : List HP} {w : World} (hr : Rd B w0 H A (l.flatMap flwF)) (hw : St B w0 H w) :
    Calls Tryz.prog 114 [.slice A l.length cap, .int .i64 id].toArray w (Post B w0 fun v K => v = .int .i64 (Jg l id) ∧ K = H) := by
  refine Yd Tryz.func114 Tryz.ntmps114 rfl rfl hw ?_
  repeat' (first | apply (zs1 ?_) | apply (zs2 ?_) | (apply zg23; (refine zs53 ?_; intro _)) | apply (zs65 ?_) | apply (zs68 ?_) | apply (zs69 ?_) | apply (zs70 ?_) | (apply zg29; (apply Yo; exact za ; exact rfl)) | fail)
  rename_i gi
  first | apply Ya Yc7 | apply Yb Yc7
  exact za
  exact rfl
  exact fun _ hw => (O3 (fun f => decide (f.1 = id)) l 170 [.pointer (some ⟨gi, 0, none⟩)] YhR hlen hr.cons (fun f _ w hw => YcK f id gi zm hw) hw)
  repeat' (first | apply (zs2 ?_) | apply (zs65 ?_) | apply (zs68 ?_) | apply (zs74 ?_) | fail)
  apply Yj H
  · exact zk
  apply Yc; exact rfl; exact rfl
  exact ⟨rfl, rfl⟩
theorem Ya1 (s : SchM) (f : Flw) (gs : Nat) (hs : 1 ≤ s.len ∧ s.len ≤ 512) (hf : 1 ≤ f.2.2.2.1 ∧ f.2.2.2.1 ≤ 512) {B : Nat} {w0 : World} {H : List HP} {w : World} (hm : blk gs (.cells #[.int .i64 s.len, .int .i64 s.off, .slice s.A s.cells.length s.cap] 30 (0, 0)) ∈ H) (hw : St B w0 H w) :
    Calls Tryz.prog 54 [flwV f, .pointer (some ⟨gs, 0, none⟩)].toArray w (Post B w0 fun v K => v = .bool (decide (s.len.tmod f.2.2.2.1 ≠ 0)) ∧ K = H) := by
  refine Yd Tryz.func54 Tryz.ntmps54 rfl rfl hw ?_
  by_cases h : s.len.tmod f.2.2.2.1 ≠ 0
  · rw [decide_eq_true h]
    rw [Int.tmod_eq_emod_of_nonneg (by omega)] at h
    repeat' (first | apply (zs2 ?_) | (apply zg2; refine zs6 ?_) | (apply zg3; refine zs7 ?_) | (apply zg8; (refine zs16 ?_ ?_ <;> intro _ <;> try (exfalso; omega))) | (apply zg17; refine zs37 ?_) | (apply zg23; (refine zs52 ?_; intro _)) | apply (zs65 ?_) | apply (zs68 ?_) | apply (zs69 ?_) | apply (zs70 ?_) | apply (zs74 ?_) | fail)
    all_goals (apply Yn; apply Yc; exact rfl; exact rfl; exact ⟨rfl, rfl⟩)
  · rw [decide_eq_false h]
    rw [Int.tmod_eq_emod_of_nonneg (by omega)] at h
    repeat' (first | apply (zs2 ?_) | (apply zg2; refine zs6 ?_) | (apply zg3; refine zs7 ?_) | (apply zg8; (refine zs16 ?_ ?_ <;> intro _ <;> try (exfalso; omega))) | (apply zg17; refine zs37 ?_) | (apply zg23; (refine zs52 ?_; intro _)) | apply (zs65 ?_) | apply (zs68 ?_) | apply (zs69 ?_) | apply (zs70 ?_) | apply (zs74 ?_) | fail)
    all_goals (apply Yn; apply Yc; exact rfl; exact rfl; exact ⟨rfl, rfl⟩)
theorem Ycg {α : Type} (p : α → Bool) (l : List α) : decide (0 ≤ Yq p l 0) = l.any p := by
  have h := Jo p l 0 (by omega)
  by_cases h0 : 0 ≤ Yq p l 0
  · rw [decide_eq_true h0, h.1 h0]
  · rw [decide_eq_false h0]
    cases h1 : l.any p with
    | false => rfl
    | true => exact absurd (h.2 h1) h0
theorem OX (p : Flw → Bool) (l : List Flw) (f : Nat) (cs : List Value) (hen : ∀ xs w, (callFunc f xs).run Tryz.prog w = .ok (.enter f xs) w) (hlen : l.length ≤ 1000) {A : Option Addr} {cap B : Nat} {w0 : World} {H : List HP} {w : World} (hr : Rd B w0 H A (l.flatMap flwF))
    (hp : ∀ a ∈ l, ∀ w, St B w0 H w → Calls Tryz.prog f ([flwV a] ++ cs).toArray w (Post B w0 fun v K => v = .bool (p a) ∧ K = H)) (hw : St B w0 H w) :
    Calls Tryz.prog 53 [.slice A l.length cap, .func (.func f) #[] cs.toArray].toArray w (Post B w0 fun v K => v = .bool (l.any p) ∧ K = H) := by
  refine Yd Tryz.func53 Tryz.ntmps53 rfl rfl hw ?_
  rw [← Ycg]
  repeat' (first | apply (zs1 ?_) | apply (zs2 ?_) | apply (zs65 ?_) | apply (zs68 ?_) | apply (zs69 ?_) | apply (zs70 ?_) | fail)
  first | apply Ya Yc7 | apply Yb Yc7
  exact za
  exact rfl
  exact fun _ hw => (O3 p l f cs hen hlen hr hp hw)
  by_cases h0 : 0 ≤ Yq p l 0
  · rw [decide_eq_true h0]
    repeat' (first | apply (zs2 ?_) | (apply (zs20 ?_ ?_) <;> intro _ <;> try (exfalso; omega)) | apply (zs65 ?_) | apply (zs68 ?_) | apply (zs74 ?_) | fail)
    apply Yc; exact rfl; exact rfl
    exact ⟨rfl, rfl⟩
  · rw [decide_eq_false h0]
    repeat' (first | apply (zs2 ?_) | (apply (zs20 ?_ ?_) <;> intro _ <;> try (exfalso; omega)) | apply (zs65 ?_) | apply (zs68 ?_) | apply (zs74 ?_) | fail)
    apply Yc; exact rfl; exact rfl
    exact ⟨rfl, rfl⟩
open Go.RowKit Go.Eng Go.Nw Go.Rt
theorem QZ (n : NetM) (s t : Int) {B : Nat} {w0 : World} {H : List HP} {w : World} (hin : n.In B w0 H) (hw : St B w0 H w) :
    Calls Tryz.prog 205 [n.val, .int .i64 s, .int .i64 t].toArray w (Post B w0 fun v K => v = .int .i64 (Wa n.net s t) ∧ K = H) := by
  refine Yd Tryz.func205 Tryz.ntmps205 rfl rfl hw ?_
  have e7 : n.net.nodes = n.nodes := rfl
  unfold Wa offE
  rw [e7]
  by_cases h0 : Yy n.net = 0
  rotate_left
  · rw [if_pos h0]
    repeat' (first | ((first | apply Ya en50 | apply Yb en50); exact za; exact rfl; exact fun _ hw => (YH n hin.cons hw)) | apply (zs2 ?_) | (apply zg3; refine zs8 ?_) | (apply zg8; (refine zs16 ?_ ?_ <;> intro _ <;> try (exfalso; omega))) | (apply zg23; (refine zs52 ?_; intro _)) | apply (zs65 ?_) | apply (zs68 ?_) | apply (zs69 ?_) | apply (zs70 ?_) | (apply zg27; refine zs71 ?_) | apply (zs74 ?_) | apply (zs77 ?_) | fail)
    all_goals ((repeat apply Yn); apply Yc; exact rfl; exact rfl; exact ⟨rfl, rfl⟩)
  rw [if_neg (fun h => h h0)]
  have hck := fun {H : List HP} {w : World} (hin : n.In B w0 H) (hw : St B w0 H w) => YH n hin hw
  rw [h0] at hck
  simp only [decide_eq_true_eq]
  by_cases h1 : (s < 0 ∨ n.nodes ≤ s) ∨ (t < 0 ∨ n.nodes ≤ t) ∨ s = t
  · rw [if_pos h1]
    repeat' (first | ((first | apply Ya en50 | apply Yb en50); exact za; exact rfl; exact fun _ hw => (hck hin.cons hw)) | apply (zs1 ?_) | apply (zs2 ?_) | (apply zg1; first | refine zs3 ?_ | refine zs4 ?_) | (apply zg2; refine zs6 ?_) | (apply zg3; first | refine zs7 ?_ | refine zs8 ?_) | (apply zg6; first | refine zs11 ?_ | refine zs12 ?_) | (apply zg7; (refine zs15 ?_ ?_ <;> intro _ <;> try (exfalso; omega))) | (apply zg8; (refine zs16 ?_ ?_ <;> intro _ <;> try (exfalso; omega))) | (apply (zs17 ?_ ?_) <;> intro _ <;> try (exfalso; omega)) | (apply (zs20 ?_ ?_) <;> intro _ <;> try (exfalso; omega)) | (apply (zs25 ?_ ?_) <;> intro _ <;> try (exfalso; omega)) | (apply zg23; (refine zs52 ?_; intro _)) | (apply (zs62 ?_ ?_) <;> intro _ <;> try (exfalso; omega)) | apply (zs65 ?_) | apply (zs68 ?_) | apply (zs69 ?_) | apply (zs70 ?_) | (apply zg27; first | refine zs71 ?_ | refine zs72 ?_) | apply (zs74 ?_) | apply (zs76 ?_) | apply (zs77 ?_) | fail)
    all_goals ((repeat apply Yn); apply Yc; exact rfl; exact rfl; exact ⟨rfl, rfl⟩)
  · rw [if_neg h1]
    repeat' (first | ((first | apply Ya en50 | apply Yb en50); exact za; exact rfl; exact fun _ hw => (hck hin.cons hw)) | apply (zs1 ?_) | apply (zs2 ?_) | (apply zg1; refine zs4 ?_) | (apply zg2; refine zs6 ?_) | (apply zg3; first | refine zs7 ?_ | refine zs8 ?_) | (apply zg6; refine zs12 ?_) | (apply zg7; (refine zs15 ?_ ?_ <;> intro _ <;> try (exfalso; omega))) | (apply zg8; (refine zs16 ?_ ?_ <;> intro _ <;> try (exfalso; omega))) | (apply (zs17 ?_ ?_) <;> intro _ <;> try (exfalso; omega)) | (apply (zs20 ?_ ?_) <;> intro _ <;> try (exfalso; omega)) | (apply (zs25 ?_ ?_) <;> intro _ <;> try (exfalso; omega)) | (apply zg23; (refine zs52 ?_; intro _)) | (apply (zs62 ?_ ?_) <;> intro _ <;> try (exfalso; omega)) | apply (zs65 ?_) | apply (zs68 ?_) | apply (zs69 ?_) | apply (zs70 ?_) | (apply zg27; refine zs72 ?_) | apply (zs74 ?_) | apply (zs76 ?_) | fail)
    all_goals ((repeat apply Yn); apply Yc; exact rfl; exact rfl; exact ⟨rfl, rfl⟩)
theorem YbQ (n : NetM) (a : Int) (g : Nat) {B : Nat} {w0 : World} {H : List HP} {w : World} (hm : netB g n ∈ H) (hw : St B w0 H w) :
    Calls Tryz.prog 245 [.int .i64 a, .pointer (some ⟨g, 0, none⟩)].toArray w (Post B w0 fun v K => v = .bool (offE n.net a) ∧ K = H) := by
  refine Yd Tryz.func245 Tryz.ntmps245 rfl rfl hw ?_
  have e7 : n.net.nodes = n.nodes := rfl
  unfold offE
  rw [e7]
  by_cases h : a < 0 ∨ n.nodes ≤ a
  · rw [decide_eq_true h]
    repeat' (first | apply (zs1 ?_) | apply (zs2 ?_) | (apply zg1; first | refine zs3 ?_ | refine zs4 ?_) | (apply zg2; refine zs6 ?_) | (apply zg3; refine zs7 ?_) | (apply zg6; first | refine zs11 ?_ | refine zs12 ?_) | (apply (zs17 ?_ ?_) <;> intro _ <;> try (exfalso; omega)) | (apply (zs20 ?_ ?_) <;> intro _ <;> try (exfalso; omega)) | apply (zs65 ?_) | apply (zs68 ?_) | apply (zs69 ?_) | apply (zs70 ?_) | apply (zs74 ?_) | fail)
    all_goals (apply Yc; exact rfl; exact rfl; exact ⟨rfl, rfl⟩)
  · rw [decide_eq_false h]
    repeat' (first | apply (zs1 ?_) | apply (zs2 ?_) | (apply zg1; refine zs4 ?_) | (apply zg2; refine zs6 ?_) | (apply zg3; refine zs7 ?_) | (apply zg6; refine zs12 ?_) | (apply (zs17 ?_ ?_) <;> intro _ <;> try (exfalso; omega)) | (apply (zs20 ?_ ?_) <;> intro _ <;> try (exfalso; omega)) | apply (zs65 ?_) | apply (zs68 ?_) | apply (zs69 ?_) | apply (zs70 ?_) | apply (zs74 ?_) | fail)
    all_goals (apply Yc; exact rfl; exact rfl; exact ⟨rfl, rfl⟩)
open Go.RowKit Go.Eng Go.Nw
theorem YbI (l : List Int) (v : Int) (hlen : l.length ≤ 9223372036854775807) {A : Option Addr} {cap B : Nat} {w0 : World} {H : List HP} {w : World} (hr : Rd B w0 H A (l.flatMap numF)) (hw : St B w0 H w) :
    Calls Tryz.prog 45 [.slice A l.length cap, .int .i64 v].toArray w (Post B w0 fun u K => u = .int .i64 (Yq (fun x => decide (v = x)) l 0) ∧ K = H) := by
  refine Yd Tryz.func45 Tryz.ntmps45 rfl rfl hw ?_
  repeat' (first | apply (zs1 ?_) | apply (zs2 ?_) | (apply zg4; refine zs9 ?_) | apply (zs65 ?_) | apply (zs68 ?_) | apply (zs69 ?_) | apply (zs70 ?_) | apply (zs73 ?_) | fail)
  refine Yk (fun (k : Nat) => [(8, .int .i64 k), (7, .int .i64 l.length), (0, .slice A l.length cap), (1, .int .i64 v)]) (fun _ => H) (fun k => k ≤ l.length ∧ Yq (fun x => decide (v = x)) l 0 = Yq (fun x => decide (v = x)) (l.drop k) k) (fun k => l.length - k) 0 ⟨Nat.zero_le _, by simp⟩ ?_ (fun w hw => hw) ?_
  · exact zu
  rintro k ⟨hk, hi⟩ K hK
  by_cases hlt : k < l.length
  · obtain ⟨a, ha⟩ : ∃ a, l[k]? = some a := ⟨_, List.getElem?_eq_getElem hlt⟩
    rw [Ja _ l ha] at hi
    repeat' (first | apply (zs1 ?_) | apply (zs2 ?_) | (apply zg3; refine zs60 ?_) | (apply zg5; refine zs57 ?_) | (apply zg7; (refine zs15 ?_ ?_ <;> intro _ <;> try (exfalso; omega))) | (apply (zs17 ?_ ?_) <;> intro _ <;> try (exfalso; omega)) | (apply zg13; refine zs30 ?_) | apply (zs65 ?_) | apply (zs68 ?_) | apply (zs69 ?_) | apply (zs70 ?_) | (apply zg27; first | refine zs71 ?_ | refine zs72 ?_) | apply (zs73 ?_) | apply (zs74 ?_) | apply (zs76 ?_) | apply (zs77 ?_) | apply (zs78 ?_) | apply (zs79 ?_) | fail)
    · rename_i h
      rw [if_pos (decide_eq_true h)] at hi
      ((repeat apply Yn); apply Yc; exact rfl; exact rfl; refine ⟨congrArg _ ?_, rfl⟩)
      rw [hi]
    · rename_i h
      rw [if_neg (by simp [h])] at hi
      repeat' (first | fail)
      apply hK (k + 1)
      · exact ⟨by omega, hi⟩
      · omega
      · exact zu
      · exact fun w hw => hw
  · repeat' (first | apply (zs2 ?_) | (apply (zs17 ?_ ?_) <;> intro _ <;> try (exfalso; omega)) | apply (zs65 ?_) | apply (zs68 ?_) | apply (zs69 ?_) | apply (zs70 ?_) | (apply zg27; refine zs72 ?_) | apply (zs74 ?_) | apply (zs75 ?_) | apply (zs80 ?_) | apply (zs81 ?_) | fail)
    ((repeat apply Yn); apply Yc; exact rfl; exact rfl; refine ⟨congrArg _ ?_, rfl⟩)
    rw [hi, List.drop_eq_nil_of_le (by omega)]; rfl
theorem OP (l : List Int) (v : Int) (hlen : l.length ≤ 9223372036854775807) {A : Option Addr} {cap B : Nat} {w0 : World} {H : List HP} {w : World} (hr : Rd B w0 H A (l.flatMap numF)) (hw : St B w0 H w) :
    Calls Tryz.prog 246 [.slice A l.length cap, .int .i64 v].toArray w (Post B w0 fun u K => u = .bool (decide (v ∈ l)) ∧ K = H) := by
  refine Yd Tryz.func246 Tryz.ntmps246 rfl rfl hw ?_
  have hia := Jo (fun x => decide (v = x)) l 0 (by omega)
  have hmm : l.any (fun x => decide (v = x)) = true ↔ v ∈ l := by simp [List.any_eq_true]
  repeat' (first | ((first | apply Ya en45 | apply Yb en45); exact za; exact rfl; exact fun _ hw => (YbI l v hlen hr hw)) | apply (zs1 ?_) | apply (zs2 ?_) | (apply (zs20 ?_ ?_) <;> intro _ <;> try (exfalso; omega)) | apply (zs65 ?_) | apply (zs68 ?_) | apply (zs69 ?_) | apply (zs70 ?_) | apply (zs74 ?_) | fail)
  all_goals (apply Yc; exact rfl; exact rfl)
  · rename_i h; exact ⟨by rw [decide_eq_true (hmm.1 (hia.1 h))], rfl⟩
  · rename_i h
    exact ⟨by rw [decide_eq_false fun e => by have := hia.2 (hmm.2 e); omega], rfl⟩
theorem We (l m : List Int) (hlen : l.length ≤ 9223372036854775807) (_hlen2 : m.length ≤ 9223372036854775807) {A A2 : Option Addr} {cap cap2 B : Nat} {w0 : World} {H : List HP} {w : World} (hr : Rd B w0 H A (l.flatMap numF)) (hr2 : Rd B w0 H A2 (m.flatMap numF)) (hw : St B w0 H w) :
    Calls Tryz.prog 33 [.slice A l.length cap, .slice A2 m.length cap2].toArray w (Post B w0 fun u K => u = .bool (decide (l = m)) ∧ K = H) := by
  refine Yd Tryz.func33 Tryz.ntmps33 rfl rfl hw ?_
  by_cases hll : l.length = m.length
  rotate_left
  · repeat' (first | apply (zs1 ?_) | apply (zs2 ?_) | (apply zg4; refine zs9 ?_) | (apply zg8; (refine zs16 ?_ ?_ <;> intro _ <;> try (exfalso; omega))) | apply (zs65 ?_) | apply (zs68 ?_) | apply (zs69 ?_) | apply (zs70 ?_) | (apply zg27; refine zs71 ?_) | apply (zs74 ?_) | apply (zs77 ?_) | fail)
    apply Yc; exact rfl; exact rfl
    exact ⟨by rw [decide_eq_false fun e => hll (by rw [e])], rfl⟩
  repeat' (first | apply (zs1 ?_) | apply (zs2 ?_) | (apply zg4; refine zs9 ?_) | (apply zg8; (refine zs16 ?_ ?_ <;> intro _ <;> try (exfalso; omega))) | apply (zs65 ?_) | apply (zs68 ?_) | apply (zs69 ?_) | apply (zs70 ?_) | (apply zg27; refine zs72 ?_) | apply (zs73 ?_) | apply (zs76 ?_) | fail)
  refine Yk (fun (k : Nat) => [(13, .int .i64 k), (12, .int .i64 l.length), (0, .slice A l.length cap), (1, .slice A2 m.length cap2)]) (fun _ => H) (fun k => k ≤ l.length ∧ l.take k = m.take k) (fun k => l.length - k) 0 ⟨Nat.zero_le _, by simp⟩ ?_ (fun w hw => hw) ?_
  · exact zu
  rintro k ⟨hk, hi⟩ K hK
  by_cases hlt : k < l.length
  · obtain ⟨a, ha⟩ : ∃ a, l[k]? = some a := ⟨_, List.getElem?_eq_getElem hlt⟩
    obtain ⟨b, hb⟩ : ∃ b, m[k]? = some b := ⟨_, List.getElem?_eq_getElem (by omega)⟩
    repeat' (first | apply (zs1 ?_) | apply (zs2 ?_) | (apply zg3; refine zs60 ?_) | (apply zg5; refine zs57 ?_) | (apply zg8; (refine zs16 ?_ ?_ <;> intro _ <;> try (exfalso; omega))) | (apply (zs17 ?_ ?_) <;> intro _ <;> try (exfalso; omega)) | (apply zg13; refine zs30 ?_) | apply (zs65 ?_) | apply (zs66 ?_) | apply (zs68 ?_) | apply (zs69 ?_) | apply (zs70 ?_) | (apply zg27; first | refine zs71 ?_ | refine zs72 ?_) | apply (zs73 ?_) | apply (zs74 ?_) | apply (zs76 ?_) | apply (zs77 ?_) | apply (zs78 ?_) | apply (zs79 ?_) | (apply zg28; refine zs83 ?_) | fail)
    · rename_i h
      apply Yc; exact rfl; exact rfl
      exact ⟨by rw [decide_eq_false fun e => by rw [e, hb] at ha; exact h (Option.some.inj ha).symm], rfl⟩
    · rename_i h
      apply hK (k + 1)
      · exact ⟨by omega, by rw [Zr ha, Zr hb, hi, h]⟩
      · omega
      · exact zu
      · exact fun w hw => hw
  · repeat' (first | apply (zs2 ?_) | (apply (zs17 ?_ ?_) <;> intro _ <;> try (exfalso; omega)) | apply (zs65 ?_) | apply (zs68 ?_) | apply (zs69 ?_) | apply (zs70 ?_) | (apply zg27; refine zs72 ?_) | apply (zs74 ?_) | apply (zs75 ?_) | apply (zs80 ?_) | apply (zs81 ?_) | fail)
    apply Yc; exact rfl; exact rfl
    rw [List.take_of_length_le (by omega), List.take_of_length_le (by omega)] at hi
    exact ⟨by rw [decide_eq_true hi], rfl⟩
open Go.RowKit Go.Eng Go.Nw Go.Rt
theorem YhI {l : List Int} {A : Option Addr} {cap : Nat} {B : Nat} {w0 : World} {H : List HP} (k : Nat) (hr : Rd B w0 H A (l.flatMap numF)) (hc : l.length ≤ cap) : Rd B w0 H (subA A 0 cap 1) ((l.take k).flatMap numF) := by
  have h := Rd.sub (f := numF) (q := 1) (o := 0) (k := k) (fun _ => rfl) hr hc
  rwa [List.drop_zero] at h
theorem YhX {l : List Int} {A : Option Addr} {cap : Nat} {B : Nat} {w0 : World} {H : List HP} (o : Nat) (hr : Rd B w0 H A (l.flatMap numF)) (hc : l.length ≤ cap) : Rd B w0 H (subA A o cap 1) ((l.drop o).flatMap numF) := by
  have h := Rd.sub (f := numF) (q := 1) (o := o) (k := (l.drop o).length) (fun _ => rfl) hr hc
  rwa [List.take_length] at h
theorem Q6 {p : Nat → Bool} {k : Nat} (h : (List.range k).any p = false) (h2 : p k = false) : (List.range (k + 1)).any p = false := by
  rw [OL, h, h2]; rfl
theorem Ycn {p : Nat → Bool} {k n : Nat} (hk : k < n) (h : p k = true) : (List.range n).any p = true := List.any_eq_true.2 ⟨k, List.mem_range.2 hk, h⟩
set_option maxHeartbeats 1000000 in
theorem Yc1 (n : NetM) (s t : Int) (r : List Int) {A : Option Addr} {cap B : Nat} {w0 : World} {H : List HP} {w : World} (hin : n.In B w0 H) (hck : Yy n.net = 0) (hr : Rd B w0 H A (r.flatMap numF)) (hlen : r.length ≤ 9223372036854775807) (hcap : r.length ≤ cap) (hw : St B w0 H w) :
    Calls Tryz.prog 206 [n.val, .int .i64 s, .int .i64 t, .slice A r.length cap].toArray w (Post B w0 fun v K => v = .int .i64 (Qg n.net s t r) ∧ K = H) := by
  refine Yd Tryz.func206 Tryz.ntmps206 rfl rfl hw ?_
  (apply Jr; apply Zq; apply XV; exact rfl; exact rfl; intro g)
  have hnm : netB g n ∈ netB g n :: H := List.mem_cons_self
  unfold Qg
  by_cases h1 : r.length < 2
  · rw [if_pos h1]
    repeat' (first | apply (zs1 ?_) | apply (zs2 ?_) | (apply zg4; refine zs9 ?_) | (apply (zs17 ?_ ?_) <;> intro _ <;> try (exfalso; omega)) | apply (zs65 ?_) | apply (zs68 ?_) | apply (zs69 ?_) | apply (zs70 ?_) | (apply zg27; refine zs71 ?_) | apply (zs73 ?_) | apply (zs74 ?_) | apply (zs77 ?_) | apply (zs78 ?_) | fail)
    (repeat apply Yn); apply Yc; exact rfl; exact rfl
    exact ⟨rfl, rfl⟩
  rw [if_neg h1]
  by_cases h2 : 9 < r.length
  · rw [if_pos h2]
    repeat' (first | apply (zs1 ?_) | apply (zs2 ?_) | (apply zg4; refine zs9 ?_) | (apply (zs17 ?_ ?_) <;> intro _ <;> try (exfalso; omega)) | (apply (zs19 ?_ ?_) <;> intro _ <;> try (exfalso; omega)) | apply (zs65 ?_) | apply (zs68 ?_) | apply (zs69 ?_) | apply (zs70 ?_) | (apply zg27; first | refine zs71 ?_ | refine zs72 ?_) | apply (zs73 ?_) | apply (zs74 ?_) | apply (zs77 ?_) | apply (zs78 ?_) | fail)
    (repeat apply Yn); apply Yc; exact rfl; exact rfl
    exact ⟨rfl, rfl⟩
  rw [if_neg h2]
  have hoff := fun {w : World} (hw : St B w0 (netB g n :: H) w) => Up (fun a : Int => Value.int .i64 a) (offE n.net) r 245 [.pointer (some ⟨g, 0, none⟩)] Yh1 hlen (cap := cap) (hr.cons) (fun a _ w hw => YbQ n a g hnm hw) hw
  obtain ⟨b3, h3⟩ : ∃ b, r.any (offE n.net) = b := ⟨_, rfl⟩
  rw [h3] at hoff ⊢
  cases b3 with
  | true =>
    rw [if_pos rfl]
    repeat' (first | ((first | apply Ya QX | apply Yb QX); exact za; exact rfl; exact fun _ hw => (hoff hw)) | apply (zs1 ?_) | apply (zs2 ?_) | (apply zg4; refine zs9 ?_) | (apply (zs17 ?_ ?_) <;> intro _ <;> try (exfalso; omega)) | (apply (zs19 ?_ ?_) <;> intro _ <;> try (exfalso; omega)) | apply (zs65 ?_) | apply (zs68 ?_) | apply (zs69 ?_) | apply (zs70 ?_) | (apply zg27; first | refine zs71 ?_ | refine zs72 ?_) | apply (zs73 ?_) | apply (zs74 ?_) | apply (zs77 ?_) | apply (zs78 ?_) | (apply zg29; (apply Yo; exact za ; exact rfl)) | fail)
    (repeat apply Yn); apply Yc; exact rfl; exact rfl
    exact ⟨rfl, rfl⟩
  | false =>
    rw [if_neg (by decide)]
    have hg0 := Zt (l := r) (i := 0) (by omega)
    have hg1 := Zt (l := r) (i := r.length - 1) (by omega)
    have hgi : ((r.length : Int) - 1).toNat = r.length - 1 := by omega
    rw [← hgi] at hg1
    by_cases h4 : r.getD 0 0 ≠ s ∨ r.getD (r.length - 1) 0 ≠ t
    · rw [if_pos h4]
      rw [← hgi] at h4
      repeat' (first | ((first | apply Ya QX | apply Yb QX); exact za; exact rfl; exact fun _ hw => (hoff hw)) | apply (zs1 ?_) | apply (zs2 ?_) | (apply zg1; first | refine zs3 ?_ | refine zs4 ?_) | (apply zg3; refine zs60 ?_) | (apply zg4; refine zs9 ?_) | (apply zg5; refine zs57 ?_) | (apply zg6; first | refine zs11 ?_ | refine zs12 ?_) | (apply zg8; (refine zs16 ?_ ?_ <;> intro _ <;> try (exfalso; omega))) | (apply (zs17 ?_ ?_) <;> intro _ <;> try (exfalso; omega)) | (apply (zs19 ?_ ?_) <;> intro _ <;> try (exfalso; omega)) | (apply zg14; refine zs31 ?_) | apply (zs65 ?_) | apply (zs68 ?_) | apply (zs69 ?_) | apply (zs70 ?_) | (apply zg27; first | refine zs71 ?_ | refine zs72 ?_) | apply (zs73 ?_) | apply (zs74 ?_) | apply (zs77 ?_) | apply (zs78 ?_) | (apply zg29; (apply Yo; exact za ; exact rfl)) | fail)
      all_goals first
        | ((repeat apply Yn); apply Yc; exact rfl; exact rfl; exact ⟨rfl, rfl⟩)
        | skip
      done
    rw [if_neg h4]
    rw [← hgi] at h4
    repeat' (first | ((first | apply Ya QX | apply Yb QX); exact za; exact rfl; exact fun _ hw => (hoff hw)) | apply (zs1 ?_) | apply (zs2 ?_) | (apply zg1; refine zs4 ?_) | (apply zg3; refine zs60 ?_) | (apply zg4; refine zs9 ?_) | (apply zg5; refine zs57 ?_) | (apply zg6; refine zs12 ?_) | (apply zg8; (refine zs16 ?_ ?_ <;> intro _ <;> try (exfalso; omega))) | (apply (zs17 ?_ ?_) <;> intro _ <;> try (exfalso; omega)) | (apply (zs19 ?_ ?_) <;> intro _ <;> try (exfalso; omega)) | (apply zg14; refine zs31 ?_) | apply (zs65 ?_) | apply (zs68 ?_) | apply (zs69 ?_) | apply (zs70 ?_) | (apply zg27; refine zs72 ?_) | apply (zs73 ?_) | apply (zs76 ?_) | apply (zs79 ?_) | (apply zg29; (apply Yo; exact za ; exact rfl)) | fail)
    refine Yk (fun (k : Nat) => [(43, .int .i64 k), (42, .int .i64 r.length), (41, .slice A r.length cap), (3, .slice A r.length cap), (4, .pointer (some ⟨g, 0, none⟩))]) (fun _ => netB g n :: H) (fun k => k ≤ r.length ∧ ((List.range k).any fun i => (r.take i).contains (r.getD i 0)) = false) (fun k => r.length - k) 0 ⟨Nat.zero_le _, rfl⟩ ?_ (fun w hw => hw) ?_
    · exact zu
    rintro k ⟨hk, hi⟩ K hK
    by_cases hlt : k < r.length
    · have hgk := Zt (l := r) (i := k) hlt
      obtain ⟨b, hb⟩ : ∃ b, (r.take k).contains (r.getD k 0) = b := ⟨_, rfl⟩
      have hbm : decide (r.getD k 0 ∈ r.take k) = b := by rw [← hb]; simp
      have hcon := fun {w : World} (hw : St B w0 (netB g n :: H) w) => OP (r.take k) (r.getD k 0) (by rw [List.length_take]; omega) (cap := cap) (YhI k (hr.cons (X := netB g n)) hcap) hw
      rw [hbm] at hcon
      cases b with
      | true =>
        repeat' (first | (apply Xy T (l := r) (n' := (r.take k).length); exact rfl; exact rfl; exact rfl; exact rfl; omega; exact hcap; (simp; omega)) | ((first | apply Ya Ydk | apply Yb Ydk); exact za; exact rfl; exact fun _ hw => (hcon hw)) | apply (zs1 ?_) | apply (zs2 ?_) | (apply zg3; refine zs60 ?_) | (apply zg5; refine zs57 ?_) | (apply (zs17 ?_ ?_) <;> intro _ <;> try (exfalso; omega)) | apply (zs65 ?_) | apply (zs68 ?_) | apply (zs69 ?_) | apply (zs70 ?_) | (apply zg27; refine zs71 ?_) | apply (zs73 ?_) | apply (zs74 ?_) | apply (zs76 ?_) | apply (zs77 ?_) | apply (zs78 ?_) | fail)
        (repeat apply Yn); apply Yc; exact rfl; exact rfl
        have htw : OA r = true := Ycn hlt hb
        exact ⟨by rw [if_pos htw], rfl⟩
      | false =>
        repeat' (first | (apply Xy T (l := r) (n' := (r.take k).length); exact rfl; exact rfl; exact rfl; exact rfl; omega; exact hcap; (simp; omega)) | ((first | apply Ya Ydk | apply Yb Ydk); exact za; exact rfl; exact fun _ hw => (hcon hw)) | apply (zs1 ?_) | apply (zs2 ?_) | (apply zg3; refine zs60 ?_) | (apply zg5; refine zs57 ?_) | (apply (zs17 ?_ ?_) <;> intro _ <;> try (exfalso; omega)) | (apply zg13; refine zs30 ?_) | apply (zs65 ?_) | apply (zs68 ?_) | apply (zs69 ?_) | apply (zs70 ?_) | (apply zg27; first | refine zs71 ?_ | refine zs72 ?_) | apply (zs73 ?_) | apply (zs76 ?_) | apply (zs79 ?_) | fail)
        apply hK (k + 1)
        · exact ⟨by omega, Q6 hi hb⟩
        · omega
        · exact zu
        · exact fun w hw => hw
    obtain rfl : k = r.length := by omega
    clear hK
    have htw : OA r = false := hi
    rw [if_neg (by rw [htw]; decide)]
    have hdl : (r.drop 1).length = r.length - 1 := List.length_drop
    repeat' (first | (apply J5 T (n' := (r.drop 1).length); exact rfl; exact rfl; exact rfl; exact rfl; omega; (rw [hdl]; rfl)) | apply (zs1 ?_) | (apply zg4; refine zs9 ?_) | (apply (zs17 ?_ ?_) <;> intro _ <;> try (exfalso; omega)) | apply (zs65 ?_) | apply (zs68 ?_) | apply (zs69 ?_) | apply (zs70 ?_) | (apply zg27; refine zs72 ?_) | apply (zs73 ?_) | apply (zs75 ?_) | apply (zs80 ?_) | apply (zs81 ?_) | fail)
    refine Yk (fun (k : Nat) => [(57, .int .i64 k), (56, .int .i64 (r.drop 1).length), (55, .slice (subA A 1 cap 1) (r.drop 1).length (cap - 1)), (3, .slice A r.length cap), (4, .pointer (some ⟨g, 0, none⟩))]) (fun _ => netB g n :: H) (fun k => k ≤ (r.drop 1).length ∧ ((List.range k).any fun i => !YT n.net (r.getD i 0) (r.getD (i + 1) 0)) = false) (fun k => (r.drop 1).length - k) 0 ⟨Nat.zero_le _, rfl⟩ ?_ (fun w hw => hw) ?_
    · exact zu
    rintro k ⟨hk, hi⟩ K hK
    have hr1 : Rd B w0 (netB g n :: H) (subA A 1 cap 1) ((r.drop 1).flatMap numF) := YhX 1 (hr.cons) hcap
    have hr0 : Rd B w0 (netB g n :: H) A (r.flatMap numF) := hr.cons
    by_cases hlt : k < (r.drop 1).length
    · have hgk := Zt (l := r) (i := k) (by omega)
      have hgk1 : (r.drop 1)[k]? = some (r.getD (k + 1) 0) := by
        rw [List.getElem?_drop, Nat.add_comm]; exact Zt (by omega)
      obtain ⟨b, hb⟩ : ∃ b, YT n.net (r.getD k 0) (r.getD (k + 1) 0) = b := ⟨_, rfl⟩
      have hus := fun {w : World} (hw : St B w0 (netB g n :: H) w) => Wc n (X7 n.net (r.getD k 0) (r.getD (k + 1) 0)) (hin.cons (X := netB g n)) hw
      rw [Ya3 hck, hb] at hus
      cases b with
      | true =>
        repeat' (first | ((first | apply Ya en95 | apply Yb en95); exact za; exact rfl; exact fun _ hw => (XP n _ _ (hin.cons) hw)) | ((first | apply Ya ZR | apply Yb ZR); exact za; exact rfl; exact fun _ hw => (hus hw)) | apply (zs1 ?_) | apply (zs2 ?_) | (apply zg3; first | refine zs8 ?_ | refine zs60 ?_) | (apply zg5; refine zs57 ?_) | (apply (zs17 ?_ ?_) <;> intro _ <;> try (exfalso; omega)) | (apply zg13; refine zs30 ?_) | (apply zg20; refine zs47 ?_) | apply (zs65 ?_) | apply (zs66 ?_) | apply (zs68 ?_) | apply (zs69 ?_) | apply (zs70 ?_) | (apply zg27; first | refine zs71 ?_ | refine zs72 ?_) | apply (zs73 ?_) | apply (zs76 ?_) | apply (zs79 ?_) | (apply zg28; refine zs84 ?_) | fail)
        apply hK (k + 1)
        · exact ⟨by omega, Q6 hi (by rw [hb]; rfl)⟩
        · omega
        · exact zu
        · exact fun w hw => hw
      | false =>
        repeat' (first | ((first | apply Ya en95 | apply Yb en95); exact za; exact rfl; exact fun _ hw => (XP n _ _ (hin.cons) hw)) | ((first | apply Ya ZR | apply Yb ZR); exact za; exact rfl; exact fun _ hw => (hus hw)) | apply (zs1 ?_) | apply (zs2 ?_) | (apply zg3; first | refine zs8 ?_ | refine zs60 ?_) | (apply zg5; refine zs57 ?_) | (apply (zs17 ?_ ?_) <;> intro _ <;> try (exfalso; omega)) | (apply zg20; refine zs48 ?_) | apply (zs65 ?_) | apply (zs66 ?_) | apply (zs68 ?_) | apply (zs69 ?_) | apply (zs70 ?_) | (apply zg27; refine zs71 ?_) | apply (zs73 ?_) | apply (zs74 ?_) | apply (zs76 ?_) | apply (zs77 ?_) | apply (zs78 ?_) | (apply zg28; refine zs84 ?_) | fail)
        (repeat apply Yn); apply Yc; exact rfl; exact rfl
        have hbr : Vt n.net r = true := Ycn (k := k) (by omega) (by rw [hb]; rfl)
        exact ⟨by rw [if_pos hbr], rfl⟩
    · obtain rfl : k = (r.drop 1).length := by omega
      clear hK
      repeat' (first | apply (zs2 ?_) | (apply (zs17 ?_ ?_) <;> intro _ <;> try (exfalso; omega)) | apply (zs65 ?_) | apply (zs68 ?_) | apply (zs69 ?_) | apply (zs70 ?_) | (apply zg27; refine zs72 ?_) | apply (zs74 ?_) | apply (zs75 ?_) | apply (zs80 ?_) | apply (zs81 ?_) | fail)
      (repeat apply Yn); apply Yc; exact rfl; exact rfl
      have hbr : Vt n.net r = false := by rw [hdl] at hi; exact hi
      exact ⟨by rw [if_neg (by rw [hbr]; decide)], rfl⟩
open Go.RowKit Go.Eng Go.Nw Go.Rt
theorem Yae {n : Net} {a b : Int} (h : YT n a b = true) : 0 ≤ YD n a b := by
  unfold YT at h
  simp only [Bool.and_eq_true, decide_eq_true_eq] at h
  exact h.1
theorem YeK {n : Net} {s t : Int} {r : List Int} (h : Qg n s t r = 0) : (2 ≤ r.length ∧ r.length ≤ 9) ∧ r.any (offE n) = false ∧ (r.getD 0 0 = s ∧ r.getD (r.length - 1) 0 = t) ∧ OA r = false ∧ Vt n r = false := by
  unfold Qg at h
  by_cases h1 : r.length < 2
  · rw [if_pos h1] at h; cases h
  rw [if_neg h1] at h
  by_cases h2 : 9 < r.length
  · rw [if_pos h2] at h; cases h
  rw [if_neg h2] at h
  cases h3 : r.any (offE n) with
  | true => rw [h3, if_pos rfl] at h; cases h
  | false =>
    rw [h3, if_neg (by decide)] at h
    by_cases h4 : r.getD 0 0 ≠ s ∨ r.getD (r.length - 1) 0 ≠ t
    · rw [if_pos h4] at h; cases h
    rw [if_neg h4] at h
    cases h5 : OA r with
    | true => rw [h5, if_pos rfl] at h; cases h
    | false =>
      rw [h5, if_neg (by decide)] at h
      cases h6 : Vt n r with
      | true => rw [h6, if_pos rfl] at h; cases h
      | false => exact ⟨by omega, rfl, by omega, rfl, rfl⟩
theorem Qa (n : NetM) (s t : Int) (r : List Int) {A : Option Addr} {cap B : Nat} {w0 : World} {H : List HP} {w : World} (hin : n.In B w0 H) (hr : Rd B w0 H A (r.flatMap numF)) (hlen : r.length ≤ 9223372036854775807) (hcap : r.length ≤ cap) (hw : St B w0 H w) :
    Calls Tryz.prog 148 [n.val, .int .i64 s, .int .i64 t, .slice A r.length cap].toArray w (Post B w0 fun v K => v = .int .i64 (Za n.net s t r) ∧ K = H) := by
  refine Yd Tryz.func148 Tryz.ntmps148 rfl rfl hw ?_
  unfold Za
  by_cases h0 : Wa n.net s t = 0
  · have hck : Yy n.net = 0 := by
      unfold Wa at h0
      by_cases h : Yy n.net = 0
      · exact h
      · rw [if_pos h] at h0; cases h0
    have hen := fun {H : List HP} {w : World} (hin : n.In B w0 H) (hw : St B w0 H w) => QZ n s t hin hw
    rw [h0] at hen
    rw [if_neg (fun h => h h0)]
    repeat' (first | ((first | apply Ya Yc6 | apply Yb Yc6); exact za; exact rfl; exact fun _ hw => (hen hin.cons hw)) | ((first | apply Ya YgY | apply Yb YgY); exact za; exact rfl; exact fun _ hw => (Yc1 n s t r hin.cons hck hr.cons hlen hcap hw)) | apply (zs1 ?_) | apply (zs2 ?_) | (apply zg3; refine zs8 ?_) | (apply zg8; (refine zs16 ?_ ?_ <;> intro _ <;> try (exfalso; omega))) | (apply zg23; (refine zs52 ?_; intro _)) | apply (zs65 ?_) | apply (zs68 ?_) | apply (zs69 ?_) | apply (zs70 ?_) | (apply zg27; refine zs72 ?_) | apply (zs74 ?_) | apply (zs76 ?_) | fail)
    (repeat apply Yn); apply Yc; exact rfl; exact rfl; exact ⟨rfl, rfl⟩
  · rw [if_pos h0]
    repeat' (first | ((first | apply Ya Yc6 | apply Yb Yc6); exact za; exact rfl; exact fun _ hw => (QZ n s t hin.cons hw)) | apply (zs1 ?_) | apply (zs2 ?_) | (apply zg3; refine zs8 ?_) | (apply zg8; (refine zs16 ?_ ?_ <;> intro _ <;> try (exfalso; omega))) | (apply zg23; (refine zs52 ?_; intro _)) | apply (zs65 ?_) | apply (zs68 ?_) | apply (zs69 ?_) | apply (zs70 ?_) | (apply zg27; refine zs71 ?_) | apply (zs74 ?_) | apply (zs77 ?_) | fail)
    (repeat apply Yn); apply Yc; exact rfl; exact rfl; exact ⟨rfl, rfl⟩
open Go.RowKit Go.Eng Go.Nw Go.Rt
structure WayM where
  n : NetM
  s : SchM
  f : Flw
  A : Option Addr
  cap : Nat
  r : List Int
def WayM.val (x : WayM) : Value := .agg #[.int .i64 x.n.nodes, .slice x.n.pA x.n.rows.length x.n.pcap, .int .i64 x.n.noise, .int .i64 x.n.thr, .slice x.n.lA x.n.links.length x.n.lcap, .slice x.n.mA x.n.margin.length x.n.mcap, .int .i64 x.s.len, .int .i64 x.s.off, .slice x.s.A x.s.cells.length x.s.cap, .int .i64 x.f.1, .int .i64 x.f.2.1, .int .i64 x.f.2.2.1, .int .i64 x.f.2.2.2.1, .int .i64 x.f.2.2.2.2.1, .int .i64 x.f.2.2.2.2.2, .slice x.A x.r.length x.cap, .int .i64 0]
abbrev wayB (g : Nat) (x : WayM) : HP := blk g (.cells #[.int .i64 x.n.nodes, .slice x.n.pA x.n.rows.length x.n.pcap, .int .i64 x.n.noise, .int .i64 x.n.thr, .slice x.n.lA x.n.links.length x.n.lcap, .slice x.n.mA x.n.margin.length x.n.mcap, .int .i64 x.s.len, .int .i64 x.s.off, .slice x.s.A x.s.cells.length x.s.cap, .int .i64 x.f.1, .int .i64 x.f.2.1, .int .i64 x.f.2.2.1, .int .i64 x.f.2.2.2.1, .int .i64 x.f.2.2.2.2.1, .int .i64 x.f.2.2.2.2.2, .slice x.A x.r.length x.cap, .int .i64 0] 151 (0, 0))
structure WayM.In (B : Nat) (w0 : World) (H : List HP) (x : WayM) : Prop where
  n : x.n.In B w0 H
  s : Rd B w0 H x.s.A (x.s.cells.flatMap celF)
  r : Rd B w0 H x.A (x.r.flatMap numF)
  sl : x.s.cells.length ≤ 1000000000000
  rl : x.r.length ≤ 1000000000000
  rc : x.r.length ≤ x.cap
theorem WayM.In.cons {B : Nat} {w0 : World} {H : List HP} {x : WayM} {X : HP} (h : x.In B w0 H) : x.In B w0 (X :: H) := ⟨h.n.cons, h.s.cons, h.r.cons, h.sl, h.rl, h.rc⟩
theorem WayM.In.mono {B : Nat} {w0 : World} {H H' : List HP} {x : WayM} (h : x.In B w0 H) (hH : ∀ w, St B w0 H' w → St B w0 H w) : x.In B w0 H' := ⟨h.n.mono hH, h.s.mono hH, h.r.mono hH, h.sl, h.rl, h.rc⟩
theorem YdK {nodes : Int} {f : Flw} (h : 2 ≤ nodes ∧ nodes ≤ 32) : ((YR nodes [f]).2 = 0 ↔ XK nodes f = 0) := by
  unfold YR
  rw [if_neg (by omega), if_neg (by simp)]
  have e : YO nodes [f] 0 = XK nodes f := by
    unfold YO
    show (if XK nodes f ≠ 0 then XK nodes f else if 0 < 0 ∧ _ then 5 else 0) = _
    by_cases h : XK nodes f = 0
    · rw [if_neg (fun e => e h), if_neg (by omega), h]
    · rw [if_pos h]
  show (Yz _ 1 0).2 = 0 ↔ _
  unfold Yz Yz
  rw [e]
  split
  · rename_i h; exact ⟨fun _ => h, fun _ => rfl⟩
  · rename_i h; exact ⟨fun h2 => absurd h2 h, fun h2 => absurd h2 h⟩
set_option maxRecDepth 10000 in
set_option maxHeartbeats 4000000 in
theorem YbK (x : WayM) {B : Nat} {w0 : World} {H : List HP} {w : World} (ht : TabsB B w0) (hi : x.In B w0 H) (hw : St B w0 H w) :
    Calls Tryz.prog 85 [x.val].toArray w (Post B w0 fun v K => v = .int .i64 (wayE x.n.net x.s.sch x.f x.r) ∧ K = H) := by
  refine Yd Tryz.func85 Tryz.ntmps85 rfl rfl hw ?_
  have p1 := fun {H' : List HP} {w : World} (hin : x.n.In B w0 H') (hw : St B w0 H' w) => YH x.n hin hw
  have p2 := fun {H' : List HP} {w : World} (hr : Rd B w0 H' x.s.A (x.s.cells.flatMap celF)) (hw : St B w0 H' w) => YcV x.s ht hr hi.sl hw
  have p3 := fun {g cap : Nat} {H' : List HP} {w : World} (hm : blk g (.cells #[.int .i64 x.f.1, .int .i64 x.f.2.1, .int .i64 x.f.2.2.1, .int .i64 x.f.2.2.2.1, .int .i64 x.f.2.2.2.2.1, .int .i64 x.f.2.2.2.2.2] 68 (0, 0)) ∈ H') (hw : St B w0 H' w) => YL x.n.nodes [x.f] (Nat.le_of_ble_eq_true rfl) (A := some ⟨g, 0, none⟩) (cap := cap) (show Rd B w0 H' _ ([x.f].flatMap flwF) from Rd.blk hm) hw
  have p4 := fun {H' : List HP} {w : World} (hin : x.n.In B w0 H') (hr : Rd B w0 H' x.A (x.r.flatMap numF)) (hw : St B w0 H' w) => Qa x.n x.f.2.1 x.f.2.2.1 x.r (cap := x.cap) hin hr (Nat.le_trans hi.rl (by decide)) hi.rc hw
  have hn := hi.n
  have hs := hi.s
  have hr := hi.r
  have hfo := @YdK x.n.net.nodes x.f
  have hok := fun h : Yy x.n.net = 0 => (Y2 h).n0
  have hok1 := fun h : Yy x.n.net = 0 => (Y2 h).n1
  have hpe : (JD x.s.sch).2 = 0 ↔ XF x.s.sch = true := by
    unfold JD
    cases hf : XF x.s.sch with
    | true => rw [if_neg (by decide)]; simp
    | false => rw [if_pos rfl]; simp
  unfold wayE
  rw [show x.n.net.nodes = x.n.nodes from rfl] at *
  rw [show x.s.sch.len = x.s.len from rfl] at *
  obtain ⟨c, hc⟩ : ∃ c, Yy x.n.net = c := ⟨_, rfl⟩
  obtain ⟨⟨t, e⟩, he⟩ : ∃ e, JD x.s.sch = e := ⟨_, rfl⟩
  obtain ⟨⟨i, a⟩, ha⟩ : ∃ a, YR x.n.nodes [x.f] = a := ⟨_, rfl⟩
  obtain ⟨k, hk⟩ : ∃ k, Za x.n.net x.f.2.1 x.f.2.2.1 x.r = k := ⟨_, rfl⟩
  rw [hc] at p1 hok hok1 ⊢
  rw [he] at p2 hpe
  rw [ha] at p3 hfo
  rw [hk] at p4 ⊢
  dsimp only at p2 p3 hpe hfo
  unfold WayM.val
  by_cases h1 : c = 0
  rotate_left
  · rw [if_pos (.inl h1)]
    repeat' (first | ((first | apply Ya en50 | apply Yb en50); exact za; exact rfl; exact fun _ hw => (p1 hn.cons hw)) | (apply Y5 T; exact rfl; exact zm; exact rfl; exact zv; exact rfl; exact rfl) | apply (zs2 ?_) | (apply zg2; refine zs6 ?_) | (apply zg8; (refine zs16 ?_ ?_ <;> intro _ <;> try (exfalso; omega))) | (apply zg23; (refine zs52 ?_; intro _)) | apply (zs65 ?_) | apply (zs68 ?_) | apply (zs69 ?_) | apply (zs70 ?_) | (apply zg27; refine zs71 ?_) | apply (zs74 ?_) | apply (zs77 ?_) | fail)
    apply Yj H
    · exact zk
    apply Yc; exact rfl; exact rfl; exact ⟨rfl, rfl⟩
  subst h1
  have hfo := hfo ⟨hok rfl, hok1 rfl⟩
  by_cases h2 : e = 0
  rotate_left
  · rw [if_pos (.inr (.inl (by cases hf : XF x.s.sch with | false => rfl | true => exact absurd (hpe.2 hf) h2)))]
    repeat' (first | ((first | apply Ya en50 | apply Yb en50); exact za; exact rfl; exact fun _ hw => (p1 hn.cons hw)) | ((first | apply Ya en47 | apply Yb en47); exact za; exact rfl; exact fun _ hw => (p2 hs.cons hw)) | (apply Y5 T; exact rfl; exact zm; exact rfl; exact zv; exact rfl; exact rfl) | apply (zs1 ?_) | apply (zs2 ?_) | (apply zg2; refine zs6 ?_) | apply (zs13 ?_) | (apply zg8; (refine zs16 ?_ ?_ <;> intro _ <;> try (exfalso; omega))) | (apply zg23; (refine zs52 ?_; intro _)) | apply (zs65 ?_) | apply (zs68 ?_) | apply (zs69 ?_) | apply (zs70 ?_) | (apply zg27; first | refine zs71 ?_ | refine zs72 ?_) | apply (zs74 ?_) | apply (zs76 ?_) | apply (zs77 ?_) | fail)
    apply Yj H
    · exact zk
    apply Yc; exact rfl; exact rfl; exact ⟨rfl, rfl⟩
  subst h2
  have hfe := hpe.1 rfl
  by_cases h3 : a = 0
  rotate_left
  · rw [if_pos (.inr (.inr (fun h => h3 (hfo.2 h))))]
    repeat' (first | ((first | apply Ya en50 | apply Yb en50); exact za; exact rfl; exact fun _ hw => (p1 hn.cons hw)) | ((first | apply Ya en47 | apply Yb en47); exact za; exact rfl; exact fun _ hw => (p2 hs.cons hw)) | ((first | apply Ya en51 | apply Yb en51); exact za; exact rfl; exact fun _ hw => (p3 zm hw)) | (apply Y5 T; exact rfl; exact zm; exact rfl; exact zv; exact rfl; exact rfl) | apply (zs1 ?_) | apply (zs2 ?_) | (apply zg2; refine zs6 ?_) | (apply zg3; refine zs7 ?_) | apply (zs13 ?_) | (apply zg8; (refine zs16 ?_ ?_ <;> intro _ <;> try (exfalso; omega))) | (apply zg23; (refine zs52 ?_; intro _)) | (apply zg26; (refine zs56 ?_; intro _)) | apply (zs65 ?_) | apply (zs68 ?_) | apply (zs69 ?_) | apply (zs70 ?_) | (apply zg27; first | refine zs71 ?_ | refine zs72 ?_) | apply (zs74 ?_) | apply (zs76 ?_) | apply (zs77 ?_) | fail)
    apply Yj H
    · exact zk
    apply Yc; exact rfl; exact rfl; exact ⟨rfl, rfl⟩
  subst h3
  have hfz := hfo.1 rfl
  rw [if_neg (by rintro (h | h | h); exact h rfl; rw [hfe] at h; cases h; exact h hfz)]
  have hp1 : 1 ≤ x.f.2.2.2.1 := by
    unfold XK at hfz
    split at hfz
    · cases hfz
    split at hfz
    · cases hfz
    omega
  have hsz : 1 ≤ x.s.len ∧ x.s.len ≤ 512 := by
    have := of_decide_eq_true (O0.1 hfe).sized
    exact ⟨this.1, this.2.1⟩
  rw [Int.tmod_eq_emod_of_nonneg (show 0 ≤ x.s.len by omega)]
  by_cases h4 : x.s.len % x.f.2.2.2.1 = 0
  rotate_left
  · rw [if_pos h4]
    repeat' (first | ((first | apply Ya en50 | apply Yb en50); exact za; exact rfl; exact fun _ hw => (p1 hn.cons hw)) | ((first | apply Ya en47 | apply Yb en47); exact za; exact rfl; exact fun _ hw => (p2 hs.cons hw)) | ((first | apply Ya en51 | apply Yb en51); exact za; exact rfl; exact fun _ hw => (p3 zm hw)) | (apply Y5 T; exact rfl; exact zm; exact rfl; exact zv; exact rfl; exact rfl) | apply (zs1 ?_) | apply (zs2 ?_) | (apply zg2; refine zs6 ?_) | (apply zg3; refine zs7 ?_) | apply (zs13 ?_) | (apply zg8; (refine zs16 ?_ ?_ <;> intro _ <;> try (exfalso; omega))) | (apply zg17; refine zs37 ?_) | (apply zg23; (refine zs52 ?_; intro _)) | (apply zg26; (refine zs56 ?_; intro _)) | apply (zs65 ?_) | apply (zs68 ?_) | apply (zs69 ?_) | apply (zs70 ?_) | (apply zg27; first | refine zs71 ?_ | refine zs72 ?_) | apply (zs74 ?_) | apply (zs76 ?_) | apply (zs77 ?_) | fail)
    apply Yj H
    · exact zk
    apply Yc; exact rfl; exact rfl; exact ⟨rfl, rfl⟩
  rw [if_neg (fun h => h h4)]
  repeat' (first | ((first | apply Ya en50 | apply Yb en50); exact za; exact rfl; exact fun _ hw => (p1 hn.cons hw)) | ((first | apply Ya en47 | apply Yb en47); exact za; exact rfl; exact fun _ hw => (p2 hs.cons hw)) | ((first | apply Ya en51 | apply Yb en51); exact za; exact rfl; exact fun _ hw => (p3 zm hw)) | ((first | apply Ya Yan | apply Yb Yan); exact za; exact rfl; exact fun _ hw => (p4 hn.cons.cons hr.cons.cons hw)) | (apply Y5 T; exact rfl; exact zm; exact rfl; exact zv; exact rfl; exact rfl) | apply (zs1 ?_) | apply (zs2 ?_) | (apply zg2; refine zs6 ?_) | (apply zg3; refine zs7 ?_) | apply (zs13 ?_) | (apply zg8; (refine zs16 ?_ ?_ <;> intro _ <;> try (exfalso; omega))) | (apply zg17; refine zs37 ?_) | (apply zg23; (refine zs52 ?_; intro _)) | (apply zg26; (refine zs56 ?_; intro _)) | apply (zs65 ?_) | apply (zs68 ?_) | apply (zs69 ?_) | apply (zs70 ?_) | (apply zg27; refine zs72 ?_) | apply (zs74 ?_) | apply (zs76 ?_) | fail)
  apply Yj H
  · exact zk
  apply Yc; exact rfl; exact rfl; exact ⟨rfl, rfl⟩
open Go.RowKit Go.Eng Go.Nw Go.Rt
theorem Yhr {n : Net} {s : Sch} {f : Flw} {r : List Int} (h : wayE n s f r = 0) : Yy n = 0 ∧ XF s = true ∧ XK n.nodes f = 0 ∧ s.len.tmod f.2.2.2.1 = 0 ∧ Za n f.2.1 f.2.2.1 r = 0 := by
  unfold wayE at h
  split at h
  · cases h
  rename_i h1
  split at h
  · cases h
  rename_i h2
  refine ⟨Decidable.byContradiction fun e => h1 (.inl e), ?_, Decidable.byContradiction fun e => h1 (.inr (.inr e)), Decidable.not_not.1 h2, h⟩
  cases hf : XF s with
  | true => rfl
  | false => exact absurd (.inr (.inl hf)) h1
theorem YeJ {n : Net} {s : Sch} {f : Flw} {r : List Int} (h : (Xe n s f r).2 = 0) : wayE n s f r = 0 ∧ ∃ b, Vf n s f r = some b ∧ Xe n s f r = (b, 0) := by
  unfold Xe at h ⊢
  by_cases h1 : wayE n s f r = 0
  · rw [if_neg (fun e => e h1)] at h ⊢
    cases hb : Vf n s f r with
    | none => rw [hb] at h; cases h
    | some b => exact ⟨h1, b, rfl, rfl⟩
  · rw [if_pos h1] at h
    exact absurd h h1
theorem YdH {q : List Rqs} {i : Nat} (h : i < q.length) : q[i]? = some (rqAt q i) := by
  unfold rqAt; rw [List.getD_eq_getElem?_getD, List.getElem?_eq_getElem h]; rfl
theorem QK {l : List (List Int)} {i : Nat} (h : i < l.length) : l[i]? = some (rtAt l i) := by
  unfold rtAt; rw [List.getD_eq_getElem?_getD, List.getElem?_eq_getElem h]; rfl
theorem YgB {n : Net} {x : Rqs} (h : rtsE n x = 0) : x.2.length = 1 ∨ x.2.length = 2 ∧ rtAt x.2 0 ≠ rtAt x.2 1 := by
  unfold rtsE at h
  split at h
  · cases h
  split at h
  · cases h
  split at h
  · exact absurd h (by assumption)
  split at h
  · cases h
  rename_i h1 h2 h3 h4
  by_cases h5 : x.2.length = 1
  · exact .inl h5
  · exact .inr ⟨by omega, fun e => h4 ⟨by omega, e⟩⟩
open Go.RowKit Go.Eng Go.Nw Go.Rt
structure JW (x : WayM) : Prop where
  ck : Yy x.n.net = 0
  len : 2 ≤ x.r.length ∧ x.r.length ≤ 9
  good : ∀ i, i + 1 < x.r.length → YT x.n.net (x.r.getD i 0) (x.r.getD (i + 1) 0) = true
  per : 1 ≤ x.f.2.2.2.1 ∧ x.f.2.2.2.1 ≤ 512
  ph : 0 ≤ x.f.2.2.2.2.1 ∧ x.f.2.2.2.2.1 < x.f.2.2.2.1
  slen : 1 ≤ x.s.len ∧ x.s.len ≤ 512
  few : x.s.cells.length ≤ 512
theorem YcB {n : Net} {s t : Int} {r : List Int} (h : Za n s t r = 0) : Yy n = 0 ∧ (2 ≤ r.length ∧ r.length ≤ 9) ∧ ∀ i, i + 1 < r.length → YT n (r.getD i 0) (r.getD (i + 1) 0) = true := by
  unfold Za at h
  by_cases h0 : Wa n s t = 0
  rotate_left
  · rw [if_pos h0] at h; exact absurd h h0
  rw [if_neg (fun e => e h0)] at h
  have hck : Yy n = 0 := by
    unfold Wa at h0
    by_cases h1 : Yy n = 0
    · exact h1
    · rw [if_pos h1] at h0; cases h0
  obtain ⟨h1, _, _, _, h2⟩ := YeK h
  refine ⟨hck, h1, fun i hi => ?_⟩
  unfold Vt at h2
  rw [List.any_eq_false] at h2
  have := h2 i (List.mem_range.2 (by omega))
  simpa using this
theorem Ydt {x : WayM} (h : wayE x.n.net x.s.sch x.f x.r = 0) : JW x := by
  obtain ⟨_, h2, h3, _, h5⟩ := Yhr h
  obtain ⟨k1, k2, k3⟩ := YcB h5
  have hfr := O0.1 h2
  have hsz := of_decide_eq_true hfr.sized
  unfold XK at h3
  split at h3
  · cases h3
  split at h3
  · cases h3
  exact ⟨k1, k2, k3, by omega, by omega, ⟨hsz.1, hsz.2.1⟩, hfr.few⟩
def XQ (x : WayM) : List (List Value) := (YB x.n.net x.r).map fun l => [lkV l]
theorem VN {n : Net} {r : List Int} {i : Nat} (h : i + 1 < r.length) : (YB n r)[i]? = some (UQ n r i) := by
  unfold YB
  rw [List.getElem?_map, List.getElem?_range (by omega)]; rfl
theorem Ju {n : Net} {r : List Int} : (YB n r).length = r.length - 1 := by unfold YB; simp
set_option maxRecDepth 10000 in
set_option maxHeartbeats 4000000 in
theorem Wq (x : WayM) (g : Nat) (hok : JW x) {B : Nat} {w0 : World} {HI : List HP} (hi : x.In B w0 HI) (hm : wayB g x ∈ HI) :
    QY Tryz.prog 285 [.pointer (some ⟨g, 0, none⟩)] (XQ x) B w0 HI := by
  refine Ycq Tryz.func285 Tryz.ntmps285 rfl rfl ?_
  intro l SS X hy L0 h0
  have hck := hok.ck
  have hlen := hok.len
  have p1 := fun {H' : List HP} {w : World} (a b : Int) (hin : x.n.In B w0 H') (hw : St B w0 H' w) => XP x.n a b hin hw
  have hix : ∀ a b : Int, X7 x.n.net a b = YD x.n.net a b := fun a b => by unfold X7; rw [if_neg (fun e => e hck)]
  unfold wayB at hm
  repeat' (first | apply (zs2 ?_) | apply (zs65 ?_) | apply (zs68 ?_) | apply (zs69 ?_) | apply (zs70 ?_) | apply (zs73 ?_) | fail)
  refine Yk (fun (y : Nat × List HP) => [(3, .int .i64 (y.1 + 1 : Nat)), (0, .func (.yield l) #[] #[]), (1, .pointer (some ⟨g, 0, none⟩))]) (fun y => many y.2 :: HI) (fun y => y.1 + 1 ≤ x.r.length ∧ SS y.1 y.2) (fun y => x.r.length - 1 - y.1) (0, L0) ⟨by show 0 + 1 ≤ _; omega, h0⟩ ?_ (fun w hw => hw) ?_
  · exact zu
  rintro ⟨i, L⟩ ⟨hile, hS⟩ K hK
  dsimp only at hile hS ⊢
  by_cases hlt : i + 1 < x.r.length
  · have hg := hok.good i hlt
    have hf := Yae hg
    have hfl := ZO hf
    have hlx : x.n.links[(YD x.n.net (x.r.getD i 0) (x.r.getD (i + 1) 0)).toNat]? = some (lnk x.n.net (YD x.n.net (x.r.getD i 0) (x.r.getD (i + 1) 0)).toNat) := Ycd x.n.net hfl
    have hla : UQ x.n.net x.r i = lnk x.n.net (YD x.n.net (x.r.getD i 0) (x.r.getD (i + 1) 0)).toNat := rfl
    have hg0 := Zt (l := x.r) (i := i) (by omega)
    have hg1 := Zt (l := x.r) (i := i + 1) (by omega)
    have hgi : ((((i + 1 : Nat) : Int) - 1).toNat) = i := by omega
    have hgi1 : (((i + 1 : Nat) : Int).toNat) = i + 1 := by omega
    have hll : (YD x.n.net (x.r.getD i 0) (x.r.getD (i + 1) 0)).toNat < x.n.links.length := hfl
    have p2 := fun {H' : List HP} {w : World} (hin : x.n.In B w0 H') (hw : St B w0 H' w) => p1 (x.r.getD i 0) (x.r.getD (i + 1) 0) hin hw
    rw [hix] at p2
    have hx : (XQ x)[i]? = some [lkV (UQ x.n.net x.r i)] := by
      unfold XQ; rw [List.getElem?_map, VN hlt]; rfl
    rw [hla] at hx
    obtain ⟨a, ha⟩ : ∃ a, x.r.getD i 0 = a := ⟨_, rfl⟩
    obtain ⟨b, hb⟩ : ∃ b, x.r.getD (i + 1) 0 = b := ⟨_, rfl⟩
    rw [ha] at hg0 p2 hlx hll hf hx
    rw [hb] at hg1 p2 hlx hll hf hx
    obtain ⟨z, hz⟩ : ∃ z, YD x.n.net a b = z := ⟨_, rfl⟩
    rw [hz] at p2 hlx hll hf hx
    obtain ⟨lk, hlk⟩ : ∃ k, lnk x.n.net z.toNat = k := ⟨_, rfl⟩
    rw [hlk] at hlx hx
    obtain ⟨R, hR1, hR2⟩ := YdN hm
    have hg0i : x.r[(((i + 1 : Nat) : Int) - 1).toNat]? = some a := by rw [hgi]; exact hg0
    have hg1i : x.r[((i + 1 : Nat) : Int).toNat]? = some b := by rw [hgi1]; exact hg1
    have hwb : ∀ w, St B w0 (many L :: (blk g (.cells #[.int .i64 x.n.nodes, .slice x.n.pA x.n.rows.length x.n.pcap, .int .i64 x.n.noise, .int .i64 x.n.thr, .slice x.n.lA x.n.links.length x.n.lcap, .slice x.n.mA x.n.margin.length x.n.mcap, .int .i64 x.s.len, .int .i64 x.s.off, .slice x.s.A x.s.cells.length x.s.cap, .int .i64 x.f.1, .int .i64 x.f.2.1, .int .i64 x.f.2.2.1, .int .i64 x.f.2.2.2.1, .int .i64 x.f.2.2.2.2.1, .int .i64 x.f.2.2.2.2.2, .slice x.A x.r.length x.cap, .int .i64 0] 151 (0, 0))) :: [many R]) w → St B w0 (many L :: HI) w := fun w hw => hw.perm (Perm.cons _ hR2)
    have hl0 : 0 ≤ lk.2.2 ∧ lk.2.2 ≤ 7 := by
      have h1 := (Y2 hck).lk z.toNat hll
      rw [← hlk]; exact ⟨h1.l0, h1.l1⟩
    have hiK : x.In B w0 [wayB g x, many R] := hi.mono fun w hw => hw.perm hR2
    have hrr := hiK.r
    have hlr := hiK.n.lk
    unfold wayB at hiK hrr hlr
    refine YfU (blk g (.cells #[.int .i64 x.n.nodes, .slice x.n.pA x.n.rows.length x.n.pcap, .int .i64 x.n.noise, .int .i64 x.n.thr, .slice x.n.lA x.n.links.length x.n.lcap, .slice x.n.mA x.n.margin.length x.n.mcap, .int .i64 x.s.len, .int .i64 x.s.off, .slice x.s.A x.s.cells.length x.s.cap, .int .i64 x.f.1, .int .i64 x.f.2.1, .int .i64 x.f.2.2.1, .int .i64 x.f.2.2.2.1, .int .i64 x.f.2.2.2.2.1, .int .i64 x.f.2.2.2.2.2, .slice x.A x.r.length x.cap, .int .i64 0] 151 (0, 0)) :: many L :: [many R]) (fun w hw => hw.perm ((Perm.cons _ hR1).trans (Perm.swap _ _ _))) ?_
    repeat' (first | apply (zs1 ?_) | (apply zg2; refine zs6 ?_) | (apply zg3; refine zs7 ?_) | (apply zg4; refine zs9 ?_) | (apply (zs17 ?_ ?_) <;> intro _ <;> try (exfalso; omega)) | apply (zs65 ?_) | apply (zs68 ?_) | apply (zs69 ?_) | apply (zs70 ?_) | (apply zg27; refine zs71 ?_) | apply (zs73 ?_) | apply (zs76 ?_) | fail)
    apply WQ (.n1 0 (.n1 1 (.n1 2 (.n1 3 (.n1 4 (.n1 5 (.n1 6 (.n1 7 (.n1 8 (.n1 9 (.n1 10 (.n1 11 (.n1 12 (.n1 13 (.n1 14 (.n1 15 (.n2 16 (.n1 17 (.n1 18 (.n1 19 .done))) 19 (.n1 16 (.n1 17 (.n1 18 .done)))))))))))))))))))) [20] [true, false, true]
    kernel_rfl
    kernel_rfl
    exact zy
    (simp only [Yi, nthO]; rfl)
    repeat' (first | (apply Y5 T; exact rfl; exact zm; exact rfl; exact zv; exact rfl; exact rfl) | apply (zs1 ?_) | (apply zg2; refine zs6 ?_) | (apply zg3; first | refine zs7 ?_ | refine zs60 ?_) | (apply zg5; refine zs57 ?_) | (apply zg14; refine zs31 ?_) | (apply zg24; (refine zs54 ?_; intro _)) | apply (zs65 ?_) | (apply Yp; exact zp) | apply (zs87 ?_) | (apply Ym; (repeat (first | with_reducible exact Yh | (with_reducible apply Yg; (repeat (first | with_reducible exact Yf | with_reducible apply Ye)))))) | apply (zs90 ?_) | apply (zs91 ?_ ?_) | (apply X5; (repeat (first | with_reducible exact Yh | (with_reducible apply Yg; (repeat (first | with_reducible exact Yf | with_reducible apply Ye)))))) | fail)
    all_goals (
      first | apply Ya en95 | apply Yb en95
      exact za
      exact rfl
      exact fun _ hw => (p2 (hiK.mono zk).n hw)
      repeat' (first | (refine Ycm 2 37 rfl rfl rfl (by rintro ⟨_, _, _, _, h, _⟩; cases h) ?_) | apply (zs1 ?_) | (apply zg2; refine zs6 ?_) | (apply zg3; first | refine zs7 ?_ | refine zs8 ?_ | refine zs61 ?_) | (apply zg5; refine zs57 ?_) | (apply zg13; refine zs30 ?_) | (apply zg22; first | refine zs50 ?_ | refine zs51 ?_) | (apply zg24; (refine zs54 ?_; intro _)) | apply (zs65 ?_) | (apply Yp; exact zp) | apply (zs68 ?_) | apply (zs69 ?_) | apply (zs70 ?_) | apply (zs87 ?_) | (apply Ym; (repeat (first | with_reducible exact Yh | (with_reducible apply Yg; (repeat (first | with_reducible exact Yf | with_reducible apply Ye)))))) | (apply WK; exact zp) | apply (zs90 ?_) | (apply X5; (repeat (first | with_reducible exact Yh | (with_reducible apply Yg; (repeat (first | with_reducible exact Yf | with_reducible apply Ye)))))) | apply (zs93 ?_) | apply (zs94 ?_) | fail)
      rename_i g5
      rw [show lk.2.2 + 0 = lk.2.2 from Int.add_zero _]
      apply Yj (blk g5 (.cells #[.int .i64 lk.1, .int .i64 lk.2.1, .int .i64 lk.2.2] 172 (0, 0)) :: many L :: HI)
      · intro w hw
        have h5 : St B w0 (blk g5 (.cells #[.int .i64 lk.1, .int .i64 lk.2.1, .int .i64 lk.2.2] 172 (0, 0)) :: many L :: blk g (.cells #[.int .i64 x.n.nodes, .slice x.n.pA x.n.rows.length x.n.pcap, .int .i64 x.n.noise, .int .i64 x.n.thr, .slice x.n.lA x.n.links.length x.n.lcap, .slice x.n.mA x.n.margin.length x.n.mcap, .int .i64 x.s.len, .int .i64 x.s.off, .slice x.s.A x.s.cells.length x.s.cap, .int .i64 x.f.1, .int .i64 x.f.2.1, .int .i64 x.f.2.2.1, .int .i64 x.f.2.2.2.1, .int .i64 x.f.2.2.2.2.1, .int .i64 x.f.2.2.2.2.2, .slice x.A x.r.length x.cap, .int .i64 0] 151 (0, 0)) :: [many R]) w := by
          revert w
          exact zk
        exact h5.perm (Perm.cons _ (Perm.cons _ hR2))
      have hY := hy _ _ hx [blk g5 (.cells #[.int .i64 lk.1, .int .i64 lk.2.1, .int .i64 lk.2.2] 172 (0, 0))] L hS
      apply Ybg _ _ (hy := hY)
      · exact U8
      · exact rfl
      · exact za
      · exact rfl
      · rintro ⟨_, _, _, _, h, _⟩; cases h
      · rintro _ ⟨L', hS', rfl⟩
        repeat' (first | apply (zs1 ?_) | apply (zs2 ?_) | (apply zg13; refine zs30 ?_) | (apply zg20; refine zs47 ?_) | apply (zs65 ?_) | apply (zs68 ?_) | apply (zs70 ?_) | (apply zg27; refine zs72 ?_) | apply (zs76 ?_) | apply (zs79 ?_) | fail)
        apply hK (i + 1, L')
        · exact ⟨by show i + 1 + 1 ≤ _; omega, hS'⟩
        · dsimp only; omega
        · exact zu
        · exact fun w hw => hw.tail
      · rintro _ ⟨L', hX', rfl⟩
        repeat' (first | (apply zg20; refine zs48 ?_) | apply (zs65 ?_) | apply (zs68 ?_) | (apply zg27; refine zs71 ?_) | apply (zs74 ?_) | apply (zs77 ?_) | apply (zs78 ?_) | fail)
        apply Yj (many L' :: HI)
        · exact fun w hw => hw.tail
        apply V4; exact rfl
        exact .inr ⟨L', hX', rfl⟩)
  · repeat' (first | apply (zs1 ?_) | (apply zg2; refine zs6 ?_) | (apply zg3; refine zs7 ?_) | (apply zg4; refine zs9 ?_) | (apply (zs17 ?_ ?_) <;> intro _ <;> try (exfalso; omega)) | apply (zs65 ?_) | apply (zs68 ?_) | apply (zs69 ?_) | apply (zs70 ?_) | (apply zg27; refine zs72 ?_) | apply (zs75 ?_) | apply (zs80 ?_) | apply (zs81 ?_) | fail)
    apply XW; exact rfl
    have hl0 : i = (XQ x).length := by unfold XQ; rw [List.length_map, Ju]; omega
    rw [hl0] at hS
    exact .inl ⟨L, hS, rfl⟩
def Ygr (g : Nat) : Value := .func (.func 285) #[] #[.pointer (some ⟨g, 0, none⟩)]
theorem Od (x : WayM) {B : Nat} {w0 : World} {H : List HP} {w : World} (hw : St B w0 H w) :
    Calls Tryz.prog 248 [x.val].toArray w (Post B w0 fun v K => ∃ g, v = Ygr g ∧ K = wayB g x :: H) := by
  refine Yd Tryz.func248 Tryz.ntmps248 rfl rfl hw ?_
  unfold WayM.val
  repeat' (first | apply (zs2 ?_) | (apply zg23; (refine zs52 ?_; intro _)) | apply (zs65 ?_) | apply (zs68 ?_) | apply (zs69 ?_) | apply (zs70 ?_) | apply (zs74 ?_) | (apply zg29; (apply Yo; exact za ; exact rfl)) | fail)
  apply Yc; exact rfl; exact rfl
  exact ⟨_, rfl, rfl⟩
open Go.RowKit Go.Eng Go.Nw Go.Rt
theorem Yce (x : WayM) (l : Lk) (g gl : Nat) (c : Cel) {B : Nat} {w0 : World} {H : List HP} {w : World} (hm : wayB g x ∈ H) (hml : blk gl (.cells #[.int .i64 l.1, .int .i64 l.2.1, .int .i64 l.2.2] 172 (0, 0)) ∈ H) (hw : St B w0 H w) :
    Calls Tryz.prog 287 [celV c, .pointer (some ⟨g, 0, none⟩), .pointer (some ⟨gl, 0, none⟩)].toArray w (Post B w0 fun v K => v = .bool (!(onP x.f.1 l.1 l.2.1 c)) ∧ K = H) := by
  refine Yd Tryz.func287 Tryz.ntmps287 rfl rfl hw ?_
  unfold wayB at hm
  have hb : onP x.f.1 l.1 l.2.1 c = true ↔ c.2.2.2.2 = x.f.1 ∧ c.2.2.1 = l.1 ∧ c.2.2.2.1 = l.2.1 := by unfold onP V8 YM toC; rw [decide_eq_true_eq]
  obtain ⟨b, hbe⟩ : ∃ b, onP x.f.1 l.1 l.2.1 c = b := ⟨_, rfl⟩
  rw [hbe] at hb ⊢
  repeat' (first | apply (zs1 ?_) | apply (zs2 ?_) | (apply zg1; first | refine zs3 ?_ | refine zs4 ?_) | (apply zg2; refine zs6 ?_) | (apply zg3; refine zs7 ?_) | (apply zg6; first | refine zs11 ?_ | refine zs12 ?_) | (apply zg8; (refine zs16 ?_ ?_ <;> intro _ <;> try (exfalso; omega))) | (apply zg23; (refine zs52 ?_; intro _)) | apply (zs65 ?_) | apply (zs68 ?_) | apply (zs69 ?_) | apply (zs70 ?_) | apply (zs74 ?_) | fail)
  all_goals (
    apply Yj H
    · exact zk
    apply Yc; exact rfl; exact rfl
    cases b <;> simp at hb <;> first | exact ⟨rfl, rfl⟩ | (exfalso; omega))
set_option maxRecDepth 10000 in
theorem Ycy (x : WayM) (l : Lk) (hfew : x.s.cells.length ≤ 1000) {B : Nat} {w0 : World} {H : List HP} {w : World} (hr : Rd B w0 H x.s.A (x.s.cells.flatMap celF)) (hw : St B w0 H w) :
    Calls Tryz.prog 249 [x.val, lkV l].toArray w (Post B w0 fun v K => ∃ A cap, v = .slice A (VJ x.s.sch x.f.1 l).length cap ∧ K = cels A cap (VJ x.s.sch x.f.1 l) :: H) := by
  refine Yd Tryz.func249 Tryz.ntmps249 rfl rfl hw ?_
  unfold WayM.val lkV
  repeat' (first | apply (zs2 ?_) | (apply zg2; refine zs6 ?_) | (apply zg3; refine zs7 ?_) | (apply zg23; (refine zs52 ?_; intro _)) | apply (zs65 ?_) | apply (zs68 ?_) | apply (zs69 ?_) | apply (zs70 ?_) | fail)
  rename_i gw gl
  apply Ys _ en64
  exact za
  exact rfl
  exact fun _ hw => (Ybi x.s.cells (by omega) hr.cons.cons (hw))
  rintro _ _ ⟨A', cap', rfl, rfl⟩
  repeat' (first | (apply zg29; (apply Yo; exact za ; exact rfl)) | fail)
  apply Ys _ YhS
  exact za
  exact rfl
  exact fun _ hw => (Ycs (fun c => !(onP x.f.1 l.1 l.2.1 c)) x.s.cells 287 [.pointer (some ⟨gw, 0, none⟩), .pointer (some ⟨gl, 0, none⟩)] YhE hfew (fun c _ X w hw => Yce x l gw gl c (List.mem_append_right _ (by unfold wayB; exact zm)) (List.mem_append_right _ zm) hw) (hw))
  rintro _ _ ⟨rfl, rfl⟩
  have e : x.s.cells.filter (fun c => !!(onP x.f.1 l.1 l.2.1 c)) = VJ x.s.sch x.f.1 l := List.filter_congr fun c _ => Bool.not_not _
  rw [e]
  repeat' (first | apply (zs2 ?_) | apply (zs65 ?_) | apply (zs68 ?_) | apply (zs74 ?_) | fail)
  apply Yj (cels A' cap' (VJ x.s.sch x.f.1 l) :: H)
  · exact zk
  apply Yc; exact rfl; exact rfl
  exact ⟨A', cap', rfl, rfl⟩
theorem V2 {x : WayM} (hok : JW x) {i : Nat} {l : Lk} (h : (YB x.n.net x.r)[i]? = some l) : i + 1 < x.r.length ∧ 0 ≤ l.2.2 ∧ l.2.2 ≤ 7 := by
  have hi := (List.getElem?_eq_some_iff.1 h).1
  rw [Ju] at hi
  have hi : i + 1 < x.r.length := by omega
  rw [VN hi] at h
  have hg := hok.good i hi
  have h1 := (Y2 hok.ck).lk _ (ZO (Yae hg))
  have e := Option.some.inj h
  unfold UQ at e
  have h2 := h1.l0; have h3 := h1.l1
  rw [e] at h2 h3
  exact ⟨hi, h2, h3⟩
theorem Q0 {ls : List Lk} {i : Nat} {l : Lk} (h : ls[i]? = some l) : Xc (ls.take (i + 1)) = Xc (ls.take i) + YX l := by
  unfold Xc
  rw [List.take_add_one, h, List.map_append, List.sum_append]
  simp
theorem Jq {x : WayM} {i : Nat} {args : List Value} (h : (XQ x)[i]? = some args) : ∃ l, (YB x.n.net x.r)[i]? = some l ∧ args = [lkV l] := by
  unfold XQ at h
  rw [List.getElem?_map] at h
  cases hl : (YB x.n.net x.r)[i]? with
  | none => rw [hl] at h; cases h
  | some l => rw [hl] at h; exact ⟨l, rfl, (Option.some.inj h).symm⟩
theorem WL {x : WayM} (hok : JW x) : ∀ i, Xc ((YB x.n.net x.r).take i) ≤ 8 * i
  | 0 => Nat.le_refl _
  | i + 1 => by
    have ih := WL hok i
    cases h : (YB x.n.net x.r)[i]? with
    | none =>
      have := List.getElem?_eq_none_iff.1 h
      rw [List.take_of_length_le (by omega)] at ih ⊢
      omega
    | some l =>
      rw [Q0 h]
      have := V2 hok h
      unfold YX
      omega
set_option maxRecDepth 10000 in
set_option maxHeartbeats 1000000 in
theorem Ycb (x : WayM) (hok : JW x) {B : Nat} {w0 : World} {H : List HP} {w : World} (hi : x.In B w0 H) (hw : St B w0 H w) :
    Calls Tryz.prog 208 [x.val].toArray w (Post B w0 fun v K => v = .int .i64 (Xc (YB x.n.net x.r)) ∧ K = H) := by
  refine Xz Tryz.func208 Tryz.ntmps208 rfl rfl hw ?_
  unfold WayM.val
  repeat' (first | apply (zs2 ?_) | (apply zg3; refine zs8 ?_) | (apply zg22; refine zs50 ?_) | (apply zg23; (refine zs52 ?_; intro _)) | (apply zg24; (refine zs54 ?_; intro _)) | apply (zs65 ?_) | apply (zs68 ?_) | apply (zs69 ?_) | apply (zs70 ?_) | fail)
  rename_i g gN
  apply Ys _ Yg0
  exact za
  exact rfl
  exact fun _ hw => (Od x (hw))
  rintro _ _ ⟨g2, rfl, rfl⟩
  repeat' (first | apply (zs65 ?_) | apply (zs68 ?_) | apply (zs73 ?_) | fail)
  have hl9 := hok.len
  have hiK : x.In B w0 (wayB g2 x :: wayB g x :: H) := hi.cons.cons
  refine XC (gf := 285) (lb := [.pointer (some ⟨g2, 0, none⟩)]) (xs := XQ x) (wayB g2 x :: wayB g x :: H) (fun z : Int => [blk gN (.cells #[.int .i64 z] 3 (0, 0))]) (fun i z => z = (Xc ((YB x.n.net x.r).take i) : Int)) (fun _ _ => False) 0 rfl YgR (Wq x g2 hok hiK (.head _)) rfl ?_ (by kernel_rfl) (by kernel_rfl) ?_ rfl ?_ ?_ (fun _ _ _ h => h.elim)
  · intro args h
    obtain ⟨k, hk⟩ := List.mem_iff_getElem?.1 h
    obtain ⟨l, _, rfl⟩ := Jq hk
    rfl
  · unfold wayB
    simp only [List.cons_append, List.nil_append]
    exact zk
  · rintro l k args R z hk hI
    obtain ⟨lk, hlk, rfl⟩ := Jq hk
    have hbd := V2 hok hlk
    have hne := WL hok k
    have hst := Q0 hlk
    try dsimp only at hI
    dsimp only [J2, List.cons_append, List.nil_append]
    unfold lkV
    repeat' (first | (apply zg22; refine zs51 ?_) | (apply zg24; (refine zs54 ?_; intro _)) | apply (zs65 ?_) | apply (zs70 ?_) | fail)
    apply Z3 (Ye Yf)
    intro R'
    unfold wayB
    repeat' (first | (apply zg2; refine zs6 ?_) | (apply zg3; refine zs7 ?_) | (apply zg13; refine zs30 ?_) | (apply zg22; refine zs50 ?_) | apply (zs65 ?_) | apply (zs70 ?_) | apply (zs73 ?_) | apply (zs79 ?_) | fail)
    apply JF (z + (lk.2.2 + 1))
    · show z + (lk.2.2 + 1) = _
      rw [hI, hst]
      unfold YX
      omega
    · dsimp only [List.cons_append, List.nil_append]
      exact zk
  · rintro D z hI
    try dsimp only at hI
    have hle : (XQ x).length = (YB x.n.net x.r).length := by unfold XQ; rw [List.length_map]
    rw [hle, List.take_length] at hI
    dsimp only [List.cons_append, List.nil_append]
    unfold wayB
    repeat' (first | apply (zs2 ?_) | (apply zg3; refine zs7 ?_) | apply (zs65 ?_) | apply (zs68 ?_) | apply (zs69 ?_) | apply (zs70 ?_) | apply (zs74 ?_) | apply (zs79 ?_) | fail)
    apply XY Yf
    apply VQ_m
    apply Yj H
    · exact zk
    apply Yc; exact rfl; exact rfl
    exact ⟨by rw [hI], rfl⟩
open Go.RowKit Go.Eng Go.Nw Go.Rt
theorem Xx (l m : List Int) (hlen : l.length ≤ 1000000000000) (_hlen2 : m.length ≤ 1000000000000) {A A2 : Option Addr} {cap cap2 B : Nat} {w0 : World} {H : List HP} {w : World} (hr : Rd B w0 H A (l.flatMap numF)) (hr2 : Rd B w0 H A2 (m.flatMap numF)) (hw : St B w0 H w) :
    Calls Tryz.prog 126 [.slice A l.length cap, .slice A2 m.length cap2].toArray w (Post B w0 fun u K => u = .bool (decide (l = m)) ∧ K = H) := by
  refine Yd Tryz.func126 Tryz.ntmps126 rfl rfl hw ?_
  by_cases hll : l.length = m.length
  rotate_left
  · repeat' (first | apply (zs1 ?_) | apply (zs2 ?_) | (apply zg4; refine zs9 ?_) | (apply zg8; (refine zs16 ?_ ?_ <;> intro _ <;> try (exfalso; omega))) | apply (zs65 ?_) | apply (zs68 ?_) | apply (zs69 ?_) | apply (zs70 ?_) | (apply zg27; refine zs71 ?_) | apply (zs74 ?_) | apply (zs77 ?_) | fail)
    apply Yc; exact rfl; exact rfl
    exact ⟨by rw [decide_eq_false fun e => hll (by rw [e])], rfl⟩
  repeat' (first | apply (zs1 ?_) | apply (zs2 ?_) | (apply zg4; refine zs9 ?_) | (apply zg8; (refine zs16 ?_ ?_ <;> intro _ <;> try (exfalso; omega))) | apply (zs65 ?_) | apply (zs68 ?_) | apply (zs69 ?_) | apply (zs70 ?_) | (apply zg27; refine zs72 ?_) | apply (zs73 ?_) | apply (zs76 ?_) | fail)
  refine Yk (fun (k : Nat) => [(5, .int .i64 k), (0, .slice A l.length cap), (1, .slice A2 m.length cap2)]) (fun _ => H) (fun k => k ≤ l.length ∧ l.take k = m.take k) (fun k => l.length - k) 0 ⟨Nat.zero_le _, by simp⟩ ?_ (fun w hw => hw) ?_
  · exact zu
  rintro k ⟨hk, hi⟩ K hK
  by_cases hlt : k < l.length
  · obtain ⟨a, ha⟩ : ∃ a, l[k]? = some a := ⟨_, List.getElem?_eq_getElem hlt⟩
    obtain ⟨b, hb⟩ : ∃ b, m[k]? = some b := ⟨_, List.getElem?_eq_getElem (by omega)⟩
    by_cases hab : a = b
    · repeat' (first | apply (zs1 ?_) | apply (zs2 ?_) | (apply zg3; refine zs60 ?_) | (apply zg4; refine zs9 ?_) | (apply zg5; refine zs57 ?_) | (apply zg8; (refine zs16 ?_ ?_ <;> intro _ <;> try (exfalso; omega))) | (apply (zs17 ?_ ?_) <;> intro _ <;> try (exfalso; omega)) | (apply zg13; refine zs30 ?_) | apply (zs65 ?_) | apply (zs66 ?_) | apply (zs68 ?_) | apply (zs69 ?_) | apply (zs70 ?_) | (apply zg27; first | refine zs71 ?_ | refine zs72 ?_) | apply (zs73 ?_) | apply (zs76 ?_) | apply (zs79 ?_) | (apply zg28; refine zs83 ?_) | fail)
      apply hK (k + 1)
      · exact ⟨by omega, by rw [Zr ha, Zr hb, hi, hab]⟩
      · omega
      · exact zu
      · exact fun w hw => hw
    · repeat' (first | apply (zs1 ?_) | apply (zs2 ?_) | (apply zg3; refine zs60 ?_) | (apply zg4; refine zs9 ?_) | (apply zg5; refine zs57 ?_) | (apply zg8; (refine zs16 ?_ ?_ <;> intro _ <;> try (exfalso; omega))) | (apply (zs17 ?_ ?_) <;> intro _ <;> try (exfalso; omega)) | apply (zs65 ?_) | apply (zs66 ?_) | apply (zs68 ?_) | apply (zs69 ?_) | apply (zs70 ?_) | (apply zg27; refine zs71 ?_) | apply (zs73 ?_) | apply (zs74 ?_) | apply (zs76 ?_) | apply (zs77 ?_) | apply (zs78 ?_) | (apply zg28; refine zs83 ?_) | fail)
      apply Yc; exact rfl; exact rfl
      exact ⟨by rw [decide_eq_false fun e => by rw [e, hb] at ha; exact hab (Option.some.inj ha).symm], rfl⟩
  · repeat' (first | apply (zs1 ?_) | apply (zs2 ?_) | (apply zg4; refine zs9 ?_) | (apply (zs17 ?_ ?_) <;> intro _ <;> try (exfalso; omega)) | apply (zs65 ?_) | apply (zs68 ?_) | apply (zs69 ?_) | apply (zs70 ?_) | (apply zg27; refine zs72 ?_) | apply (zs74 ?_) | apply (zs75 ?_) | apply (zs80 ?_) | apply (zs81 ?_) | fail)
    apply Yc; exact rfl; exact rfl
    rw [List.take_of_length_le (by omega), List.take_of_length_le (by omega)] at hi
    exact ⟨by rw [decide_eq_true hi], rfl⟩
theorem WC (l m : List RowM) (hlen : l.length ≤ 1000000000000) (_hlen2 : m.length ≤ 1000000000000) (hl2 : ∀ r ∈ l, r.xs.length ≤ 1000000000000) (hm2 : ∀ r ∈ m, r.xs.length ≤ 1000000000000) {A A2 : Option Addr} {cap cap2 B : Nat} {w0 : World} {H : List HP} {w : World} (hr : Rd B w0 H A (l.flatMap rowF)) (hr2 : Rd B w0 H A2 (m.flatMap rowF)) (hrl : ∀ r ∈ l, Rd B w0 H r.A (r.xs.flatMap numF)) (hrm : ∀ r ∈ m, Rd B w0 H r.A (r.xs.flatMap numF)) (hw : St B w0 H w) :
    Calls Tryz.prog 129 [.slice A l.length cap, .slice A2 m.length cap2].toArray w (Post B w0 fun u K => u = .bool (decide (l.map (·.xs) = m.map (·.xs))) ∧ K = H) := by
  refine Yd Tryz.func129 Tryz.ntmps129 rfl rfl hw ?_
  by_cases hll : l.length = m.length
  rotate_left
  · repeat' (first | apply (zs1 ?_) | apply (zs2 ?_) | (apply zg4; refine zs9 ?_) | (apply zg8; (refine zs16 ?_ ?_ <;> intro _ <;> try (exfalso; omega))) | apply (zs65 ?_) | apply (zs68 ?_) | apply (zs69 ?_) | apply (zs70 ?_) | (apply zg27; refine zs71 ?_) | apply (zs74 ?_) | apply (zs77 ?_) | fail)
    apply Yc; exact rfl; exact rfl
    exact ⟨by rw [decide_eq_false fun e => hll (by have := congrArg List.length e; simpa using this)], rfl⟩
  repeat' (first | apply (zs1 ?_) | apply (zs2 ?_) | (apply zg4; refine zs9 ?_) | (apply zg8; (refine zs16 ?_ ?_ <;> intro _ <;> try (exfalso; omega))) | apply (zs65 ?_) | apply (zs68 ?_) | apply (zs69 ?_) | apply (zs70 ?_) | (apply zg27; refine zs72 ?_) | apply (zs73 ?_) | apply (zs76 ?_) | fail)
  refine Yk (fun (k : Nat) => [(5, .int .i64 k), (0, .slice A l.length cap), (1, .slice A2 m.length cap2)]) (fun _ => H) (fun k => k ≤ l.length ∧ (l.take k).map (·.xs) = (m.take k).map (·.xs)) (fun k => l.length - k) 0 ⟨Nat.zero_le _, by simp⟩ ?_ (fun w hw => hw) ?_
  · exact zu
  rintro k ⟨hk, hi⟩ K hK
  by_cases hlt : k < l.length
  · obtain ⟨a, ha⟩ : ∃ a, l[k]? = some a := ⟨_, List.getElem?_eq_getElem hlt⟩
    obtain ⟨b, hb⟩ : ∃ b, m[k]? = some b := ⟨_, List.getElem?_eq_getElem (by omega)⟩
    have ham := List.mem_of_getElem? ha
    have hbm := List.mem_of_getElem? hb
    have hss := fun {w : World} (hw : St B w0 H w) => Xx a.xs b.xs (cap := a.cap) (cap2 := b.cap) (hl2 a ham) (hm2 b hbm) (hrl a ham) (hrm b hbm) hw
    by_cases hab : a.xs = b.xs
    · rw [decide_eq_true hab] at hss
      repeat' (first | ((first | apply Ya Xh | apply Yb Xh); exact za; exact rfl; exact fun _ hw => (hss hw)) | apply (zs1 ?_) | apply (zs2 ?_) | (apply zg3; refine zs60 ?_) | (apply zg4; refine zs9 ?_) | (apply zg5; refine zs57 ?_) | (apply (zs17 ?_ ?_) <;> intro _ <;> try (exfalso; omega)) | (apply zg13; refine zs30 ?_) | (apply zg20; refine zs47 ?_) | apply (zs65 ?_) | apply (zs66 ?_) | apply (zs68 ?_) | apply (zs69 ?_) | apply (zs70 ?_) | (apply zg27; first | refine zs71 ?_ | refine zs72 ?_) | apply (zs73 ?_) | apply (zs76 ?_) | apply (zs79 ?_) | (apply zg28; refine zs84 ?_) | fail)
      apply hK (k + 1)
      · exact ⟨by omega, by rw [List.take_add_one, List.take_add_one, ha, hb, List.map_append, List.map_append, hi]; simp [hab]⟩
      · omega
      · exact zu
      · exact fun w hw => hw
    · rw [decide_eq_false hab] at hss
      repeat' (first | ((first | apply Ya Xh | apply Yb Xh); exact za; exact rfl; exact fun _ hw => (hss hw)) | apply (zs1 ?_) | apply (zs2 ?_) | (apply zg3; refine zs60 ?_) | (apply zg4; refine zs9 ?_) | (apply zg5; refine zs57 ?_) | (apply (zs17 ?_ ?_) <;> intro _ <;> try (exfalso; omega)) | (apply zg20; refine zs48 ?_) | apply (zs65 ?_) | apply (zs66 ?_) | apply (zs68 ?_) | apply (zs69 ?_) | apply (zs70 ?_) | (apply zg27; refine zs71 ?_) | apply (zs73 ?_) | apply (zs74 ?_) | apply (zs76 ?_) | apply (zs77 ?_) | apply (zs78 ?_) | (apply zg28; refine zs84 ?_) | fail)
      apply Yc; exact rfl; exact rfl
      have hne : ¬ (l.map (·.xs) = m.map (·.xs)) := fun e => by
        have h1 : (l.map (·.xs))[k]? = (m.map (·.xs))[k]? := by rw [e]
        rw [List.getElem?_map, List.getElem?_map, ha, hb] at h1
        exact hab (Option.some.inj h1)
      exact ⟨by rw [decide_eq_false hne], rfl⟩
  · repeat' (first | apply (zs1 ?_) | apply (zs2 ?_) | (apply zg4; refine zs9 ?_) | (apply (zs17 ?_ ?_) <;> intro _ <;> try (exfalso; omega)) | apply (zs65 ?_) | apply (zs68 ?_) | apply (zs69 ?_) | apply (zs70 ?_) | (apply zg27; refine zs72 ?_) | apply (zs74 ?_) | apply (zs75 ?_) | apply (zs80 ?_) | apply (zs81 ?_) | fail)
    apply Yc; exact rfl; exact rfl
    rw [List.take_of_length_le (by omega), List.take_of_length_le (by omega)] at hi
    exact ⟨by rw [decide_eq_true hi], rfl⟩
def rowQ (r : RowM) : HP := ints r.A r.cap r.xs
open Go.RowKit Go.Eng Go.Nw Go.Rt
structure RqM where
  f : Flw
  A : Option Addr
  cap : Nat
  rows : List RowM
def rqF (x : RqM) : List Value := [.int .i64 x.f.1, .int .i64 x.f.2.1, .int .i64 x.f.2.2.1, .int .i64 x.f.2.2.2.1, .int .i64 x.f.2.2.2.2.1, .int .i64 x.f.2.2.2.2.2, .slice x.A x.rows.length x.cap]
def rqV (x : RqM) : Value := .agg #[.int .i64 x.f.1, .int .i64 x.f.2.1, .int .i64 x.f.2.2.1, .int .i64 x.f.2.2.2.1, .int .i64 x.f.2.2.2.2.1, .int .i64 x.f.2.2.2.2.2, .slice x.A x.rows.length x.cap]
def RqM.rq (x : RqM) : Rqs := (x.f, x.rows.map (·.xs))
abbrev netA (g : Nat) (n : NetM) : HP := blk g (.cells #[.int .i64 n.nodes, .slice n.pA n.rows.length n.pcap, .int .i64 n.noise, .int .i64 n.thr, .slice n.lA n.links.length n.lcap, .slice n.mA n.margin.length n.mcap] 26 (0, 0))
abbrev schA (g : Nat) (s : SchM) : HP := blk g (.cells #[.int .i64 s.len, .int .i64 s.off, .slice s.A s.cells.length s.cap] 30 (0, 0))
abbrev rqA (g : Nat) (x : RqM) : HP := blk g (.cells #[.int .i64 x.f.1, .int .i64 x.f.2.1, .int .i64 x.f.2.2.1, .int .i64 x.f.2.2.2.1, .int .i64 x.f.2.2.2.2.1, .int .i64 x.f.2.2.2.2.2, .slice x.A x.rows.length x.cap] 70 (0, 0))
structure RqM.In (B : Nat) (w0 : World) (H : List HP) (x : RqM) : Prop where
  rt : Rd B w0 H x.A (x.rows.flatMap rowF)
  rw_ : ∀ r ∈ x.rows, Rd B w0 H r.A (r.xs.flatMap numF)
  ln : x.rows.length ≤ 1000000000000
  rl : ∀ r ∈ x.rows, r.xs.length ≤ 1000000000000 ∧ r.xs.length ≤ r.cap
theorem RqM.In.mono {B : Nat} {w0 : World} {H H' : List HP} {x : RqM} (h : x.In B w0 H) (hH : ∀ w, St B w0 H' w → St B w0 H w) : x.In B w0 H' := ⟨h.rt.mono hH, fun r hr => (h.rw_ r hr).mono hH, h.ln, h.rl⟩
theorem RqM.In.cons {B : Nat} {w0 : World} {H : List HP} {X : HP} {x : RqM} (h : x.In B w0 H) : x.In B w0 (X :: H) := h.mono fun _ hw => hw.tail
structure QIn (B : Nat) (w0 : World) (H : List HP) (A : Option Addr) (q : List RqM) : Prop where
  rd : Rd B w0 H A (q.flatMap rqF)
  x : ∀ x ∈ q, x.In B w0 H
  ln : q.length ≤ 1000000000000
theorem QIn.mono {B : Nat} {w0 : World} {H H' : List HP} {A : Option Addr} {q : List RqM} (h : QIn B w0 H A q) (hH : ∀ w, St B w0 H' w → St B w0 H w) : QIn B w0 H' A q := ⟨h.rd.mono hH, fun x hx => (h.x x hx).mono hH, h.ln⟩
theorem QIn.cons {B : Nat} {w0 : World} {H : List HP} {X : HP} {A : Option Addr} {q : List RqM} (h : QIn B w0 H A q) : QIn B w0 (X :: H) A q := h.mono fun _ hw => hw.tail
structure ClM where
  flow : Int
  rA : Option Addr
  rcap : Nat
  rs : List RowM
  bA : Option Addr
  bcap : Nat
  bs : List Int
  wA : Option Addr
  wcap : Nat
  ws : List Int
  sA : Option Addr
  scap : Nat
  ss : List RowM
def clF (c : ClM) : List Value := [.int .i64 c.flow, .slice c.rA c.rs.length c.rcap, .slice c.bA c.bs.length c.bcap, .slice c.wA c.ws.length c.wcap, .slice c.sA c.ss.length c.scap]
def clV (c : ClM) : Value := .agg #[.int .i64 c.flow, .slice c.rA c.rs.length c.rcap, .slice c.bA c.bs.length c.bcap, .slice c.wA c.ws.length c.wcap, .slice c.sA c.ss.length c.scap]
def ClM.clm (c : ClM) : Clm := ⟨c.flow, c.rs.map (·.xs), c.bs, c.ws, c.ss.map (·.xs)⟩
structure ClM.In (B : Nat) (w0 : World) (H : List HP) (c : ClM) : Prop where
  rt : Rd B w0 H c.rA (c.rs.flatMap rowF)
  rw_ : ∀ r ∈ c.rs, Rd B w0 H r.A (r.xs.flatMap numF)
  bd : Rd B w0 H c.bA (c.bs.flatMap numF)
  ws : Rd B w0 H c.wA (c.ws.flatMap numF)
  st : Rd B w0 H c.sA (c.ss.flatMap rowF)
  sw : ∀ r ∈ c.ss, Rd B w0 H r.A (r.xs.flatMap numF)
  ln : c.rs.length ≤ 1000000000000 ∧ c.bs.length ≤ 1000000000000 ∧ c.ws.length ≤ 1000000000000 ∧ c.ss.length ≤ 1000000000000
  rl : ∀ r ∈ c.rs, r.xs.length ≤ 1000000000000
  sl : ∀ r ∈ c.ss, r.xs.length ≤ 1000000000000
theorem ClM.In.mono {B : Nat} {w0 : World} {H H' : List HP} {c : ClM} (h : c.In B w0 H) (hH : ∀ w, St B w0 H' w → St B w0 H w) : c.In B w0 H' :=
  ⟨h.rt.mono hH, fun r hr => (h.rw_ r hr).mono hH, h.bd.mono hH, h.ws.mono hH, h.st.mono hH, fun r hr => (h.sw r hr).mono hH, h.ln, h.rl, h.sl⟩
theorem ClM.In.cons {B : Nat} {w0 : World} {H : List HP} {X : HP} {c : ClM} (h : c.In B w0 H) : c.In B w0 (X :: H) := h.mono fun _ hw => hw.tail
structure CIn (B : Nat) (w0 : World) (H : List HP) (A : Option Addr) (c : List ClM) : Prop where
  rd : Rd B w0 H A (c.flatMap clF)
  x : ∀ x ∈ c, x.In B w0 H
  ln : c.length ≤ 1000000000000
theorem CIn.mono {B : Nat} {w0 : World} {H H' : List HP} {A : Option Addr} {c : List ClM} (h : CIn B w0 H A c) (hH : ∀ w, St B w0 H' w → St B w0 H w) : CIn B w0 H' A c := ⟨h.rd.mono hH, fun x hx => (h.x x hx).mono hH, h.ln⟩
theorem CIn.cons {B : Nat} {w0 : World} {H : List HP} {X : HP} {A : Option Addr} {c : List ClM} (h : CIn B w0 H A c) : CIn B w0 (X :: H) A c := h.mono fun _ hw => hw.tail
def clP (c : ClM) : List HP := [sl 72 1 c.rA c.rs.length c.rcap (c.rs.flatMap rowF), many (c.rs.map rowQ), nrs c.bA c.bcap c.bs, nrs c.wA c.wcap c.ws, sl 24 1 c.sA c.ss.length c.scap (c.ss.flatMap rowF), many (c.ss.map rowQ)]
def clQ (c : ClM) : HP := many (clP c)
def nilC (f : Int) : ClM := ⟨f, none, 0, [], none, 0, [], none, 0, [], none, 0, []⟩
theorem Yhl {c : ClM} {B : Nat} {w0 : World} {H : List HP} (hm : clQ c ∈ H) (hl : (c.rs.length ≤ 1000000000000 ∧ c.bs.length ≤ 1000000000000 ∧ c.ws.length ≤ 1000000000000 ∧ c.ss.length ≤ 1000000000000) ∧ (∀ r ∈ c.rs, r.xs.length ≤ 1000000000000) ∧ ∀ r ∈ c.ss, r.xs.length ≤ 1000000000000) : c.In B w0 H := by
  have hb : ∀ w, St B w0 H w → St B w0 (clP c) w := fun w hw => hw.inM hm
  refine ClM.In.mono (H := clP c) ?_ hb
  unfold clP
  refine ⟨.sl (.head _), fun r hr => ?_, .sl (.tail _ (.tail _ (.head _))), .sl (.tail _ (.tail _ (.tail _ (.head _)))), .sl (.tail _ (.tail _ (.tail _ (.tail _ (.head _))))), fun r hr => ?_, hl.1, hl.2.1, hl.2.2⟩
  · exact Rd.many (L := c.rs.map rowQ) (.tail _ (.head _)) (List.mem_map_of_mem hr)
  · exact Rd.many (L := c.ss.map rowQ) (.tail _ (.tail _ (.tail _ (.tail _ (.tail _ (.head _)))))) (List.mem_map_of_mem hr)
theorem Oz {B : Nat} {w0 w : World} {H : List HP} (f : Int) (h : St B w0 H w) : St B w0 (clQ (nilC f) :: H) w := by
  unfold clQ clP nilC
  dsimp only [List.flatMap_nil, List.map_nil, List.length_nil]
  have h1 := (h.perm (.noMany H)).nilSlice 24 1
  have h2 := (((h1.nilSlice 3 1).nilSlice 3 1).perm (.noMany _)).nilSlice 72 1
  exact h2.perm (.close [_, _, _, _, _, _] H)
open Go.RowKit Go.Eng Go.Nw Go.Rt
abbrev flws (A : Option Addr) (cap : Nat) (l : List Flw) : HP := sl 68 6 A l.length cap (l.flatMap flwF)
theorem YdM (A : Option Addr) (cap : Nat) (l : List Flw) (f : Flw) : sl 68 6 A (l.length + 1) cap (l.flatMap flwF ++ #[.int .i64 f.1, .int .i64 f.2.1, .int .i64 f.2.2.1, .int .i64 f.2.2.2.1, .int .i64 f.2.2.2.2.1, .int .i64 f.2.2.2.2.2].toList) = flws A cap (l ++ [f]) := by simp [flws, List.flatMap_append, flwF]
structure FlM where
  i : Nat
  A : Option Addr
  cap : Nat
def RqM.fl (q : List RqM) : List Flw := q.map (·.f)
set_option maxRecDepth 10000 in
theorem Wg (q : List RqM) {A : Option Addr} {cap B : Nat} {w0 : World} {H : List HP} {w : World} (hl : q.length ≤ 1000000000000) (hr : Rd B w0 H A (q.flatMap rqF)) (hw : St B w0 H w) :
    Calls Tryz.prog 68 [.slice A q.length cap].toArray w (Post B w0 fun v K => ∃ A2 cap2, v = .slice A2 (RqM.fl q).length cap2 ∧ K = flws A2 cap2 (RqM.fl q) :: H) := by
  refine Yd Tryz.func68 Tryz.ntmps68 rfl rfl hw ?_
  repeat' (first | apply (zs1 ?_) | apply (zs2 ?_) | (apply zg4; refine zs9 ?_) | apply (zs65 ?_) | apply (zs68 ?_) | apply (zs69 ?_) | apply (zs70 ?_) | apply (zs73 ?_) | fail)
  refine ZS 68 6 ?_
  refine Yk (fun z : FlM => [(8, .int .i64 (z.i : Nat)), (7, .int .i64 q.length), (6, .slice A q.length cap), (3, .slice z.A (RqM.fl (q.take z.i)).length z.cap)]) (fun z => flws z.A z.cap (RqM.fl (q.take z.i)) :: H) (fun z => z.i ≤ q.length) (fun z => q.length - z.i) ⟨0, none, 0⟩ (Nat.zero_le _) ?_ (fun w hw => hw) ?_
  · exact zu
  rintro ⟨i, A2, cap2⟩ hi K hK
  dsimp only at hi ⊢
  have hlen : (RqM.fl (q.take i)).length = i := by unfold RqM.fl; rw [List.length_map, List.length_take]; omega
  have hr' := hr.cons (X := flws A2 cap2 (RqM.fl (q.take i)))
  by_cases hlt : i < q.length
  · obtain ⟨x, hx⟩ : ∃ x, q[i]? = some x := ⟨_, List.getElem?_eq_getElem hlt⟩
    have hst : RqM.fl (q.take (i + 1)) = RqM.fl (q.take i) ++ [x.f] := by unfold RqM.fl; rw [List.take_add_one, hx, Option.toList_some, List.map_append]; rfl
    repeat' (first | (apply Y5 T; exact rfl; exact zm; exact rfl; exact zv; exact rfl; exact rfl) | apply (zs1 ?_) | apply (zs2 ?_) | (apply zg2; refine zs6 ?_) | (apply zg3; refine zs61 ?_) | (apply zg5; refine zs57 ?_) | (apply (zs17 ?_ ?_) <;> intro _ <;> try (exfalso; omega)) | (apply zg13; refine zs30 ?_) | (apply zg21; (refine zs49 ?_; intro _ _)) | (apply zg22; refine zs51 ?_) | (apply zg24; (refine zs54 ?_; intro _)) | (apply zg26; (refine zs56 ?_; intro _)) | apply (zs65 ?_) | apply (zs68 ?_) | apply (zs69 ?_) | apply (zs70 ?_) | (apply zg27; refine zs71 ?_) | apply (zs73 ?_) | apply (zs76 ?_) | apply (zs79 ?_) | fail)
    rename_i A' cap'
    rw [YdM, ← hst, show (RqM.fl (q.take i)).length + 1 = (RqM.fl (q.take (i + 1))).length from by rw [hst]; simp]
    apply hK ⟨i + 1, A', cap'⟩
    · show i + 1 ≤ _
      omega
    · dsimp only; omega
    · exact zu
    · exact zk
  · obtain rfl : i = q.length := by omega
    rw [List.take_length]
    repeat' (first | apply (zs1 ?_) | apply (zs2 ?_) | (apply (zs17 ?_ ?_) <;> intro _ <;> try (exfalso; omega)) | apply (zs65 ?_) | apply (zs68 ?_) | apply (zs69 ?_) | apply (zs70 ?_) | (apply zg27; refine zs72 ?_) | apply (zs74 ?_) | apply (zs75 ?_) | apply (zs80 ?_) | apply (zs81 ?_) | fail)
    apply Yc; exact rfl; exact rfl
    exact ⟨A2, cap2, rfl, rfl⟩
theorem Qj {x : RqM} {k : Nat} {r : RowM} (h : x.rows[k]? = some r) : rtAt x.rq.2 k = r.xs := by
  have h2 : x.rq.2[k]? = some r.xs := by
    show (x.rows.map (·.xs))[k]? = _
    rw [List.getElem?_map, h]; rfl
  exact Option.some.inj ((QK (List.getElem?_eq_some_iff.1 h2).1).symm.trans h2)
set_option maxRecDepth 10000 in
set_option maxHeartbeats 4000000 in
theorem Uz (n : NetM) (x : RqM) {B : Nat} {w0 : World} {H : List HP} {w : World} (hin : n.In B w0 H) (hx : x.In B w0 H) (hw : St B w0 H w) :
    Calls Tryz.prog 121 [n.val, rqV x].toArray w (Post B w0 fun v K => v = .int .i64 (rtsE n.net x.rq) ∧ K = H) := by
  refine Yd Tryz.func121 Tryz.ntmps121 rfl rfl hw ?_
  have hln : x.rq.2.length = x.rows.length := by unfold RqM.rq; rw [List.length_map]
  have hlx := hx.ln
  have e1 : x.rq.1 = x.f := rfl
  unfold rtsE
  rw [hln, e1]
  have p1 := fun {H' : List HP} {w : World} (r : RowM) (hr : r ∈ x.rows) (hin : n.In B w0 H') (hx : x.In B w0 H') (hw : St B w0 H' w) => Qa n x.f.2.1 x.f.2.2.1 r.xs (cap := r.cap) hin (hx.rw_ r hr) (Nat.le_trans (hx.rl r hr).1 (by decide)) (hx.rl r hr).2 hw
  unfold NetM.val rqV
  by_cases h0 : x.rows.length = 0
  · rw [if_pos h0]
    repeat' (first | apply (zs2 ?_) | (apply zg2; refine zs6 ?_) | (apply zg3; refine zs7 ?_) | (apply zg4; refine zs9 ?_) | (apply zg7; (refine zs15 ?_ ?_ <;> intro _ <;> try (exfalso; omega))) | (apply zg23; (refine zs52 ?_; intro _)) | apply (zs65 ?_) | apply (zs68 ?_) | apply (zs69 ?_) | apply (zs70 ?_) | (apply zg27; refine zs71 ?_) | apply (zs74 ?_) | apply (zs77 ?_) | fail)
    apply Yj H
    · exact zk
    apply Yc; exact rfl; exact rfl; exact ⟨rfl, rfl⟩
  rw [if_neg h0]
  by_cases h2 : 2 < x.rows.length
  · rw [if_pos h2]
    repeat' (first | apply (zs2 ?_) | (apply zg2; refine zs6 ?_) | (apply zg3; refine zs7 ?_) | (apply zg4; refine zs9 ?_) | (apply zg7; (refine zs15 ?_ ?_ <;> intro _ <;> try (exfalso; omega))) | (apply (zs19 ?_ ?_) <;> intro _ <;> try (exfalso; omega)) | (apply zg23; (refine zs52 ?_; intro _)) | apply (zs65 ?_) | apply (zs68 ?_) | apply (zs69 ?_) | apply (zs70 ?_) | (apply zg27; first | refine zs71 ?_ | refine zs72 ?_) | apply (zs74 ?_) | apply (zs76 ?_) | apply (zs77 ?_) | fail)
    apply Yj H
    · exact zk
    apply Yc; exact rfl; exact rfl; exact ⟨rfl, rfl⟩
  rw [if_neg h2]
  obtain ⟨F, hF⟩ : ∃ F, (fun k => Za n.net x.f.2.1 x.f.2.2.1 (rtAt x.rq.2 k)) = F := ⟨_, rfl⟩
  rw [hF]
  have hFv : ∀ {k : Nat} {r : RowM}, x.rows[k]? = some r → F k = Za n.net x.f.2.1 x.f.2.2.1 r.xs := fun h => by rw [← hF]; show Za _ _ _ _ = _; rw [Qj h]
  repeat' (first | apply (zs1 ?_) | apply (zs2 ?_) | (apply zg2; refine zs6 ?_) | (apply zg3; refine zs7 ?_) | (apply zg4; refine zs9 ?_) | (apply zg7; (refine zs15 ?_ ?_ <;> intro _ <;> try (exfalso; omega))) | (apply (zs19 ?_ ?_) <;> intro _ <;> try (exfalso; omega)) | (apply zg23; (refine zs52 ?_; intro _)) | apply (zs65 ?_) | apply (zs68 ?_) | apply (zs69 ?_) | apply (zs70 ?_) | (apply zg27; refine zs72 ?_) | apply (zs73 ?_) | apply (zs76 ?_) | fail)
  rename_i gn gx _ _
  refine Yk (fun k : Nat => [(19, .int .i64 (k : Nat)), (18, .int .i64 x.rows.length), (17, .slice x.A x.rows.length x.cap), (3, .pointer (some ⟨gx, 0, none⟩)), (2, .pointer (some ⟨gn, 0, none⟩))]) (fun _ => rqA gx x :: netA gn n :: H) (fun k => k ≤ x.rows.length ∧ ∀ j, 0 ≤ j → j < k → F j = 0) (fun k => x.rows.length - k) 0 ⟨Nat.zero_le _, fun j _ h => absurd h (Nat.not_lt_zero _)⟩ ?_ (fun w hw => hw) ?_
  · exact zu
  rintro k ⟨hk, hz⟩ K hK
  have hrt : Rd B w0 (rqA gx x :: netA gn n :: H) x.A (x.rows.flatMap rowF) := hx.rt.cons.cons
  by_cases hlt : k < x.rows.length
  · obtain ⟨r, hr⟩ : ∃ r, x.rows[k]? = some r := ⟨_, List.getElem?_eq_getElem hlt⟩
    have hFk := hFv hr
    have p2 := fun {H' : List HP} {w : World} (hin : n.In B w0 H') (hx : x.In B w0 H') (hw : St B w0 H' w) => p1 r (List.mem_of_getElem? hr) hin hx hw
    rw [← hFk] at p2
    by_cases hFz : F k = 0
    · rw [hFz] at p2
      repeat' (first | ((first | apply Ya Yan | apply Yb Yan); exact za; exact rfl; exact fun _ hw => (p2 (hin.mono zk) (hx.mono zk) hw)) | apply (zs1 ?_) | apply (zs2 ?_) | (apply zg2; refine zs6 ?_) | (apply zg3; first | refine zs7 ?_ | refine zs8 ?_ | refine zs60 ?_) | (apply zg5; refine zs57 ?_) | (apply zg8; (refine zs16 ?_ ?_ <;> intro _ <;> try (exfalso; omega))) | (apply (zs17 ?_ ?_) <;> intro _ <;> try (exfalso; omega)) | (apply zg13; refine zs30 ?_) | apply (zs65 ?_) | apply (zs68 ?_) | apply (zs69 ?_) | apply (zs70 ?_) | (apply zg27; first | refine zs71 ?_ | refine zs72 ?_) | apply (zs73 ?_) | apply (zs76 ?_) | apply (zs79 ?_) | fail)
      apply hK (k + 1)
      · exact ⟨by omega, fun j h1 h2 => by
          rcases Nat.lt_succ_iff_lt_or_eq.1 h2 with h | rfl
          · exact hz j h1 h
          · exact hFz⟩
      · omega
      · exact zu
      · exact zk
    · have hfe := Xa (f := F) (r := x.rows.length) (i0 := 0) (i := k) (fun j h1 h2 => hz j h1 h2) (Nat.zero_le _) (by omega) hFz
      rw [hfe, if_pos hFz]
      clear hK
      repeat' (first | ((first | apply Ya Yan | apply Yb Yan); exact za; exact rfl; exact fun _ hw => (p2 (hin.mono zk) (hx.mono zk) hw)) | apply (zs1 ?_) | apply (zs2 ?_) | (apply zg2; refine zs6 ?_) | (apply zg3; first | refine zs7 ?_ | refine zs8 ?_ | refine zs60 ?_) | (apply zg5; refine zs57 ?_) | (apply zg8; (refine zs16 ?_ ?_ <;> intro _ <;> try (exfalso; omega))) | (apply (zs17 ?_ ?_) <;> intro _ <;> try (exfalso; omega)) | apply (zs65 ?_) | apply (zs68 ?_) | apply (zs69 ?_) | apply (zs70 ?_) | (apply zg27; refine zs71 ?_) | apply (zs73 ?_) | apply (zs74 ?_) | apply (zs76 ?_) | apply (zs77 ?_) | apply (zs78 ?_) | fail)
      apply Yj H
      · exact zk
      apply Yc; exact rfl; exact rfl; exact ⟨rfl, rfl⟩
  · obtain rfl : k = x.rows.length := by omega
    have hfe := Xo (f := F) (r := x.rows.length) (i0 := 0) fun j h1 h2 => hz j h1 (by omega)
    rw [hfe, if_neg (fun e => e rfl)]
    clear hK
    by_cases h3 : x.rows.length = 2
    rotate_left
    · rw [if_neg (fun e => h3 e.1)]
      repeat' (first | apply (zs1 ?_) | apply (zs2 ?_) | (apply zg1; refine zs3 ?_) | (apply zg2; refine zs6 ?_) | (apply zg3; refine zs7 ?_) | (apply zg4; refine zs9 ?_) | (apply zg6; refine zs12 ?_) | (apply zg7; (refine zs15 ?_ ?_ <;> intro _ <;> try (exfalso; omega))) | (apply (zs17 ?_ ?_) <;> intro _ <;> try (exfalso; omega)) | apply (zs65 ?_) | apply (zs66 ?_) | apply (zs68 ?_) | apply (zs69 ?_) | apply (zs70 ?_) | (apply zg27; refine zs72 ?_) | apply (zs74 ?_) | apply (zs75 ?_) | apply (zs76 ?_) | apply (zs80 ?_) | apply (zs81 ?_) | (apply zg28; refine zs84 ?_) | fail)
      apply Yj H
      · exact zk
      apply Yc; exact rfl; exact rfl; exact ⟨rfl, rfl⟩
    obtain ⟨r0, hr0⟩ : ∃ r, x.rows[0]? = some r := ⟨_, List.getElem?_eq_getElem (by omega)⟩
    obtain ⟨r1, hr1⟩ : ∃ r, x.rows[1]? = some r := ⟨_, List.getElem?_eq_getElem (by omega)⟩
    rw [Qj hr0, Qj hr1]
    have p3 := fun {H' : List HP} {w : World} (hx : x.In B w0 H') (hw : St B w0 H' w) => We r0.xs r1.xs (cap := r0.cap) (cap2 := r1.cap) (Nat.le_trans (hx.rl r0 (List.mem_of_getElem? hr0)).1 (by decide)) (Nat.le_trans (hx.rl r1 (List.mem_of_getElem? hr1)).1 (by decide)) (hx.rw_ r0 (List.mem_of_getElem? hr0)) (hx.rw_ r1 (List.mem_of_getElem? hr1)) hw
    by_cases heq : r0.xs = r1.xs
    · rw [if_pos ⟨h3, heq⟩]
      rw [decide_eq_true heq] at p3
      repeat' (first | (apply (zs17 ?_ ?_) <;> intro _ <;> try (exfalso; omega)) | apply (zs65 ?_) | apply (zs68 ?_) | apply (zs69 ?_) | apply (zs70 ?_) | (apply zg27; refine zs72 ?_) | apply (zs75 ?_) | apply (zs80 ?_) | apply (zs81 ?_) | fail)
      apply YF [0, 1, 2, 3, 4, 5, 6, 7, 8, 9, 10, 11, 12, 13, 14] []
      kernel_rfl
      kernel_rfl
      (simp only [Yi, nthO]; rfl)
      exact rfl
      repeat' (first | apply (zs1 ?_) | (apply zg1; refine zs4 ?_) | (apply zg2; refine zs6 ?_) | (apply zg3; first | refine zs7 ?_ | refine zs60 ?_) | (apply zg4; refine zs9 ?_) | (apply zg5; refine zs57 ?_) | (apply zg7; (refine zs15 ?_ ?_ <;> intro _ <;> try (exfalso; omega))) | apply (zs87 ?_) | fail)
      first | apply Ya en33 | apply Yb en33
      exact za
      exact rfl
      exact fun _ hw => (p3 (hx.mono zk) hw)
      repeat' (first | apply (zs2 ?_) | (apply zg6; refine zs11 ?_) | apply (zs65 ?_) | (apply Yp; exact zp) | apply (zs68 ?_) | apply (zs69 ?_) | apply (zs70 ?_) | (apply zg27; refine zs71 ?_) | apply (zs74 ?_) | apply (zs77 ?_) | (apply Ym; (repeat (first | with_reducible exact Yh | (with_reducible apply Yg; (repeat (first | with_reducible exact Yf | with_reducible apply Ye)))))) | apply (zs93 ?_) | apply (zs94 ?_) | fail)
      · show Perm H (H ++ [])
        rw [List.append_nil]; exact Perm.refl _
      repeat' (first | fail)
      apply Yj H
      · exact zk
      apply Yc; exact rfl; exact rfl; exact ⟨rfl, rfl⟩
    · rw [if_neg (fun e => heq e.2)]
      rw [decide_eq_false heq] at p3
      repeat' (first | (apply (zs17 ?_ ?_) <;> intro _ <;> try (exfalso; omega)) | apply (zs65 ?_) | apply (zs68 ?_) | apply (zs69 ?_) | apply (zs70 ?_) | (apply zg27; refine zs72 ?_) | apply (zs75 ?_) | apply (zs80 ?_) | apply (zs81 ?_) | fail)
      apply YF [0, 1, 2, 3, 4, 5, 6, 7, 8, 9, 10, 11, 12, 13, 14] []
      kernel_rfl
      kernel_rfl
      (simp only [Yi, nthO]; rfl)
      exact rfl
      repeat' (first | apply (zs1 ?_) | (apply zg1; refine zs4 ?_) | (apply zg2; refine zs6 ?_) | (apply zg3; first | refine zs7 ?_ | refine zs60 ?_) | (apply zg4; refine zs9 ?_) | (apply zg5; refine zs57 ?_) | (apply zg7; (refine zs15 ?_ ?_ <;> intro _ <;> try (exfalso; omega))) | apply (zs87 ?_) | fail)
      first | apply Ya en33 | apply Yb en33
      exact za
      exact rfl
      exact fun _ hw => (p3 (hx.mono zk) hw)
      repeat' (first | apply (zs2 ?_) | (apply zg6; refine zs11 ?_) | apply (zs65 ?_) | (apply Yp; exact zp) | apply (zs68 ?_) | apply (zs69 ?_) | apply (zs70 ?_) | (apply zg27; refine zs72 ?_) | apply (zs74 ?_) | apply (zs76 ?_) | (apply Ym; (repeat (first | with_reducible exact Yh | (with_reducible apply Yg; (repeat (first | with_reducible exact Yf | with_reducible apply Ye)))))) | apply (zs93 ?_) | apply (zs94 ?_) | fail)
      · show Perm H (H ++ [])
        rw [List.append_nil]; exact Perm.refl _
      repeat' (first | fail)
      apply Yj H
      · exact zk
      apply Yc; exact rfl; exact rfl; exact ⟨rfl, rfl⟩
theorem Ye5 (q : List RqM) : RqM.fl q = UF (q.map RqM.rq) := by unfold RqM.fl UF; rw [List.map_map]; rfl
theorem Ol {q : List RqM} {i : Nat} {x : RqM} (h : q[i]? = some x) : rqAt (q.map RqM.rq) i = x.rq := by
  have h2 : (q.map RqM.rq)[i]? = some x.rq := by rw [List.getElem?_map, h]; rfl
  exact Option.some.inj ((YdH (List.getElem?_eq_some_iff.1 h2).1).symm.trans h2)
set_option maxRecDepth 10000 in
set_option maxHeartbeats 4000000 in
theorem Qp (n : NetM) (q : List RqM) {A : Option Addr} {cap B : Nat} {w0 : World} {H : List HP} {w : World} (hin : n.In B w0 H) (hq : QIn B w0 H A q) (hw : St B w0 H w) :
    Calls Tryz.prog 67 [n.val, .slice A q.length cap].toArray w (Post B w0 fun v K => v = .tuple #[.int .i64 (rqsE n.net (q.map RqM.rq)).1, .int .i64 (rqsE n.net (q.map RqM.rq)).2] ∧ K = H) := by
  refine Yd Tryz.func67 Tryz.ntmps67 rfl rfl hw ?_
  have hql := hq.ln
  have hqr := hq.rd
  have p1 := fun {H' : List HP} {w : World} (hin : n.In B w0 H') (hw : St B w0 H' w) => YH n hin hw
  have p2 := fun {H' : List HP} {w : World} (hq : QIn B w0 H' A q) (hw : St B w0 H' w) => Wg q (cap := cap) hql hq.rd hw
  have p3 := fun {A2 : Option Addr} {cap2 : Nat} {H' : List HP} {w : World} (hr : Rd B w0 H' A2 ((RqM.fl q).flatMap flwF)) (hw : St B w0 H' w) => YL n.nodes (RqM.fl q) (by unfold RqM.fl; rw [List.length_map]; omega) (cap := cap2) hr hw
  unfold rqsE
  rw [← Ye5, List.length_map]
  rw [show n.net.nodes = n.nodes from rfl]
  obtain ⟨c, hc⟩ : ∃ c, Yy n.net = c := ⟨_, rfl⟩
  obtain ⟨⟨fi, fe⟩, hf⟩ : ∃ f, YR n.nodes (RqM.fl q) = f := ⟨_, rfl⟩
  obtain ⟨F, hF⟩ : ∃ F, (fun i => rtsE n.net (rqAt (q.map RqM.rq) i)) = F := ⟨_, rfl⟩
  rw [hc] at p1 ⊢
  rw [hf] at p3 ⊢
  rw [hF]
  dsimp only at p3 ⊢
  have hFv : ∀ {k : Nat} {x : RqM}, q[k]? = some x → F k = rtsE n.net x.rq := fun h => by rw [← hF]; show rtsE _ _ = _; rw [Ol h]
  unfold NetM.val
  by_cases h0 : c = 0
  rotate_left
  · rw [if_pos h0]
    repeat' (first | ((first | apply Ya en50 | apply Yb en50); exact za; exact rfl; exact fun _ hw => (p1 hin.cons hw)) | apply (zs2 ?_) | (apply zg3; refine zs8 ?_) | (apply zg8; (refine zs16 ?_ ?_ <;> intro _ <;> try (exfalso; omega))) | (apply zg23; (refine zs52 ?_; intro _)) | apply (zs65 ?_) | apply (zs68 ?_) | apply (zs69 ?_) | apply (zs70 ?_) | (apply zg27; refine zs71 ?_) | apply (zs74 ?_) | apply (zs77 ?_) | fail)
    apply Yj H
    · exact zk
    apply Yt; exact rfl; exact rfl; exact rfl; exact ⟨rfl, rfl⟩
  subst h0
  rw [if_neg (fun e => e rfl)]
  by_cases h1 : fe = 0
  rotate_left
  · rw [if_pos h1]
    repeat' (first | ((first | apply Ya en50 | apply Yb en50); exact za; exact rfl; exact fun _ hw => (p1 hin.cons hw)) | apply (zs2 ?_) | (apply zg3; refine zs8 ?_) | (apply zg8; (refine zs16 ?_ ?_ <;> intro _ <;> try (exfalso; omega))) | (apply zg23; (refine zs52 ?_; intro _)) | apply (zs65 ?_) | apply (zs68 ?_) | apply (zs69 ?_) | apply (zs70 ?_) | (apply zg27; refine zs72 ?_) | apply (zs76 ?_) | fail)
    apply Zm [0, 1, 2, 3, 4, 5, 6, 7, 8, 9] [] [true]
    kernel_rfl
    kernel_rfl
    exact zy
    (simp only [Yi, nthO]; rfl)
    exact rfl
    repeat' (first | apply (zs1 ?_) | (apply zg2; refine zs6 ?_) | (apply zg3; refine zs7 ?_) | apply (zs87 ?_) | fail)
    apply Ys _ en68
    exact za
    exact rfl
    exact fun _ hw => (p2 (hq.mono zk) (hw))
    rintro _ _ ⟨A2, cap2, rfl, rfl⟩
    repeat' (first | apply (zs65 ?_) | apply (zs87 ?_) | (apply Ym; (repeat (first | with_reducible exact Yh | (with_reducible apply Yg; (repeat (first | with_reducible exact Yf | with_reducible apply Ye)))))) | fail)
    first | apply Ya en51 | apply Yb en51
    exact za
    exact rfl
    exact fun _ hw => (p3 (Rd.sl zm) hw)
    repeat' (first | apply (zs1 ?_) | apply (zs2 ?_) | apply (zs13 ?_) | (apply zg8; (refine zs16 ?_ ?_ <;> intro _ <;> try (exfalso; omega))) | apply (zs65 ?_) | (apply Yp; exact zp) | apply (zs68 ?_) | apply (zs69 ?_) | apply (zs70 ?_) | (apply zg27; refine zs71 ?_) | apply (zs74 ?_) | apply (zs77 ?_) | (apply Ym; (repeat (first | with_reducible exact Yh | (with_reducible apply Yg; (repeat (first | with_reducible exact Yf | with_reducible apply Ye)))))) | apply (zs93 ?_) | apply (zs94 ?_) | fail)
    apply Yj H
    · exact zk
    apply Yt; exact rfl; exact rfl; exact rfl; exact ⟨rfl, rfl⟩
  subst h1
  rw [if_neg (fun e => e rfl)]
  repeat' (first | ((first | apply Ya en50 | apply Yb en50); exact za; exact rfl; exact fun _ hw => (p1 hin.cons hw)) | apply (zs2 ?_) | (apply zg3; refine zs8 ?_) | (apply zg8; (refine zs16 ?_ ?_ <;> intro _ <;> try (exfalso; omega))) | (apply zg23; (refine zs52 ?_; intro _)) | apply (zs65 ?_) | apply (zs68 ?_) | apply (zs69 ?_) | apply (zs70 ?_) | (apply zg27; refine zs72 ?_) | apply (zs76 ?_) | fail)
  first | (rename_i gn; guard_hyp gn : Nat) | (rename_i gn _; guard_hyp gn : Nat) | (rename_i gn _ _; guard_hyp gn : Nat)
  apply Zm [0, 1, 2, 3, 4, 5, 6, 7, 8, 9] [] [true]
  kernel_rfl
  kernel_rfl
  exact zy
  (simp only [Yi, nthO]; rfl)
  exact rfl
  repeat' (first | apply (zs1 ?_) | (apply zg2; refine zs6 ?_) | (apply zg3; refine zs7 ?_) | apply (zs87 ?_) | fail)
  apply Ys _ en68
  exact za
  exact rfl
  exact fun _ hw => (p2 (hq.mono zk) (hw))
  rintro _ _ ⟨A2, cap2, rfl, rfl⟩
  repeat' (first | apply (zs65 ?_) | apply (zs87 ?_) | (apply Ym; (repeat (first | with_reducible exact Yh | (with_reducible apply Yg; (repeat (first | with_reducible exact Yf | with_reducible apply Ye)))))) | fail)
  first | apply Ya en51 | apply Yb en51
  exact za
  exact rfl
  exact fun _ hw => (p3 (Rd.sl zm) hw)
  repeat' (first | apply (zs1 ?_) | apply (zs2 ?_) | (apply zg4; refine zs9 ?_) | apply (zs13 ?_) | (apply zg8; (refine zs16 ?_ ?_ <;> intro _ <;> try (exfalso; omega))) | apply (zs65 ?_) | (apply Yp; exact zp) | apply (zs68 ?_) | apply (zs69 ?_) | apply (zs70 ?_) | (apply zg27; refine zs72 ?_) | apply (zs73 ?_) | apply (zs76 ?_) | (apply Ym; (repeat (first | with_reducible exact Yh | (with_reducible apply Yg; (repeat (first | with_reducible exact Yf | with_reducible apply Ye)))))) | apply (zs93 ?_) | apply (zs94 ?_) | fail)
  refine Yk (fun k : Nat => [(28, .int .i64 (k : Nat)), (27, .int .i64 q.length), (26, .slice A q.length cap), (2, .pointer (some ⟨gn, 0, none⟩))]) (fun _ => netA gn n :: H) (fun k => k ≤ q.length ∧ ∀ j, 0 ≤ j → j < k → F j = 0) (fun k => q.length - k) 0 ⟨Nat.zero_le _, fun j _ h => absurd h (Nat.not_lt_zero _)⟩ ?_ ?_ ?_
  · exact zu
  · exact zk
  rintro k ⟨hk, hz⟩ K hK
  have hqr' : Rd B w0 (netA gn n :: H) A (q.flatMap rqF) := hqr.cons
  by_cases hlt : k < q.length
  · obtain ⟨x, hx⟩ : ∃ x, q[k]? = some x := ⟨_, List.getElem?_eq_getElem hlt⟩
    have hFk := hFv hx
    have hxi := hq.x x (List.mem_of_getElem? hx)
    have p4 := fun {H' : List HP} {w : World} (hin : n.In B w0 H') (hx : x.In B w0 H') (hw : St B w0 H' w) => Uz n x hin hx hw
    rw [← hFk] at p4
    by_cases hFz : F k = 0
    · rw [hFz] at p4
      repeat' (first | ((first | apply Ya Ydv | apply Yb Ydv); exact za; exact rfl; exact fun _ hw => (p4 (hin.mono zk) (hxi.mono zk) hw)) | apply (zs1 ?_) | apply (zs2 ?_) | (apply zg3; first | refine zs8 ?_ | refine zs61 ?_) | (apply zg5; refine zs57 ?_) | (apply zg8; (refine zs16 ?_ ?_ <;> intro _ <;> try (exfalso; omega))) | (apply (zs17 ?_ ?_) <;> intro _ <;> try (exfalso; omega)) | (apply zg13; refine zs30 ?_) | (apply zg22; refine zs51 ?_) | (apply zg24; (refine zs54 ?_; intro _)) | apply (zs65 ?_) | apply (zs68 ?_) | apply (zs69 ?_) | apply (zs70 ?_) | (apply zg27; first | refine zs71 ?_ | refine zs72 ?_) | apply (zs73 ?_) | apply (zs76 ?_) | apply (zs79 ?_) | fail)
      apply hK (k + 1)
      · exact ⟨by omega, fun j h1 h2 => by
          rcases Nat.lt_succ_iff_lt_or_eq.1 h2 with h | rfl
          · exact hz j h1 h
          · exact hFz⟩
      · omega
      · exact zu
      · exact zk
    · have hfe := Xa (f := F) (r := q.length) (i0 := 0) (i := k) (fun j h1 h2 => hz j h1 h2) (Nat.zero_le _) (by omega) hFz
      rw [hfe]
      clear hK
      repeat' (first | ((first | apply Ya Ydv | apply Yb Ydv); exact za; exact rfl; exact fun _ hw => (p4 (hin.mono zk) (hxi.mono zk) hw)) | apply (zs1 ?_) | apply (zs2 ?_) | (apply zg3; first | refine zs8 ?_ | refine zs61 ?_) | (apply zg5; refine zs57 ?_) | (apply zg8; (refine zs16 ?_ ?_ <;> intro _ <;> try (exfalso; omega))) | (apply (zs17 ?_ ?_) <;> intro _ <;> try (exfalso; omega)) | (apply zg22; refine zs51 ?_) | (apply zg24; (refine zs54 ?_; intro _)) | apply (zs65 ?_) | apply (zs68 ?_) | apply (zs69 ?_) | apply (zs70 ?_) | (apply zg27; refine zs71 ?_) | apply (zs73 ?_) | apply (zs74 ?_) | apply (zs76 ?_) | apply (zs77 ?_) | apply (zs78 ?_) | fail)
      apply Yj H
      · exact zk
      apply Yt; exact rfl; exact rfl; exact rfl; exact ⟨rfl, rfl⟩
  · obtain rfl : k = q.length := by omega
    have hfe := Xo (f := F) (r := q.length) (i0 := 0) fun j h1 h2 => hz j h1 (by omega)
    rw [hfe]
    clear hK
    repeat' (first | apply (zs2 ?_) | (apply (zs17 ?_ ?_) <;> intro _ <;> try (exfalso; omega)) | apply (zs65 ?_) | apply (zs68 ?_) | apply (zs69 ?_) | apply (zs70 ?_) | (apply zg27; refine zs72 ?_) | apply (zs74 ?_) | apply (zs75 ?_) | apply (zs80 ?_) | apply (zs81 ?_) | fail)
    apply Yj H
    · exact zk
    apply Yt; exact rfl; exact rfl; exact rfl; exact ⟨rfl, rfl⟩
open Go.RowKit Go.Eng Go.Nw Go.Rt
def runW (x : WayM) (a : Int) : List (Cel × Int) := runP x.s.len (VJ x.s.sch x.f.1) (a + x.f.2.2.2.1) (YB x.n.net x.r) a
def cntV (z : Cel × Int) : List Value := [celV z.1, .int .i64 z.2]
def Ydq (x : WayM) (a : Int) : List (List Value) := (runW x a).map cntV
structure CtM where
  c : Nat
  a : Int
  L : List HP
structure CuM where
  k : Nat
  slot : Int
  a : Int
  c : Nat
  L : List HP
structure CvM where
  j : Nat
  k : Nat
  a : Int
  c : Nat
  L : List HP
theorem YfQ {α : Type} {W r : List α} {c : Nat} {z : α} (hc : c ≤ W.length) (h : W = W.take c ++ z :: r) : W[c]? = some z ∧ c + 1 ≤ W.length ∧ W = W.take (c + 1) ++ r := by
  have hl : (W.take c).length = c := by rw [List.length_take]; omega
  have hg : W[c]? = some z := by
    rw [h, List.getElem?_append_right (by omega), hl, Nat.sub_self]; rfl
  refine ⟨hg, (List.getElem?_eq_some_iff.1 hg).1, ?_⟩
  rw [List.take_add_one, hg]
  conv => lhs; rw [h]
  simp
theorem YbN {α : Type} {W : List α} {c : Nat} (hc : c ≤ W.length) (h : W = W.take c ++ []) : c = W.length := by
  rw [List.append_nil] at h
  have := congrArg List.length h
  rw [List.length_take] at this
  omega
set_option maxRecDepth 10000 in
set_option maxHeartbeats 8000000 in
theorem Ya4 (x : WayM) (at0 : Int) (hok : JW x) (hat : 0 ≤ at0 ∧ at0 ≤ 1000000) (ga gw : Nat) {B : Nat} {w0 : World} {H : List HP} (hi : x.In B w0 H) :
    QY Tryz.prog 247 [.pointer (some ⟨ga, 0, none⟩), .pointer (some ⟨gw, 0, none⟩)] (Ydq x at0) B w0 (intB ga at0 :: wayB gw x :: H) := by
  refine Yes Tryz.func247 Tryz.ntmps247 rfl rfl ?_
  intro l SS XX hy L0 h0
  have hper := hok.per
  have hslen := hok.slen
  obtain ⟨W, hW⟩ : ∃ W, runW x at0 = W := ⟨_, rfl⟩
  have hxs : Ydq x at0 = W.map cntV := by unfold Ydq; rw [hW]
  rw [hxs] at hy ⊢
  rw [List.length_map]
  obtain ⟨endd, hend⟩ : ∃ e, at0 + x.f.2.2.2.1 = e := ⟨_, rfl⟩
  unfold runW at hW
  rw [hend] at hW
  unfold intB at hy ⊢
  iterate 3 (first | (apply zg23; (refine zs53 ?_; intro _)) | apply (zs69 ?_) | apply (zs70 ?_) | fail)
  rename_i gy
  apply Yfa
  apply YaU
  apply Jr
  refine Yav (fun z : Nat × Nat => [(5, .pointer (some ⟨z.2, 0, none⟩)), (4, .pointer (some ⟨z.1, 0, none⟩)), (3, .pointer (some ⟨gy, 0, none⟩)), (1, .pointer (some ⟨ga, 0, none⟩)), (2, .pointer (some ⟨gw, 0, none⟩))])
    (fun z => intB z.1 at0 :: many L0 :: intB z.2 endd :: blk gy (.cells #[.func (.yield l) #[] #[]] 291 (0, 0)) :: intB ga at0 :: wayB gw x :: H) ?_ ?_
  · intro K hK
    repeat' (first | fail)
    apply WQ (.n1 0 (.n1 1 (.n1 2 (.n1 3 (.n1 4 (.n1 5 (.n2 6 (.n1 7 (.n1 8 .done)) 7 (.n1 6 (.n1 8 .done))))))))) [9] [false, false, true, true]
    kernel_rfl
    kernel_rfl
    exact zy
    (simp only [Yi, nthO]; rfl)
    repeat' (first | (apply zg2; refine zs6 ?_) | (apply zg3; refine zs7 ?_) | (apply zg13; refine zs30 ?_) | (apply zg22; refine zs50 ?_) | (apply zg24; (refine zs54 ?_; intro _)) | apply (zs65 ?_) | (apply Yp; exact zp) | apply (zs87 ?_) | (apply Ym; (repeat (first | with_reducible exact Yh | (with_reducible apply Yg; (repeat (first | with_reducible exact Yf | with_reducible apply Ye)))))) | (apply WK; exact zp) | apply (zs90 ?_) | apply (zs91 ?_ ?_) | (apply X5; (repeat (first | with_reducible exact Yh | (with_reducible apply Yg; (repeat (first | with_reducible exact Yf | with_reducible apply Ye)))))) | apply (zs93 ?_) | apply (zs94 ?_) | fail)
    · rename_i a b
      rw [hend]
      apply hK (a, b)
      · exact zu
      · unfold intB
        dsimp only
        exact zk
    · rename_i a b
      rw [hend]
      apply hK (b, a)
      · exact zu
      · unfold intB
        dsimp only
        exact zk
  rintro ⟨g4, g5⟩
  unfold intB
  dsimp only
  repeat' (first | (apply zg3; refine zs8 ?_) | apply (zs69 ?_) | apply (zs70 ?_) | fail)
  apply Ys _ Yg0
  exact za
  exact rfl
  exact fun _ hw => (Od x (hw))
  rintro _ _ ⟨g2, rfl, rfl⟩
  repeat' (first | apply (zs65 ?_) | apply (zs68 ?_) | apply (zs73 ?_) | fail)
  have hiK : x.In B w0 (wayB g2 x :: blk g5 (.cells #[.int .i64 endd] 3 (0, 0)) :: blk gy (.cells #[.func (.yield l) #[] #[]] 291 (0, 0)) :: blk ga (.cells #[.int .i64 at0] 3 (0, 0)) :: wayB gw x :: H) := hi.cons.cons.cons.cons.cons
  refine XC (gf := 285) (lb := [.pointer (some ⟨g2, 0, none⟩)]) (xs := XQ x) (wayB g2 x :: blk g5 (.cells #[.int .i64 endd] 3 (0, 0)) :: blk gy (.cells #[.func (.yield l) #[] #[]] 291 (0, 0)) :: blk ga (.cells #[.int .i64 at0] 3 (0, 0)) :: wayB gw x :: H) (fun y : CtM => [blk g4 (.cells #[.int .i64 y.a] 3 (0, 0)), many y.L])
    (fun k y => y.c ≤ W.length ∧ W = W.take y.c ++ runP x.s.len (VJ x.s.sch x.f.1) endd ((YB x.n.net x.r).drop k) y.a ∧ SS y.c y.L ∧ at0 ≤ y.a ∧ y.a ≤ endd)
    (fun e K => e = .ret ∧ ∃ a L, (SS W.length L ∨ XX L) ∧ K = [blk g4 (.cells #[.int .i64 a] 3 (0, 0)), many L]) ⟨0, at0, L0⟩ rfl YgR (Wq x g2 hok hiK (.head _)) rfl ?_ (by kernel_rfl) (by kernel_rfl) ?_ ⟨Nat.zero_le _, by simpa using hW.symm, h0, Int.le_refl _, by show at0 ≤ endd; omega⟩ ?_ ?_ ?_
  · intro args h
    obtain ⟨k, hk⟩ := List.mem_iff_getElem?.1 h
    obtain ⟨l, _, rfl⟩ := Jq hk
    rfl
  · simp only [List.cons_append, List.nil_append]
    exact zk
  · rintro l2 k args R ⟨c, a, L⟩ hk ⟨hc, hWk, hS, ha0, ha1⟩
    obtain ⟨lk, hlk, rfl⟩ := Jq hk
    have hbd := V2 hok hlk
    dsimp only at hc hWk hS ha0 ha1
    dsimp only [J2, List.cons_append, List.nil_append]
    unfold lkV
    repeat' (first | (apply zg22; refine zs51 ?_) | (apply zg24; (refine zs54 ?_; intro _)) | apply (zs65 ?_) | apply (zs70 ?_) | fail)
    rename_i gl
    apply Z3 (Ye Yf)
    intro R'
    repeat' (first | apply (zs2 ?_) | (apply zg2; refine zs6 ?_) | (apply zg3; first | refine zs7 ?_ | refine zs8 ?_) | (apply zg13; refine zs30 ?_) | apply (zs65 ?_) | apply (zs68 ?_) | apply (zs69 ?_) | apply (zs70 ?_) | apply (zs73 ?_) | fail)
    have hfew := hok.few
    apply Ys _ YhQ
    exact za
    exact rfl
    exact fun _ hw => (Ycy x lk (by omega) (hi.mono zk).s (hw))
    rintro _ _ ⟨A, cap, rfl, rfl⟩
    have hcsl : (VJ x.s.sch x.f.1 lk).length ≤ 512 := Nat.le_trans (List.length_filter_le _ _) hfew
    have hdk : (YB x.n.net x.r).drop k = lk :: (YB x.n.net x.r).drop (k + 1) := by
      obtain ⟨h1, h2⟩ := List.getElem?_eq_some_iff.1 hlk
      rw [← h2]; exact List.drop_eq_getElem_cons h1
    rw [hdk, Yfk] at hWk
    obtain ⟨cs, hcs⟩ : ∃ cs, VJ x.s.sch x.f.1 lk = cs := ⟨_, rfl⟩
    obtain ⟨ls, hls⟩ : ∃ ls, (YB x.n.net x.r).drop (k + 1) = ls := ⟨_, rfl⟩
    obtain ⟨C, hC⟩ : ∃ C, VJ x.s.sch x.f.1 = C := ⟨_, rfl⟩
    rw [hcs, hls, hC] at hWk
    rw [hcs] at hcsl ⊢
    rw [hC, hls]
    unfold cels
    repeat' (first | apply (zs2 ?_) | (apply zg3; refine zs7 ?_) | apply (zs65 ?_) | apply (zs68 ?_) | apply (zs69 ?_) | apply (zs70 ?_) | apply (zs73 ?_) | fail)
    rw [show lk.2.2 + 1 = ((YX lk : Nat) : Int) from by unfold YX; omega]
    have hnl8 : YX lk ≤ 8 := by unfold YX; omega
    refine Yk (fun z : CuM => [(9, .int .i64 z.slot), (7, .int .i64 (z.k : Nat)), (8, .slice A cs.length cap), (6, .pointer (some ⟨gl, 0, none⟩)), (5, .pointer (some ⟨g5, 0, none⟩)), (4, .pointer (some ⟨g4, 0, none⟩)), (3, .pointer (some ⟨gy, 0, none⟩)), (1, .pointer (some ⟨ga, 0, none⟩)), (2, .pointer (some ⟨gw, 0, none⟩))])
      (fun z => R' :: blk g4 (.cells #[.int .i64 z.a] 3 (0, 0)) :: many z.L :: sl 40 5 A cs.length cap (cs.flatMap celF) :: blk gl (.cells #[.int .i64 lk.1, .int .i64 lk.2.1, .int .i64 lk.2.2] 172 (0, 0)) :: wayB g2 x :: blk g5 (.cells #[.int .i64 endd] 3 (0, 0)) :: blk gy (.cells #[.func (.yield l) #[] #[]] 291 (0, 0)) :: blk ga (.cells #[.int .i64 at0] 3 (0, 0)) :: wayB gw x :: H)
      (fun z => z.c ≤ W.length ∧ W = W.take z.c ++ JO x.s.len C endd cs ls (endd - z.slot).toNat z.k z.slot z.a ∧ SS z.c z.L ∧ (at0 ≤ z.a ∧ z.a ≤ endd) ∧ (at0 ≤ z.slot ∧ z.slot ≤ endd) ∧ z.k ≤ 8) (fun z => (endd - z.slot).toNat) ⟨YX lk, a, a, c, L⟩ ⟨hc, hWk, hS, ⟨ha0, ha1⟩, ⟨ha0, ha1⟩, hnl8⟩ ?_ ?_ ?_
    · exact zu
    · exact zk
    rintro ⟨kk, slot, a, c, L⟩ ⟨hc, hWk, hS, ⟨ha0, ha1⟩, ⟨hs0, hs1⟩, hk8⟩ K hK
    dsimp only at hc hWk hS ha0 ha1 hs0 hs1 hk8 ⊢
    by_cases hk0 : kk = 0
    · subst hk0
      rw [Yd7] at hWk
      clear hK
      repeat' (first | apply (zs1 ?_) | (apply (zs19 ?_ ?_) <;> intro _ <;> try (exfalso; omega)) | apply (zs65 ?_) | apply (zs68 ?_) | apply (zs69 ?_) | apply (zs70 ?_) | (apply zg27; refine zs72 ?_) | apply (zs75 ?_) | apply (zs79 ?_) | apply (zs80 ?_) | apply (zs81 ?_) | fail)
      apply JF (CtM.mk c a L)
      · exact ⟨hc, hWk, hS, ha0, ha1⟩
      · dsimp only [List.cons_append, List.nil_append]
        exact zk
    by_cases hse : endd ≤ slot
    · rw [show (endd - slot).toNat = 0 by omega, Yfr hk0] at hWk
      have hce := YbN hc hWk
      rw [hce] at hS
      clear hK
      repeat' (first | apply (zs1 ?_) | (apply zg3; refine zs7 ?_) | (apply (zs19 ?_ ?_) <;> intro _ <;> try (exfalso; omega)) | (apply (zs20 ?_ ?_) <;> intro _ <;> try (exfalso; omega)) | apply (zs65 ?_) | apply (zs68 ?_) | apply (zs69 ?_) | apply (zs70 ?_) | (apply zg27; refine zs71 ?_) | apply (zs73 ?_) | apply (zs74 ?_) | apply (zs76 ?_) | apply (zs77 ?_) | apply (zs78 ?_) | fail)
      apply Ow [blk g4 (.cells #[.int .i64 a] 3 (0, 0)), many L]
      · exact ⟨rfl, a, L, .inl hS, rfl⟩
      · dsimp only [List.cons_append, List.nil_append]
        exact zk
    obtain ⟨f, hf⟩ : ∃ f, (endd - (slot + 1)).toNat = f := ⟨_, rfl⟩
    have hf1 : (endd - slot).toNat = f + 1 := by omega
    have hmt : slot.tmod x.s.len = slot % x.s.len := Int.tmod_eq_emod_of_nonneg (by omega)
    rw [hf1, ← YeR] at hWk
    repeat' (first | apply (zs1 ?_) | (apply zg3; refine zs7 ?_) | (apply zg4; refine zs9 ?_) | (apply (zs19 ?_ ?_) <;> intro _ <;> try (exfalso; omega)) | (apply (zs20 ?_ ?_) <;> intro _ <;> try (exfalso; omega)) | apply (zs65 ?_) | apply (zs68 ?_) | apply (zs69 ?_) | apply (zs70 ?_) | (apply zg27; first | refine zs71 ?_ | refine zs72 ?_) | apply (zs73 ?_) | apply (zs76 ?_) | fail)
    refine Yk (fun y : CvM => [(37, .int .i64 (y.j : Nat)), (36, .int .i64 cs.length), (35, .slice A cs.length cap), (9, .int .i64 slot), (7, .int .i64 (y.k : Nat)), (8, .slice A cs.length cap), (6, .pointer (some ⟨gl, 0, none⟩)), (5, .pointer (some ⟨g5, 0, none⟩)), (4, .pointer (some ⟨g4, 0, none⟩)), (3, .pointer (some ⟨gy, 0, none⟩)), (1, .pointer (some ⟨ga, 0, none⟩)), (2, .pointer (some ⟨gw, 0, none⟩))])
      (fun y => R' :: blk g4 (.cells #[.int .i64 y.a] 3 (0, 0)) :: many y.L :: sl 40 5 A cs.length cap (cs.flatMap celF) :: blk gl (.cells #[.int .i64 lk.1, .int .i64 lk.2.1, .int .i64 lk.2.2] 172 (0, 0)) :: wayB g2 x :: blk g5 (.cells #[.int .i64 endd] 3 (0, 0)) :: blk gy (.cells #[.func (.yield l) #[] #[]] 291 (0, 0)) :: blk ga (.cells #[.int .i64 at0] 3 (0, 0)) :: wayB gw x :: H)
      (fun y => y.j ≤ cs.length ∧ y.c ≤ W.length ∧ W = W.take y.c ++ VE x.s.len C endd cs (cs.drop y.j) ls f y.k slot y.a ∧ SS y.c y.L ∧ (at0 ≤ y.a ∧ y.a ≤ endd) ∧ y.k ≤ 8) (fun y => cs.length - y.j) ⟨0, kk, a, c, L⟩ ⟨Nat.zero_le _, hc, hWk, hS, ⟨ha0, ha1⟩, hk8⟩ ?_ ?_ ?_
    · exact zu
    · exact zk
    clear hWk hS hc hk0 hk8 ha0 ha1
    rintro ⟨j, kk, a, c, L⟩ ⟨hj, hc, hWk, hS, ⟨ha0, ha1⟩, hk8⟩ K2 hK2
    dsimp only at hj hc hWk hS ha0 ha1 hk8 ⊢
    by_cases hjl : j < cs.length
    rotate_left
    · obtain rfl : j = cs.length := by omega
      rw [List.drop_length, Yfw] at hWk
      clear hK2
      repeat' (first | apply (zs1 ?_) | apply (zs2 ?_) | (apply (zs17 ?_ ?_) <;> intro _ <;> try (exfalso; omega)) | (apply zg13; refine zs30 ?_) | apply (zs65 ?_) | apply (zs68 ?_) | apply (zs69 ?_) | apply (zs70 ?_) | (apply zg27; refine zs72 ?_) | apply (zs75 ?_) | apply (zs79 ?_) | apply (zs80 ?_) | apply (zs81 ?_) | fail)
      apply hK ⟨kk, slot + 1, a, c, L⟩
      · exact ⟨hc, by rw [hf]; exact hWk, hS, ⟨ha0, ha1⟩, ⟨by show at0 ≤ slot + 1; omega, by show slot + 1 ≤ endd; omega⟩, hk8⟩
      · dsimp only; omega
      · exact zu
      · exact fun w hw => hw
    obtain ⟨d, hd⟩ : ∃ d, cs[j]? = some d := ⟨_, List.getElem?_eq_getElem hjl⟩
    have hdj : cs.drop j = d :: cs.drop (j + 1) := by
      obtain ⟨h1, h2⟩ := List.getElem?_eq_some_iff.1 hd
      rw [← h2]; exact List.drop_eq_getElem_cons h1
    rw [hdj] at hWk
    by_cases hcd : d.1 = slot % x.s.len ∧ kk ≠ 0
    · obtain ⟨hcd1, hcd2⟩ := hcd
      obtain ⟨k3, rfl⟩ : ∃ k3, kk = k3 + 1 := ⟨kk - 1, by omega⟩
      rw [Yfu (by rw [hmt]; exact hcd1) hcd2, Nat.add_sub_cancel] at hWk
      obtain ⟨hx, hc1, hW1⟩ := YfQ hc hWk
      have hx : (W.map cntV)[c]? = some [celV d, .int .i64 slot] := by rw [List.getElem?_map, hx]; rfl
      repeat' (first | (refine Yap 3 57 rfl rfl rfl ?_) | apply (zs1 ?_) | apply (zs2 ?_) | (apply zg1; refine zs4 ?_) | (apply zg2; refine zs6 ?_) | (apply zg3; first | refine zs7 ?_ | refine zs8 ?_ | refine zs61 ?_) | (apply zg5; refine zs10 ?_) | (apply zg6; refine zs12 ?_) | (apply zg7; (refine zs15 ?_ ?_ <;> intro _ <;> try (exfalso; omega))) | (apply zg8; (refine zs16 ?_ ?_ <;> intro _ <;> try (exfalso; omega))) | (apply (zs17 ?_ ?_) <;> intro _ <;> try (exfalso; omega)) | (apply zg13; refine zs30 ?_) | (apply zg14; refine zs31 ?_) | (apply zg17; refine zs37 ?_) | (apply zg22; first | refine zs50 ?_ | refine zs51 ?_) | (apply zg24; (refine zs54 ?_; intro _)) | apply (zs65 ?_) | apply (zs66 ?_) | apply (zs68 ?_) | apply (zs69 ?_) | apply (zs70 ?_) | (apply zg27; first | refine zs71 ?_ | refine zs72 ?_) | apply (zs73 ?_) | apply (zs76 ?_) | (apply zg28; refine zs83 ?_) | fail)
      first | (rename_i gc _ _; guard_hyp gc : Nat) | (rename_i gc _; guard_hyp gc : Nat) | (rename_i gc _ _ _; guard_hyp gc : Nat)
      rw [show ((k3 + 1 : Nat) : Int) - 1 = (k3 : Int) by omega]
      apply Yj (R' :: blk gc (.cells #[.int .i64 d.1, .int .i64 d.2.1, .int .i64 d.2.2.1, .int .i64 d.2.2.2.1, .int .i64 d.2.2.2.2] 40 (0, 0)) :: sl 40 5 A cs.length cap (cs.flatMap celF) :: blk gl (.cells #[.int .i64 lk.1, .int .i64 lk.2.1, .int .i64 lk.2.2] 172 (0, 0)) :: blk g4 (.cells #[.int .i64 (slot + 1)] 3 (0, 0)) :: wayB g2 x :: blk g5 (.cells #[.int .i64 endd] 3 (0, 0)) :: blk gy (.cells #[.func (.yield l) #[] #[]] 291 (0, 0)) :: many L :: blk ga (.cells #[.int .i64 at0] 3 (0, 0)) :: wayB gw x :: H)
      · exact zk
      have hY := hy c _ hx [R', blk gc (.cells #[.int .i64 d.1, .int .i64 d.2.1, .int .i64 d.2.2.1, .int .i64 d.2.2.2.1, .int .i64 d.2.2.2.2] 40 (0, 0)), sl 40 5 A cs.length cap (cs.flatMap celF), blk gl (.cells #[.int .i64 lk.1, .int .i64 lk.2.1, .int .i64 lk.2.2] 172 (0, 0)), blk g4 (.cells #[.int .i64 (slot + 1)] 3 (0, 0)), wayB g2 x, blk g5 (.cells #[.int .i64 endd] 3 (0, 0)), blk gy (.cells #[.func (.yield l) #[] #[]] 291 (0, 0))] L hS
      apply Yd3 _ _ (hy := hY)
      · exact U8
      · exact rfl
      · exact za
      · exact rfl
      · rintro ⟨_, _, h⟩; exact h
      · exact rfl
      · rintro _ ⟨L', hS', rfl⟩
        dsimp only [List.cons_append, List.nil_append]
        repeat' (first | apply (zs1 ?_) | (apply zg13; refine zs30 ?_) | (apply zg20; refine zs47 ?_) | apply (zs65 ?_) | apply (zs68 ?_) | apply (zs70 ?_) | (apply zg27; refine zs72 ?_) | apply (zs76 ?_) | apply (zs79 ?_) | fail)
        apply hK2 ⟨j + 1, k3, slot + 1, c + 1, L'⟩
        · exact ⟨by show j + 1 ≤ _; omega, hc1, hW1, hS', ⟨by show at0 ≤ slot + 1; omega, by show slot + 1 ≤ endd; omega⟩, by show k3 ≤ 8; omega⟩
        · dsimp only; omega
        · exact zu
        · exact zk
      · rintro _ ⟨L', hX', rfl⟩
        dsimp only [List.cons_append, List.nil_append]
        repeat' (first | (apply zg20; refine zs48 ?_) | apply (zs65 ?_) | apply (zs68 ?_) | (apply zg27; refine zs71 ?_) | apply (zs74 ?_) | apply (zs77 ?_) | apply (zs78 ?_) | fail)
        apply Ow [blk g4 (.cells #[.int .i64 (slot + 1)] 3 (0, 0)), many L']
        · exact ⟨rfl, slot + 1, L', .inr hX', rfl⟩
        · dsimp only [List.cons_append, List.nil_append]
          exact zk
    · rw [YgE (by rw [hmt]; exact hcd)] at hWk
      repeat' (first | apply (zs1 ?_) | (apply zg1; first | refine zs3 ?_ | refine zs4 ?_) | (apply zg2; refine zs6 ?_) | (apply zg3; first | refine zs7 ?_ | refine zs61 ?_) | (apply zg5; refine zs10 ?_) | (apply zg6; first | refine zs11 ?_ | refine zs12 ?_) | (apply zg7; (refine zs15 ?_ ?_ <;> intro _ <;> try (exfalso; omega))) | (apply zg8; (refine zs16 ?_ ?_ <;> intro _ <;> try (exfalso; omega))) | (apply (zs17 ?_ ?_) <;> intro _ <;> try (exfalso; omega)) | (apply zg13; refine zs30 ?_) | (apply zg17; refine zs37 ?_) | (apply zg22; refine zs51 ?_) | (apply zg24; (refine zs54 ?_; intro _)) | apply (zs65 ?_) | apply (zs66 ?_) | apply (zs68 ?_) | apply (zs69 ?_) | apply (zs70 ?_) | (apply zg27; refine zs71 ?_) | apply (zs73 ?_) | apply (zs75 ?_) | apply (zs76 ?_) | apply (zs80 ?_) | apply (zs81 ?_) | (apply zg28; refine zs83 ?_) | fail)
      all_goals (
        apply hK2 ⟨j + 1, kk, a, c, L⟩
        · exact ⟨by show j + 1 ≤ _; omega, hc, hWk, hS, ⟨ha0, ha1⟩, hk8⟩
        · dsimp only; omega
        · exact zu
        · exact zk)
  · rintro D ⟨c, a, L⟩ ⟨hc, hWk, hS, ha0, ha1⟩
    dsimp only at hc hWk hS ha0 ha1
    have hle : (XQ x).length = (YB x.n.net x.r).length := by unfold XQ; rw [List.length_map]
    rw [hle, List.drop_length] at hWk
    have hce := YbN hc hWk
    rw [hce] at hS
    dsimp only [List.cons_append, List.nil_append]
    repeat' (first | apply (zs79 ?_) | fail)
    apply Yf9
    apply XY Yf
    apply VQ_m
    apply Yj (many L :: blk ga (.cells #[.int .i64 at0] 3 (0, 0)) :: wayB gw x :: H)
    · exact zk
    apply V4; exact rfl
    exact .inl ⟨L, hS, rfl⟩
  · rintro D _ _ ⟨rfl, a, L, hSL, rfl⟩ _
    dsimp only [List.cons_append, List.nil_append]
    repeat' (first | apply (zs78 ?_) | fail)
    apply XY Yf
    apply VQ_m
    apply Yj (many L :: blk ga (.cells #[.int .i64 at0] 3 (0, 0)) :: wayB gw x :: H)
    · exact zk
    apply V4; exact rfl
    rcases hSL with h | h
    · exact .inl ⟨L, h, rfl⟩
    · exact .inr ⟨L, h, rfl⟩
open Go.RowKit Go.Eng Go.Nw Go.Rt
def relE (x : WayM) (a : Int) : Int × List Int × Bool := match Qi x.n.net x.s.sch x.f x.r a with
  | none => (0, [], false)
  | some l => (Z5 l - a + 1, l.map (fun z => z - a), true)
theorem UD (x : WayM) (a : Int) : Qi x.n.net x.s.sch x.f x.r a = if (runW x a).length < Xc (YB x.n.net x.r) then none else some ((runW x a).map Prod.snd) := Ydx _ _ _ _ _
theorem Yb7 (x : WayM) (a : Int) {B : Nat} {w0 : World} {H : List HP} {w : World} (hw : St B w0 H w) :
    Calls Tryz.prog 207 [x.val, .int .i64 a].toArray w (Post B w0 fun v K => ∃ ga gw, v = .func (.func 247) #[] #[.pointer (some ⟨ga, 0, none⟩), .pointer (some ⟨gw, 0, none⟩)] ∧ K = intB ga a :: wayB gw x :: H) := by
  refine Yd Tryz.func207 Tryz.ntmps207 rfl rfl hw ?_
  unfold WayM.val intB
  repeat' (first | apply (zs2 ?_) | (apply zg23; first | (refine zs52 ?_; intro _) | (refine zs53 ?_; intro _)) | apply (zs65 ?_) | apply (zs68 ?_) | apply (zs69 ?_) | apply (zs70 ?_) | apply (zs74 ?_) | (apply zg29; (apply Yo; exact za ; exact rfl)) | fail)
  apply Yc; exact rfl; exact rfl
  exact ⟨_, _, rfl, rfl⟩
structure NlM where
  A : Option Addr
  cap : Nat
  l : List Int
theorem YbU {x : WayM} (hok : JW x) : 1 ≤ Xc (YB x.n.net x.r) := by
  have hl := hok.len
  have h0 := VN (n := x.n.net) (r := x.r) (i := 0) (by omega)
  have hbd := V2 hok h0
  have hne : (YB x.n.net x.r) = UQ x.n.net x.r 0 :: (YB x.n.net x.r).tail := by
    cases h : YB x.n.net x.r with
    | nil => rw [h] at h0; cases h0
    | cons a t => rw [h] at h0; cases h0; rfl
  rw [hne]
  unfold Xc YX
  rw [List.map_cons, List.sum_cons]
  omega
set_option maxRecDepth 10000 in
set_option maxHeartbeats 4000000 in
theorem Yas (x : WayM) (at0 : Int) (hok : JW x) (hat : 0 ≤ at0 ∧ at0 ≤ 1000000) {B : Nat} {w0 : World} {H : List HP} {w : World} (hi : x.In B w0 H) (hw : St B w0 H w) :
    Calls Tryz.prog 149 [x.val, .int .i64 at0].toArray w (Post B w0 fun v K => ∃ A cap, v = .tuple #[.int .i64 (relE x at0).1, .slice A (relE x at0).2.1.length cap, .bool (relE x at0).2.2] ∧ K = nrs A cap (relE x at0).2.1 :: H) := by
  refine Xz Tryz.func149 Tryz.ntmps149 rfl rfl hw ?_
  have hper := hok.per
  have hl9 := hok.len
  have hnp := YbU hok
  have hnl : Xc (YB x.n.net x.r) ≤ 72 := by
    have h1 := WL hok (YB x.n.net x.r).length
    rw [List.take_length, Ju] at h1
    omega
  have hRE : relE x at0 = if (runW x at0).length < Xc (YB x.n.net x.r) then (0, [], false) else (Z5 ((runW x at0).map Prod.snd) - at0 + 1, ((runW x at0).map Prod.snd).map (fun z => z - at0), true) := by
    unfold relE
    rw [UD]
    by_cases h : (runW x at0).length < Xc (YB x.n.net x.r)
    · rw [if_pos h, if_pos h]
    · rw [if_neg h, if_neg h]
  have hWl : (runW x at0).length ≤ Xc (YB x.n.net x.r) := YaZ _ _ _ _ _
  have hWs : ∀ z ∈ runW x at0, at0 ≤ z.2 ∧ z.2 < at0 + x.f.2.2.2.1 := fun z hz => Yay (by omega) hz
  have hiter := fun {ga gw : Nat} {H' : List HP} (hi : x.In B w0 H') => Ya4 x at0 hok hat ga gw hi
  have hxs : Ydq x at0 = (runW x at0).map cntV := rfl
  rw [hxs] at hiter
  obtain ⟨W, hW⟩ : ∃ W, runW x at0 = W := ⟨_, rfl⟩
  obtain ⟨nd, hnd⟩ : ∃ nd, Xc (YB x.n.net x.r) = nd := ⟨_, rfl⟩
  have hned := fun {H' : List HP} {w : World} (hi : x.In B w0 H') (hw : St B w0 H' w) => Ycb x hok hi hw
  rw [hW, hnd] at hRE hWl
  rw [hW] at hWs hiter
  rw [hnd] at hnp hnl hned
  rw [hRE]
  unfold WayM.val
  unfold intB at hiter
  repeat' (first | apply (zs2 ?_) | (apply zg3; first | refine zs7 ?_ | refine zs8 ?_) | (apply zg23; first | (refine zs52 ?_; intro _) | (refine zs53 ?_; intro _)) | (apply zg24; (refine zs54 ?_; intro _)) | apply (zs65 ?_) | apply (zs68 ?_) | apply (zs69 ?_) | apply (zs70 ?_) | fail)
  rename_i g2 g3 gO
  apply Ys _ YhJ
  exact za
  exact rfl
  exact fun _ hw => (Yb7 x at0 (hw))
  rintro _ _ ⟨ga, gw, rfl, rfl⟩
  unfold intB
  repeat' (first | apply (zs65 ?_) | apply (zs68 ?_) | apply (zs73 ?_) | fail)
  refine ZS 3 1 ?_
  refine XC (gf := 247) (lb := [.pointer (some ⟨ga, 0, none⟩), .pointer (some ⟨gw, 0, none⟩)]) (xs := W.map cntV) (blk ga (.cells #[.int .i64 at0] 3 (0, 0)) :: wayB gw x :: blk g3 (.cells #[.int .i64 at0] 3 (0, 0)) :: wayB g2 x :: H) (fun y : NlM => [blk gO (.cells #[.slice y.A y.l.length y.cap] 24 (0, 0)), nrs y.A y.cap y.l]) (fun i y => y.l = (W.take i).map (fun z => z.2 - at0)) (fun _ _ => False) ⟨none, 0, []⟩ rfl YhO (hiter hi.cons.cons) rfl ?_ (by kernel_rfl) (by kernel_rfl) ?_ rfl ?_ ?_ (fun _ _ _ h => h.elim)
  · intro args h
    obtain ⟨z, _, rfl⟩ := List.mem_map.1 h
    rfl
  · simp only [List.cons_append, List.nil_append, List.length_nil]
    intro w hw
    have h1 : St B w0 (nrs none 0 [] :: blk ga (.cells #[.int .i64 at0] 3 (0, 0)) :: wayB gw x :: blk gO (.cells #[.slice none 0 0] 24 (0, 0)) :: blk g3 (.cells #[.int .i64 at0] 3 (0, 0)) :: wayB g2 x :: H) w := hw
    clear hw
    revert w
    exact zk
  · rintro l k args R ⟨A, cap, xs⟩ hk hI
    rw [List.getElem?_map] at hk
    obtain ⟨⟨d, sl⟩, hz, rfl⟩ : ∃ z, W[k]? = some z ∧ args = cntV z := by
      cases h : W[k]? with
      | none => rw [h] at hk; cases hk
      | some z => rw [h] at hk; exact ⟨z, rfl, (Option.some.inj hk).symm⟩
    have hzb := hWs _ (List.mem_of_getElem? hz)
    have hI : xs = (W.take k).map (fun z => z.2 - at0) := hI
    have hxl : xs.length ≤ 72 := by
      rw [hI, List.length_map, List.length_take]; omega
    dsimp only at hzb
    dsimp only [J2, cntV, List.cons_append, List.nil_append]
    repeat' (first | apply (zs2 ?_) | apply (zs65 ?_) | apply (zs70 ?_) | fail)
    apply Z3 Yf
    intro R'
    repeat' (first | apply (zs1 ?_) | (apply zg3; refine zs7 ?_) | (apply zg14; refine zs31 ?_) | (apply zg21; (refine zs49 ?_; intro _ _)) | (apply zg22; refine zs50 ?_) | (apply zg26; (refine zs56 ?_; intro _)) | apply (zs65 ?_) | apply (zs70 ?_) | apply (zs73 ?_) | apply (zs79 ?_) | fail)
    rename_i A' cap'
    apply JF (NlM.mk A' cap' (xs ++ [sl - at0]))
    · show xs ++ [sl - at0] = _
      rw [List.take_add_one, hz, Option.toList_some, List.map_append, hI]; rfl
    · dsimp only [List.cons_append, List.nil_append]
      rw [Jf, show xs.length + 1 = (xs ++ [sl - at0]).length by simp]
      exact zk
  · rintro D ⟨A, cap, xs⟩ hI
    have hI : xs = (W.take (W.map cntV).length).map (fun z => z.2 - at0) := hI
    rw [List.length_map, List.take_length] at hI
    have hxl : xs.length = W.length := by rw [hI, List.length_map]
    dsimp only [List.cons_append, List.nil_append]
    have hll : ((W.map Prod.snd).map (fun z => z - at0)) = xs := by rw [hI, List.map_map]; rfl
    by_cases hlt : W.length < nd
    · rw [if_pos hlt]
      repeat' (first | apply (zs68 ?_) | apply (zs69 ?_) | apply (zs79 ?_) | fail)
      apply YF [0, 1, 2, 3, 4] []
      kernel_rfl
      kernel_rfl
      (simp only [Yi, nthO]; rfl)
      exact rfl
      repeat' (first | (apply zg3; first | refine zs7 ?_ | refine zs8 ?_) | (apply zg4; refine zs9 ?_) | apply (zs87 ?_) | fail)
      first | apply Ya Ydf | apply Yb Ydf
      exact za
      exact rfl
      exact fun _ hw => (hned (hi.mono zk) hw)
      repeat' (first | apply (zs65 ?_) | (apply Ym; (repeat (first | with_reducible exact Yh | (with_reducible apply Yg; (repeat (first | with_reducible exact Yf | with_reducible apply Ye)))))) | fail)
      · show Perm H (H ++ [])
        rw [List.append_nil]; exact Perm.refl _
      repeat' (first | apply (zs2 ?_) | (apply (zs17 ?_ ?_) <;> intro _ <;> try (exfalso; omega)) | apply (zs65 ?_) | (apply Yp; exact zp) | apply (zs68 ?_) | apply (zs69 ?_) | apply (zs70 ?_) | (apply zg27; refine zs71 ?_) | apply (zs74 ?_) | apply (zs77 ?_) | apply (zs93 ?_) | apply (zs94 ?_) | fail)
      apply XY Yf
      apply VQ_m
      apply Yj (nrs none 0 [] :: H)
      · intro w hw
        have h5 : St B w0 H w := by
          revert w
          exact zk
        exact h5.nilSlice _ _
      apply XA; exact rfl; exact rfl; exact rfl; exact rfl
      exact ⟨none, 0, rfl, rfl⟩
    · rw [if_neg hlt, hll]
      obtain ⟨z, hz⟩ : ∃ z, W[W.length - 1]? = some z := ⟨_, List.getElem?_eq_getElem (by omega)⟩
      have hzb := hWs _ (List.mem_of_getElem? hz)
      have hx1 : xs[((xs.length : Int) - 1).toNat]? = some (z.2 - at0) := by
        rw [show ((xs.length : Int) - 1).toNat = W.length - 1 by omega, hI, List.getElem?_map, hz]; rfl
      have hla : Z5 (W.map Prod.snd) = z.2 := by
        unfold Z5
        rw [List.length_map, List.getD_eq_getElem?_getD, List.getElem?_map, hz]; rfl
      rw [hla]
      repeat' (first | apply (zs68 ?_) | apply (zs69 ?_) | apply (zs79 ?_) | fail)
      apply YF [0, 1, 2, 3, 4] []
      kernel_rfl
      kernel_rfl
      (simp only [Yi, nthO]; rfl)
      exact rfl
      repeat' (first | (apply zg3; first | refine zs7 ?_ | refine zs8 ?_) | (apply zg4; refine zs9 ?_) | apply (zs87 ?_) | fail)
      first | apply Ya Ydf | apply Yb Ydf
      exact za
      exact rfl
      exact fun _ hw => (hned (hi.mono zk) hw)
      repeat' (first | apply (zs65 ?_) | (apply Ym; (repeat (first | with_reducible exact Yh | (with_reducible apply Yg; (repeat (first | with_reducible exact Yf | with_reducible apply Ye)))))) | fail)
      · show Perm H (H ++ [])
        rw [List.append_nil]; exact Perm.refl _
      repeat' (first | apply (zs2 ?_) | (apply zg3; first | refine zs7 ?_ | refine zs60 ?_) | (apply zg4; refine zs9 ?_) | (apply zg5; refine zs10 ?_) | (apply (zs17 ?_ ?_) <;> intro _ <;> try (exfalso; omega)) | (apply zg13; refine zs30 ?_) | (apply zg14; refine zs31 ?_) | apply (zs65 ?_) | apply (zs66 ?_) | (apply Yp; exact zp) | apply (zs68 ?_) | apply (zs69 ?_) | (apply zg27; refine zs72 ?_) | apply (zs74 ?_) | apply (zs76 ?_) | (apply zg28; refine zs83 ?_) | apply (zs93 ?_) | apply (zs94 ?_) | fail)
      apply XY Yf
      apply VQ_m
      apply Yj (nrs A cap xs :: H)
      · exact zk
      apply XA; exact rfl; exact rfl; exact rfl; exact rfl
      exact ⟨A, cap, rfl, rfl⟩
def WW (R : Option (Int × Int × List Int)) : Int × Int × List Int × Bool := match R with
  | none => (0, 0, [], false)
  | some b => (b.1, b.2.1, b.2.2, true)
def J8 (x : WayM) : Int × Int × List Int × Bool := WW (Vf x.n.net x.s.sch x.f x.r)
theorem Ye7 {x : WayM} (hok : JW x) {a : Int} {l : List Int} (h : Qi x.n.net x.s.sch x.f x.r a = some l) : 1 ≤ l.length ∧ a ≤ Z5 l ∧ Z5 l < a + x.f.2.2.2.1 := by
  have hper := hok.per
  have hnp := YbU hok
  rw [UD] at h
  split at h
  · cases h
  rename_i hge
  obtain rfl := Option.some.inj h
  rw [List.length_map]
  obtain ⟨z, hz⟩ : ∃ z, (runW x a)[(runW x a).length - 1]? = some z := ⟨_, List.getElem?_eq_getElem (by omega)⟩
  have hzb := Yay (by omega) (List.mem_of_getElem? hz)
  have hla : Z5 ((runW x a).map Prod.snd) = z.2 := by
    unfold Z5
    rw [List.length_map, List.getD_eq_getElem?_getD, List.getElem?_map, hz]; rfl
  rw [hla]
  exact ⟨by omega, hzb⟩
structure BdM where
  k : Nat
  rel : Int
  b : Int × Int × List Int
  A : Option Addr
  cap : Nat
set_option maxRecDepth 10000 in
set_option maxHeartbeats 4000000 in
theorem YcE (x : WayM) (hok : JW x) {B : Nat} {w0 : World} {H : List HP} {w : World} (hi : x.In B w0 H) (hw : St B w0 H w) :
    Calls Tryz.prog 86 [x.val].toArray w (Post B w0 fun v K => ∃ A cap, v = .tuple #[.int .i64 (J8 x).1, .int .i64 (J8 x).2.1, .slice A (J8 x).2.2.1.length cap, .bool (J8 x).2.2.2] ∧ K = nrs A cap (J8 x).2.2.1 :: H) := by
  refine Yd Tryz.func86 Tryz.ntmps86 rfl rfl hw ?_
  have hper := hok.per
  have hph := hok.ph
  have hsl := hok.slen
  obtain ⟨R, hR⟩ : ∃ R, Vf x.n.net x.s.sch x.f x.r = R := ⟨_, rfl⟩
  have hO : J8 x = WW R := by unfold J8; rw [hR]
  rw [hO]
  unfold Vf at hR
  rw [show x.s.sch.len = x.s.len from rfl] at hR
  obtain ⟨S, hS⟩ : ∃ S, Qi x.n.net x.s.sch x.f x.r = S := ⟨_, rfl⟩
  rw [hS] at hR
  have hrl := fun {H' : List HP} {w : World} (a : Int) (ha : 0 ≤ a ∧ a ≤ 1000000) (hi : x.In B w0 H') (hw : St B w0 H' w) => Yas x a hok ha hi hw
  unfold WayM.val
  repeat' (first | apply (zs2 ?_) | (apply zg2; refine zs6 ?_) | (apply zg3; refine zs7 ?_) | (apply zg23; (refine zs52 ?_; intro _)) | apply (zs65 ?_) | apply (zs68 ?_) | apply (zs69 ?_) | apply (zs70 ?_) | apply (zs73 ?_) | fail)
  rename_i g
  refine ZS 3 1 ?_
  refine Yk (fun z : BdM => [(9, .int .i64 z.rel), (8, .slice z.A z.b.2.2.length z.cap), (7, .int .i64 z.b.2.1), (6, .int .i64 z.b.1), (1, .pointer (some ⟨g, 0, none⟩))]) (fun z => nrs z.A z.cap z.b.2.2 :: wayB g x :: H)
    (fun z => Wt S x.s.len x.f.2.2.2.1 z.k z.rel z.b = R ∧ x.s.len - z.rel ≤ z.k ∧ 0 ≤ z.rel ∧ z.rel ≤ 2000 ∧ 0 ≤ z.b.1 ∧ z.b.1 ≤ 2000) (fun z => z.k) ⟨x.s.len.toNat, x.f.2.2.2.2.1, (0, 0, []), none, 0⟩ ⟨hR, by show x.s.len - x.f.2.2.2.2.1 ≤ ((x.s.len.toNat : Nat) : Int); omega, hph.1, by show x.f.2.2.2.2.1 ≤ 2000; omega, Int.le_refl _, by show (0 : Int) ≤ 2000; decide⟩ ?_ (fun w hw => hw) ?_
  · exact zu
  rintro ⟨k, rel, ⟨b1, b2, bl⟩, A, cap⟩ ⟨hb, hk, h0, h1, hb0, hb1⟩ K hK
  dsimp only at hb hk h0 h1 hb0 hb1 ⊢
  by_cases hge : x.s.len ≤ rel
  · have hRe : R = some (b1, b2, bl) := by
      rw [← hb]
      cases k with
      | zero => rfl
      | succ k => unfold Wt; rw [if_pos hge]
    rw [hRe]
    clear hK
    repeat' (first | apply (zs1 ?_) | apply (zs2 ?_) | (apply zg2; refine zs6 ?_) | (apply zg3; refine zs7 ?_) | (apply (zs17 ?_ ?_) <;> intro _ <;> try (exfalso; omega)) | apply (zs65 ?_) | apply (zs68 ?_) | apply (zs69 ?_) | apply (zs70 ?_) | (apply zg27; refine zs72 ?_) | apply (zs74 ?_) | apply (zs75 ?_) | apply (zs80 ?_) | apply (zs81 ?_) | fail)
    apply Yj (nrs A cap bl :: H)
    · exact zk
    apply Ub; exact rfl; exact rfl; exact rfl; exact rfl; exact rfl
    exact ⟨A, cap, rfl, rfl⟩
  obtain ⟨k, rfl⟩ : ∃ k', k = k' + 1 := ⟨k - 1, by omega⟩
  unfold Wt at hb
  rw [if_neg hge] at hb
  have hrr := fun {H' : List HP} {w : World} (hi : x.In B w0 H') (hw : St B w0 H' w) => hrl rel (by omega) hi hw
  unfold relE at hrr
  rw [hS] at hrr
  cases hSr : S rel with
  | none =>
    rw [hSr] at hb hrr
    dsimp only at hb hrr
    rw [← hb]
    clear hK
    repeat' (first | apply (zs1 ?_) | (apply zg2; refine zs6 ?_) | (apply zg3; first | refine zs7 ?_ | refine zs8 ?_) | (apply (zs17 ?_ ?_) <;> intro _ <;> try (exfalso; omega)) | apply (zs65 ?_) | apply (zs68 ?_) | apply (zs69 ?_) | apply (zs70 ?_) | (apply zg27; refine zs71 ?_) | apply (zs73 ?_) | apply (zs76 ?_) | fail)
    apply Ys _ YgP
    exact za
    exact rfl
    exact fun _ hw => (hrr (hi.mono zk) (hw))
    rintro _ _ ⟨A2, cap2, rfl, rfl⟩
    repeat' (first | apply (zs1 ?_) | apply (zs2 ?_) | apply (zs13 ?_) | (apply zg20; refine zs48 ?_) | apply (zs65 ?_) | apply (zs68 ?_) | apply (zs69 ?_) | apply (zs70 ?_) | (apply zg27; refine zs71 ?_) | apply (zs74 ?_) | apply (zs77 ?_) | apply (zs78 ?_) | fail)
    apply Yj (nrs none 0 [] :: H)
    · intro w hw
      have h5 : St B w0 H w := by
        revert w
        exact zk
      exact h5.nilSlice _ _
    apply Ub; exact rfl; exact rfl; exact rfl; exact rfl; exact rfl
    exact ⟨none, 0, rfl, rfl⟩
  | some l =>
    rw [hSr] at hb hrr
    dsimp only at hb hrr
    have hlb : 0 ≤ Z5 l - rel + 1 ∧ Z5 l - rel + 1 ≤ 513 := by
      have := Ye7 hok (a := rel) (l := l) (by rw [hS]; exact hSr)
      omega
    obtain ⟨m, hm⟩ : ∃ m, Z5 l - rel + 1 = m := ⟨_, rfl⟩
    rw [hm] at hb hrr hlb
    repeat' (first | apply (zs1 ?_) | (apply zg2; refine zs6 ?_) | (apply zg3; first | refine zs7 ?_ | refine zs8 ?_) | (apply (zs17 ?_ ?_) <;> intro _ <;> try (exfalso; omega)) | apply (zs65 ?_) | apply (zs68 ?_) | apply (zs69 ?_) | apply (zs70 ?_) | (apply zg27; refine zs71 ?_) | apply (zs73 ?_) | apply (zs76 ?_) | fail)
    apply Ys _ YgP
    exact za
    exact rfl
    exact fun _ hw => (hrr (hi.mono zk) (hw))
    rintro _ _ ⟨A2, cap2, rfl, rfl⟩
    by_cases hgt : b1 < m
    · rw [if_pos hgt] at hb
      repeat' (first | apply (zs1 ?_) | apply (zs2 ?_) | (apply zg2; refine zs6 ?_) | (apply zg3; refine zs7 ?_) | apply (zs13 ?_) | (apply (zs19 ?_ ?_) <;> intro _ <;> try (exfalso; omega)) | (apply zg13; refine zs30 ?_) | (apply zg20; refine zs47 ?_) | apply (zs65 ?_) | apply (zs68 ?_) | apply (zs69 ?_) | apply (zs70 ?_) | (apply zg27; first | refine zs71 ?_ | refine zs72 ?_) | apply (zs76 ?_) | apply (zs79 ?_) | fail)
      apply hK ⟨k, rel + x.f.2.2.2.1, (m, rel, l.map fun z => z - rel), A2, cap2⟩
      · exact ⟨hb, by show x.s.len - (rel + x.f.2.2.2.1) ≤ ((k : Nat) : Int); omega, by show 0 ≤ rel + x.f.2.2.2.1; omega, by show rel + x.f.2.2.2.1 ≤ 2000; omega, hlb.1, by show m ≤ 2000; omega⟩
      · dsimp only; omega
      · exact zu
      · exact zk
    · rw [if_neg hgt] at hb
      repeat' (first | apply (zs1 ?_) | apply (zs2 ?_) | (apply zg2; refine zs6 ?_) | (apply zg3; refine zs7 ?_) | apply (zs13 ?_) | (apply (zs19 ?_ ?_) <;> intro _ <;> try (exfalso; omega)) | (apply zg13; refine zs30 ?_) | (apply zg20; refine zs47 ?_) | apply (zs65 ?_) | apply (zs68 ?_) | apply (zs69 ?_) | apply (zs70 ?_) | (apply zg27; refine zs72 ?_) | apply (zs76 ?_) | apply (zs79 ?_) | fail)
      apply hK ⟨k, rel + x.f.2.2.2.1, (b1, b2, bl), A, cap⟩
      · exact ⟨hb, by show x.s.len - (rel + x.f.2.2.2.1) ≤ ((k : Nat) : Int); omega, by show 0 ≤ rel + x.f.2.2.2.1; omega, by show rel + x.f.2.2.2.1 ≤ 2000; omega, hb0, hb1⟩
      · dsimp only; omega
      · exact zu
      · exact zk
open Go.RowKit Go.Eng Go.Nw Go.Rt
set_option maxRecDepth 10000 in
set_option maxHeartbeats 4000000 in
theorem YcI (x : WayM) {B : Nat} {w0 : World} {H : List HP} {w : World} (ht : TabsB B w0) (hi : x.In B w0 H) (hw : St B w0 H w) :
    Calls Tryz.prog 34 [x.n.val, x.s.val, flwV x.f, .slice x.A x.r.length x.cap].toArray w (Post B w0 fun v K => ∃ A cap, v = .tuple #[.int .i64 (Xe x.n.net x.s.sch x.f x.r).1.1, .int .i64 (Xe x.n.net x.s.sch x.f x.r).1.2.1, .slice A (Xe x.n.net x.s.sch x.f x.r).1.2.2.length cap, .int .i64 (Xe x.n.net x.s.sch x.f x.r).2] ∧ K = nrs A cap (Xe x.n.net x.s.sch x.f x.r).1.2.2 :: H) := by
  refine Yd Tryz.func34 Tryz.ntmps34 rfl rfl hw ?_
  have p1 := fun {H' : List HP} {w : World} (hi : x.In B w0 H') (hw : St B w0 H' w) => YbK x ht hi hw
  obtain ⟨R, hR⟩ : ∃ R, Xe x.n.net x.s.sch x.f x.r = R := ⟨_, rfl⟩
  rw [hR]
  unfold Xe at hR
  obtain ⟨e, he⟩ : ∃ e, wayE x.n.net x.s.sch x.f x.r = e := ⟨_, rfl⟩
  rw [he] at p1 hR
  unfold NetM.val SchM.val flwV
  by_cases h0 : e = 0
  rotate_left
  · rw [if_pos h0] at hR
    subst hR
    repeat' (first | ((first | apply Ya en85 | apply Yb en85); exact za; exact rfl; exact fun _ hw => (p1 (hi.mono zk) hw)) | apply (zs1 ?_) | apply (zs2 ?_) | (apply zg3; refine zs8 ?_) | (apply zg8; (refine zs16 ?_ ?_ <;> intro _ <;> try (exfalso; omega))) | (apply zg22; refine zs51 ?_) | (apply zg23; (refine zs52 ?_; intro _)) | (apply zg24; (refine zs54 ?_; intro _)) | (apply zg25; refine zs55 ?_) | apply (zs65 ?_) | apply (zs68 ?_) | apply (zs69 ?_) | apply (zs70 ?_) | (apply zg27; refine zs71 ?_) | apply (zs74 ?_) | apply (zs77 ?_) | fail)
    apply Yj (nrs none 0 [] :: H)
    · intro w hw
      have h5 : St B w0 H w := by
        revert w
        exact zk
      exact h5.nilSlice _ _
    apply Ub; exact rfl; exact rfl; exact rfl; exact rfl; exact rfl
    exact ⟨none, 0, rfl, rfl⟩
  subst h0
  rw [if_neg (fun h => h rfl)] at hR
  have hok := Ydt he
  have p2 := fun {H' : List HP} {w : World} (hi : x.In B w0 H') (hw : St B w0 H' w) => YcE x hok hi hw
  unfold J8 at p2
  cases hb : Vf x.n.net x.s.sch x.f x.r with
  | none =>
    rw [hb] at hR p2
    dsimp only [WW] at hR p2
    subst hR
    repeat' (first | ((first | apply Ya en85 | apply Yb en85); exact za; exact rfl; exact fun _ hw => (p1 (hi.mono zk) hw)) | apply (zs1 ?_) | apply (zs2 ?_) | (apply zg3; refine zs8 ?_) | (apply zg8; (refine zs16 ?_ ?_ <;> intro _ <;> try (exfalso; omega))) | (apply zg22; refine zs51 ?_) | (apply zg23; (refine zs52 ?_; intro _)) | (apply zg24; (refine zs54 ?_; intro _)) | (apply zg25; refine zs55 ?_) | apply (zs65 ?_) | apply (zs68 ?_) | apply (zs69 ?_) | apply (zs70 ?_) | (apply zg27; refine zs72 ?_) | apply (zs76 ?_) | fail)
    apply Ys _ en86
    exact za
    exact rfl
    exact fun _ hw => (p2 (hi.mono zk) (hw))
    rintro _ _ ⟨A2, cap2, rfl, rfl⟩
    repeat' (first | apply (zs1 ?_) | apply (zs2 ?_) | apply (zs13 ?_) | (apply zg20; refine zs48 ?_) | apply (zs65 ?_) | apply (zs68 ?_) | apply (zs69 ?_) | apply (zs70 ?_) | (apply zg27; refine zs71 ?_) | apply (zs74 ?_) | apply (zs77 ?_) | fail)
    apply Yj (nrs none 0 [] :: H)
    · intro w hw
      have h5 : St B w0 H w := by
        revert w
        exact zk
      exact h5.nilSlice _ _
    apply Ub; exact rfl; exact rfl; exact rfl; exact rfl; exact rfl
    exact ⟨none, 0, rfl, rfl⟩
  | some b =>
    rw [hb] at hR p2
    dsimp only [WW] at hR p2
    subst hR
    repeat' (first | ((first | apply Ya en85 | apply Yb en85); exact za; exact rfl; exact fun _ hw => (p1 (hi.mono zk) hw)) | apply (zs1 ?_) | apply (zs2 ?_) | (apply zg3; refine zs8 ?_) | (apply zg8; (refine zs16 ?_ ?_ <;> intro _ <;> try (exfalso; omega))) | (apply zg22; refine zs51 ?_) | (apply zg23; (refine zs52 ?_; intro _)) | (apply zg24; (refine zs54 ?_; intro _)) | (apply zg25; refine zs55 ?_) | apply (zs65 ?_) | apply (zs68 ?_) | apply (zs69 ?_) | apply (zs70 ?_) | (apply zg27; refine zs72 ?_) | apply (zs76 ?_) | fail)
    apply Ys _ en86
    exact za
    exact rfl
    exact fun _ hw => (p2 (hi.mono zk) (hw))
    rintro _ _ ⟨A2, cap2, rfl, rfl⟩
    repeat' (first | apply (zs1 ?_) | apply (zs2 ?_) | apply (zs13 ?_) | (apply zg20; refine zs47 ?_) | apply (zs65 ?_) | apply (zs68 ?_) | apply (zs69 ?_) | apply (zs70 ?_) | (apply zg27; refine zs72 ?_) | apply (zs74 ?_) | apply (zs76 ?_) | fail)
    apply Yj (nrs A2 cap2 b.2.2 :: H)
    · exact zk
    apply Ub; exact rfl; exact rfl; exact rfl; exact rfl; exact rfl
    exact ⟨A2, cap2, rfl, rfl⟩
open Go.RowKit Go.Eng Go.Nw Go.Rt
set_option maxRecDepth 10000 in
theorem WI (l : List Int) (hlen : l.length ≤ 1000) {A : Option Addr} {cap B : Nat} {w0 : World} {H : List HP} {w : World} (hr : Rd B w0 H A (l.flatMap numF)) (hw : St B w0 H w) :
    Calls Tryz.prog 122 [.slice A l.length cap].toArray w (Post B w0 fun v K => ∃ A' cap', v = .slice A' l.length cap' ∧ K = sl 3 1 A' l.length cap' (l.flatMap numF) :: H) := by
  cases A with
  | none =>
    have hl : l = [] := by
      cases l with
      | nil => rfl
      | cons x l =>
        obtain ⟨g, o, e, _⟩ := hr w hw 0 _ rfl
        cases e
    subst hl
    refine Yd Tryz.func122 Tryz.ntmps122 rfl rfl hw ?_
    repeat' (first | (apply Vm; exact rfl; exact rfl; exact rfl) | apply (zs1 ?_) | apply (zs2 ?_) | apply (zs65 ?_) | apply (zs68 ?_) | apply (zs69 ?_) | apply (zs70 ?_) | (apply zg27; refine zs71 ?_) | apply (zs74 ?_) | apply (zs77 ?_) | fail)
    apply Wh 3 1; apply Yc; exact rfl; exact rfl; exact ⟨none, 0, rfl, rfl⟩
  | some a =>
    refine Yd Tryz.func122 Tryz.ntmps122 rfl rfl hw ?_
    repeat' (first | (apply Vm; exact rfl; exact rfl; exact rfl) | (apply Ve T; exact rfl; exact rfl; intro g2) | apply (zs1 ?_) | apply (zs2 ?_) | apply (zs65 ?_) | apply (zs68 ?_) | apply (zs69 ?_) | apply (zs70 ?_) | (apply zg27; refine zs72 ?_) | apply (zs76 ?_) | fail)
    apply Ue T (f := numF) (l2 := l) (e := 3) (size := 1) (xs := []); exact rfl; exact rfl; exact rfl; exact hr.cons; exact (fun _ => rfl); exact (fun _ => rfl); exact rfl; (intro _ _; exact zd); omega; intro A' cap'
    repeat' (first | apply (zs2 ?_) | apply (zs65 ?_) | apply (zs68 ?_) | apply (zs74 ?_) | fail)
    rw [Nat.zero_add, List.nil_append]
    apply Yc; exact rfl; exact rfl; exact ⟨A', cap', rfl, rfl⟩
abbrev clA (g : Nat) (c : ClM) : HP := blk g (.cells #[.int .i64 c.flow, .slice c.rA c.rs.length c.rcap, .slice c.bA c.bs.length c.bcap, .slice c.wA c.ws.length c.wcap, .slice c.sA c.ss.length c.scap] 61 (0, 0))
theorem V6 (e : Nat) (A : Option Addr) (cap : Nat) (l : List RowM) (r : RowM) : sl e 1 A (l.length + 1) cap (l.flatMap rowF ++ #[Value.slice r.A r.xs.length r.cap].toList) = sl e 1 A (l ++ [r]).length cap ((l ++ [r]).flatMap rowF) := by simp [List.flatMap_append, rowF]
theorem Vv (f : RowM → HP) (l : List RowM) (r : RowM) (H : List HP) : Perm (f r :: many (l.map f) :: H) (many ((l ++ [r]).map f) :: H) := by
  have := Perm.push (f r) (l.map f) [] H
  rw [List.append_nil] at this
  rw [List.map_append]
  exact this
theorem Yb3 {S : Int → Option (List Int)} {len per : Int} {N : Nat} (hS : ∀ a l, S a = some l → l.length ≤ N) : ∀ {k : Nat} {rel : Int} {b0 b : Int × Int × List Int}, b0.2.2.length ≤ N → Wt S len per k rel b0 = some b → b.2.2.length ≤ N
  | 0, rel, b0, b, h0, h => by
    unfold Wt at h
    rw [← Option.some.inj h]; exact h0
  | k + 1, rel, b0, b, h0, h => by
    unfold Wt at h
    split at h
    · rw [← Option.some.inj h]; exact h0
    cases hs : S rel with
    | none => rw [hs] at h; cases h
    | some l =>
      rw [hs] at h
      refine Yb3 hS ?_ h
      split
      · show (l.map _).length ≤ N
        rw [List.length_map]; exact hS _ _ hs
      · exact h0
theorem YdZ {x : WayM} (hok : JW x) {b : Int × Int × List Int} (h : Vf x.n.net x.s.sch x.f x.r = some b) : b.2.2.length ≤ 72 := by
  have hl := hok.len
  refine Yb3 (fun a l hs => ?_) (Nat.zero_le _) h
  rw [UD] at hs
  split at hs
  · cases hs
  rw [← Option.some.inj hs, List.length_map]
  have h1 : (runW x a).length ≤ Xc (YB x.n.net x.r) := YaZ _ _ _ _ _
  have h2 := WL hok (YB x.n.net x.r).length
  rw [List.take_length, Ju] at h2
  omega
structure M8 (xs : List Int) where
  A1 : Option Addr
  c1 : Nat
  r : RowM
  hr : r.xs = xs
  A3 : Option Addr
  c3 : Nat
structure CkM where
  i : Nat
  c : ClM
def ClM.lens (c : ClM) : Prop := (c.rs.length ≤ 1000 ∧ c.bs.length ≤ 1000 ∧ c.ws.length ≤ 1000 ∧ c.ss.length ≤ 1000) ∧ (∀ r ∈ c.rs, r.xs.length ≤ 1000) ∧ ∀ r ∈ c.ss, r.xs.length ≤ 1000
set_option maxRecDepth 10000 in
set_option maxHeartbeats 8000000 in
theorem YcD (n : NetM) (s : SchM) (x : RqM) {B : Nat} {w0 : World} {H : List HP} {w : World} (ht : TabsB B w0) (hin : n.In B w0 H) (hrs : Rd B w0 H s.A (s.cells.flatMap celF)) (hsl : s.cells.length ≤ 1000000000000) (hx : x.In B w0 H) (hr9 : x.rows.length ≤ 9) (hw : St B w0 H w) :
    Calls Tryz.prog 69 [n.val, s.val, rqV x].toArray w (Post B w0 fun v K => ∃ c : ClM, v = .tuple #[clV c, .bool (!(VG n.net s.sch x.rq))] ∧ (VG n.net s.sch x.rq = false → c.clm = clmE n.net s.sch x.rq ∧ c.lens) ∧ K = clQ c :: H) := by
  refine Yd Tryz.func69 Tryz.ntmps69 rfl rfl hw ?_
  have e1 : x.rq.1 = x.f := rfl
  have p1 := fun {H' : List HP} {w : World} (r : RowM) (hr : r ∈ x.rows) (hin : n.In B w0 H') (hrs : Rd B w0 H' s.A (s.cells.flatMap celF)) (hx : x.In B w0 H') (hw : St B w0 H' w) => YcI ⟨n, s, x.f, r.A, r.cap, r.xs⟩ ht ⟨hin, hrs, hx.rw_ r hr, hsl, (hx.rl r hr).1, (hx.rl r hr).2⟩ hw
  unfold NetM.val SchM.val rqV
  repeat' (first | apply (zs1 ?_) | apply (zs2 ?_) | (apply zg2; refine zs6 ?_) | (apply zg3; refine zs7 ?_) | (apply zg4; refine zs9 ?_) | (apply zg22; refine zs51 ?_) | (apply zg23; (refine zs52 ?_; intro _)) | (apply zg24; (refine zs54 ?_; intro _)) | (apply zg25; refine zs55 ?_) | apply (zs65 ?_) | apply (zs68 ?_) | apply (zs69 ?_) | apply (zs70 ?_) | apply (zs73 ?_) | fail)
  rename_i g3 g4 g5 g6 g8
  have hln : x.rq.2 = x.rows.map (·.xs) := rfl
  obtain ⟨P, hP⟩ : ∃ P, badR n.net s.sch x.f = P := ⟨_, rfl⟩
  have hla : VG n.net s.sch x.rq = (x.rows.map (·.xs)).any P := by unfold VG; rw [hln, e1, hP]
  rw [hla]
  refine Yk (fun z : CkM => [(22, .int .i64 (z.i : Nat)), (21, .int .i64 x.rows.length), (20, .slice x.A x.rows.length x.cap), (8, .pointer (some ⟨g8, 0, none⟩)), (6, .pointer (some ⟨g6, 0, none⟩)), (5, .pointer (some ⟨g5, 0, none⟩)), (4, .pointer (some ⟨g4, 0, none⟩)), (3, .pointer (some ⟨g3, 0, none⟩))]) (fun z => clA g8 z.c :: clQ z.c :: clA g6 (nilC 0) :: rqA g5 x :: schA g4 s :: netA g3 n :: H)
    (fun z => z.i ≤ x.rows.length ∧ z.c.clm = Yb1 n.net s.sch x.rq ((x.rows.take z.i).map (·.xs)) ∧ z.c.lens ∧ ((x.rows.take z.i).map (·.xs)).any P = false) (fun z => x.rows.length - z.i) ⟨0, nilC x.f.1⟩ ⟨Nat.zero_le _, rfl, ⟨by unfold nilC; simp, by unfold nilC; simp, by unfold nilC; simp⟩, by simp⟩ ?_ ?_ ?_
  · exact zu
  · intro w hw
    have h1 := Oz x.f.1 hw
    have h2 : St B w0 (clQ (nilC x.f.1) :: clA g8 (nilC x.f.1) :: clA g6 (nilC 0) :: rqA g5 x :: schA g4 s :: netA g3 n :: H) w := h1
    clear hw h1
    revert w
    exact zk
  rintro ⟨i, c⟩ ⟨hi, hcm, hlen, hno⟩ K hK
  dsimp only at hi hcm hlen hno ⊢
  have hrt : Rd B w0 (clA g8 c :: clQ c :: clA g6 (nilC 0) :: rqA g5 x :: schA g4 s :: netA g3 n :: H) x.A (x.rows.flatMap rowF) := hx.rt.cons.cons.cons.cons.cons.cons
  by_cases hlt : i < x.rows.length
  rotate_left
  · obtain rfl : i = x.rows.length := by omega
    rw [List.take_length] at hcm hno
    rw [hno]
    clear hK
    repeat' (first | apply (zs2 ?_) | (apply zg3; refine zs8 ?_) | (apply (zs17 ?_ ?_) <;> intro _ <;> try (exfalso; omega)) | (apply zg22; refine zs51 ?_) | apply (zs65 ?_) | apply (zs68 ?_) | apply (zs69 ?_) | apply (zs70 ?_) | (apply zg27; refine zs72 ?_) | apply (zs74 ?_) | apply (zs75 ?_) | apply (zs80 ?_) | apply (zs81 ?_) | fail)
    apply Ycu T (H2 := clQ c :: H); exact rfl; exact rfl; exact rfl; exact zm; exact rfl; exact rfl; exact zk
    exact ⟨c, rfl, fun _ => ⟨hcm, hlen⟩, rfl⟩
  obtain ⟨r, hr⟩ : ∃ r, x.rows[i]? = some r := ⟨_, List.getElem?_eq_getElem hlt⟩
  have hrm := List.mem_of_getElem? hr
  have hri := hx.rw_ r hrm
  have p2 := fun {H' : List HP} {w : World} (hin : n.In B w0 H') (hrs : Rd B w0 H' s.A (s.cells.flatMap celF)) (hx : x.In B w0 H') (hw : St B w0 H' w) => p1 r hrm hin hrs hx hw
  dsimp only at p2
  obtain ⟨⟨⟨m, wst, sx⟩, e⟩, hRt⟩ : ∃ z, Xe n.net s.sch x.f r.xs = z := ⟨_, rfl⟩
  rw [hRt] at p2
  dsimp only at p2
  unfold flwV at p2
  repeat' (first | (apply Y5 T; exact rfl; exact zm; exact rfl; exact zv; exact rfl; exact rfl) | apply (zs1 ?_) | apply (zs2 ?_) | (apply zg2; refine zs6 ?_) | (apply zg3; refine zs60 ?_) | (apply zg5; refine zs57 ?_) | (apply (zs17 ?_ ?_) <;> intro _ <;> try (exfalso; omega)) | apply (zs65 ?_) | apply (zs68 ?_) | apply (zs69 ?_) | apply (zs70 ?_) | (apply zg27; refine zs71 ?_) | apply (zs73 ?_) | apply (zs76 ?_) | fail)
  apply Ys _ en34
  exact za
  exact rfl
  exact fun _ hw => (p2 (hin.mono zk) (hrs.mono zk) (hx.mono zk) (hw))
  rintro _ _ ⟨A2, cap2, rfl, rfl⟩
  have hPr : P r.xs = decide (e ≠ 0 ∨ x.f.2.2.2.2.2 < m) := by rw [← hP]; unfold badR; rw [hRt]
  by_cases hbad : e ≠ 0 ∨ x.f.2.2.2.2.2 < m
  · rw [decide_eq_true hbad] at hPr
    have hany : (x.rows.map (·.xs)).any P = true := List.any_eq_true.2 ⟨r.xs, List.mem_map_of_mem hrm, hPr⟩
    rw [hany]
    clear hK
    by_cases he0 : e = 0
    all_goals (
      repeat' (first | apply (zs1 ?_) | apply (zs2 ?_) | (apply zg1; first | refine zs3 ?_ | refine zs4 ?_) | (apply zg2; refine zs6 ?_) | (apply zg3; refine zs7 ?_) | (apply zg6; first | refine zs11 ?_ | refine zs12 ?_) | apply (zs13 ?_) | (apply zg8; (refine zs16 ?_ ?_ <;> intro _ <;> try (exfalso; omega))) | (apply (zs19 ?_ ?_) <;> intro _ <;> try (exfalso; omega)) | (apply zg22; refine zs51 ?_) | (apply zg25; refine zs55 ?_) | apply (zs65 ?_) | apply (zs68 ?_) | apply (zs69 ?_) | apply (zs70 ?_) | (apply zg27; refine zs71 ?_) | apply (zs74 ?_) | apply (zs77 ?_) | apply (zs78 ?_) | fail)
      apply Ycu T (H2 := clQ (nilC 0) :: H); exact rfl; exact rfl; exact rfl; exact zm; exact rfl; exact rfl
      · intro w hw
        have h5 : St B w0 H w := by
          revert w
          exact zk
        exact Oz 0 h5
      exact ⟨nilC 0, rfl, (fun h => by cases h), rfl⟩)
  rw [decide_eq_false hbad] at hPr
  have he0 : e = 0 := Decidable.byContradiction fun h => hbad (.inl h)
  have hml : m ≤ x.f.2.2.2.2.2 := by omega
  subst he0
  obtain ⟨hri9, hsx9⟩ : r.xs.length ≤ 9 ∧ sx.length ≤ 72 := by
    have h0 : (Xe n.net s.sch x.f r.xs).2 = 0 := by rw [hRt]
    obtain ⟨h1, b, h2, h3⟩ := YeJ h0
    have hok := Ydt (x := ⟨n, s, x.f, r.A, r.cap, r.xs⟩) h1
    have h4 := YdZ hok h2
    rw [hRt] at h3
    injection h3 with h3 _
    rw [← h3] at h4
    exact ⟨hok.len.2, h4⟩
  have hinv : ∀ (A1 : Option Addr) (c1 : Nat) (r8 : RowM) (_ : r8.xs = r.xs) (A3 : Option Addr) (c3 : Nat) (A4 : Option Addr) (c4 : Nat) (A5 : Option Addr) (c5 : Nat), (i + 1 ≤ x.rows.length ∧ (ClM.mk c.flow A1 c1 (c.rs ++ [r8]) A3 c3 (c.bs ++ [m]) A4 c4 (c.ws ++ [wst]) A5 c5 (c.ss ++ [⟨A2, cap2, sx⟩])).clm = Yb1 n.net s.sch x.rq ((x.rows.take (i + 1)).map (·.xs)) ∧ (ClM.mk c.flow A1 c1 (c.rs ++ [r8]) A3 c3 (c.bs ++ [m]) A4 c4 (c.ws ++ [wst]) A5 c5 (c.ss ++ [⟨A2, cap2, sx⟩])).lens ∧ ((x.rows.take (i + 1)).map (·.xs)).any P = false) := by
    intro A1 c1 r8 hr8 A3 c3 A4 c4 A5 c5
    have hst : (x.rows.take (i + 1)).map (·.xs) = (x.rows.take i).map (·.xs) ++ [r.xs] := by
      rw [List.take_add_one, hr, Option.toList_some, List.map_append]; rfl
    have hli : ((x.rows.take i).map (·.xs)).length = i := by rw [List.length_map, List.length_take]; omega
    rw [hst]
    unfold ClM.clm Yb1 at hcm
    injection hcm with f1 f2 f3 f4 f5
    have l1 : c.rs.length = i := by rw [← hli, ← f2, List.length_map]
    have l2 : c.bs.length = i := by rw [f3, List.length_map, hli]
    have l3 : c.ws.length = i := by rw [f4, List.length_map, hli]
    have l4 : c.ss.length = i := by
      have := congrArg List.length f5
      rw [List.length_map, List.length_map, hli] at this
      exact this
    refine ⟨by omega, ?_, ⟨?_, ?_, ?_⟩, ?_⟩
    · unfold ClM.clm Yb1
      simp only [List.map_append, List.map_cons, List.map_nil, hr8, f1, f2, f3, f4, f5, e1, hRt]
    · simp only [List.length_append, List.length_cons, List.length_nil, l1, l2, l3, l4]
      omega
    · intro q hq
      rcases List.mem_append.1 hq with h | h
      · exact hlen.2.1 q h
      · rw [List.mem_singleton.1 h, hr8]; omega
    · intro q hq
      rcases List.mem_append.1 hq with h | h
      · exact hlen.2.2 q h
      · rw [List.mem_singleton.1 h]; show sx.length ≤ 1000; omega
    · rw [List.any_append, hno]
      simp [hPr]
  repeat' (first | apply (zs1 ?_) | apply (zs2 ?_) | (apply zg1; refine zs4 ?_) | (apply zg2; refine zs6 ?_) | (apply zg3; refine zs7 ?_) | (apply zg6; refine zs12 ?_) | apply (zs13 ?_) | (apply zg8; (refine zs16 ?_ ?_ <;> intro _ <;> try (exfalso; omega))) | (apply (zs19 ?_ ?_) <;> intro _ <;> try (exfalso; omega)) | apply (zs65 ?_) | apply (zs68 ?_) | apply (zs69 ?_) | apply (zs70 ?_) | (apply zg27; refine zs72 ?_) | apply (zs76 ?_) | fail)
  refine YfU (nrs A2 cap2 sx :: clA g8 c :: sl 72 1 c.rA c.rs.length c.rcap (c.rs.flatMap rowF) :: many (c.rs.map rowQ) :: nrs c.bA c.bcap c.bs :: nrs c.wA c.wcap c.ws :: sl 24 1 c.sA c.ss.length c.scap (c.ss.flatMap rowF) :: many (c.ss.map rowQ) :: clA g6 (nilC 0) :: rqA g5 x :: schA g4 s :: netA g3 n :: H) (fun w hw => hw.perm (.cons _ (.cons _ (.open_ (clP c) _)))) ?_
  have hl1 := hlen.1
  refine Yav (fun z : M8 r.xs => [(22, .int .i64 (i : Nat)), (21, .int .i64 x.rows.length), (20, .slice x.A x.rows.length x.cap), (8, .pointer (some ⟨g8, 0, none⟩)), (6, .pointer (some ⟨g6, 0, none⟩)), (5, .pointer (some ⟨g5, 0, none⟩)), (4, .pointer (some ⟨g4, 0, none⟩)), (3, .pointer (some ⟨g3, 0, none⟩)), (13, .slice A2 sx.length cap2), (12, .int .i64 wst)])
    (fun z => nrs A2 cap2 sx :: blk g8 (.cells #[.int .i64 c.flow, .slice z.A1 (c.rs ++ [z.r]).length z.c1, .slice z.A3 (c.bs ++ [m]).length z.c3, .slice c.wA c.ws.length c.wcap, .slice c.sA c.ss.length c.scap] 61 (0, 0)) :: sl 72 1 z.A1 (c.rs ++ [z.r]).length z.c1 ((c.rs ++ [z.r]).flatMap rowF) :: many ((c.rs ++ [z.r]).map rowQ) :: nrs z.A3 z.c3 (c.bs ++ [m]) :: nrs c.wA c.wcap c.ws :: sl 24 1 c.sA c.ss.length c.scap (c.ss.flatMap rowF) :: many (c.ss.map rowQ) :: clA g6 (nilC 0) :: rqA g5 x :: schA g4 s :: netA g3 n :: H) ?_ ?_
  · intro K8 hK8
    apply OG (.n1 0 (.n1 1 (.n1 2 (.n1 6 (.n1 7 (.n1 8 (.n2 3 (.n2 4 (.n2 5 (.n1 11 (.n1 9 (.n1 10 .done))) 9 (.n1 5 (.n1 11 (.n1 10 .done)))) 9 (.n1 4 (.n1 5 (.n1 11 (.n1 10 .done))))) 9 (.n1 3 (.n1 4 (.n1 5 (.n1 11 (.n1 10 .done)))))))))))) [12, 13, 14] [false, true]
    kernel_rfl
    kernel_rfl
    exact zy
    (simp only [Yi, nthO]; rfl)
    repeat' (first | ((apply Ys _ YhA); exact za; exact rfl; exact fun _ hw => WI r.xs (by omega) (hri.mono zk) hw; rintro _ _ ⟨A8, cap8, rfl, rfl⟩) | (apply YeP; (simp only [nthO]; rfl); (simp only [nthO]; rfl)) | (apply YeG; (simp only [nthO]; rfl)) | (apply W0; (repeat (first | with_reducible exact Yh | (with_reducible apply Yg; (repeat (first | with_reducible exact Yf | with_reducible apply Ye)))))) | (apply YaG; exact zp) | apply (zs1 ?_) | (apply zg2; refine zs6 ?_) | (apply zg3; refine zs7 ?_) | (apply zg21; (refine zs49 ?_; intro _ _)) | (apply zg22; refine zs50 ?_) | (apply zg26; (refine zs56 ?_; intro _)) | apply (zs65 ?_) | (apply Yp; exact zp) | apply (zs87 ?_) | (apply Ym; (repeat (first | with_reducible exact Yh | (with_reducible apply Yg; (repeat (first | with_reducible exact Yf | with_reducible apply Ye)))))) | apply (zs93 ?_) | apply (zs94 ?_) | fail)
    all_goals (
      first
        | (rename_i A1 c1 g A3 c3; guard_hyp g : Nat; guard_hyp A1 : Option Addr)
        | (rename_i A1 c1 A3 c3; guard_hyp A1 : Option Addr)
      refine hK8 ⟨A1, c1, ⟨A8, cap8, r.xs⟩, rfl, A3, c3⟩ _ _ zu ?_
      intro w hw
      have q1 : sl 72 1 A1 (c.rs.length + 1) c1 (c.rs.flatMap rowF ++ #[Value.slice A8 r.xs.length cap8].toList) = sl 72 1 A1 (c.rs ++ [(⟨A8, cap8, r.xs⟩ : RowM)]).length c1 ((c.rs ++ [(⟨A8, cap8, r.xs⟩ : RowM)]).flatMap rowF) := V6 _ _ _ _ ⟨A8, cap8, r.xs⟩
      rw [q1, Jf, show c.rs.length + 1 = (c.rs ++ [(⟨A8, cap8, r.xs⟩ : RowM)]).length by simp, show c.bs.length + 1 = (c.bs ++ [m]).length by simp] at hw
      have h5 : St B w0 (nrs A2 cap2 sx :: blk g8 (.cells #[.int .i64 c.flow, .slice A1 (c.rs ++ [(⟨A8, cap8, r.xs⟩ : RowM)]).length c1, .slice A3 (c.bs ++ [m]).length c3, .slice c.wA c.ws.length c.wcap, .slice c.sA c.ss.length c.scap] 61 (0, 0)) :: sl 72 1 A1 (c.rs ++ [(⟨A8, cap8, r.xs⟩ : RowM)]).length c1 ((c.rs ++ [(⟨A8, cap8, r.xs⟩ : RowM)]).flatMap rowF) :: sl 3 1 A8 r.xs.length cap8 (r.xs.flatMap numF) :: many (c.rs.map rowQ) :: nrs A3 c3 (c.bs ++ [m]) :: nrs c.wA c.wcap c.ws :: sl 24 1 c.sA c.ss.length c.scap (c.ss.flatMap rowF) :: many (c.ss.map rowQ) :: clA g6 (nilC 0) :: rqA g5 x :: schA g4 s :: netA g3 n :: H) w := by
        clear q1
        revert w
        exact zk
      exact h5.perm (.cons _ (.cons _ (.cons _ (Vv rowQ c.rs ⟨A8, cap8, r.xs⟩ _)))))
  rintro ⟨A1, c1, r8, hr8, A3, c3⟩
  dsimp only
  repeat' (first | fail)
  apply OG (.n1 0 (.n1 1 (.n1 2 (.n1 5 (.n1 6 (.n1 7 (.n2 3 (.n2 4 (.n1 10 (.n1 8 (.n1 9 .done))) 8 (.n1 4 (.n1 10 (.n1 9 .done)))) 8 (.n1 3 (.n1 4 (.n1 10 (.n1 9 .done))))))))))) [11, 12, 13] [false, true]
  kernel_rfl
  kernel_rfl
  exact zy
  (simp only [Yi, nthO]; rfl)
  repeat' (first | (apply YeP; (simp only [nthO]; rfl); (simp only [nthO]; rfl)) | (apply YeG; (simp only [nthO]; rfl)) | (apply W0; (repeat (first | with_reducible exact Yh | (with_reducible apply Yg; (repeat (first | with_reducible exact Yf | with_reducible apply Ye)))))) | (apply YaG; exact zp) | apply (zs1 ?_) | (apply zg2; refine zs6 ?_) | (apply zg3; refine zs7 ?_) | (apply zg13; refine zs30 ?_) | (apply zg21; (refine zs49 ?_; intro _ _)) | (apply zg22; refine zs50 ?_) | (apply zg26; (refine zs56 ?_; intro _)) | apply (zs65 ?_) | (apply Yp; exact zp) | apply (zs68 ?_) | apply (zs70 ?_) | apply (zs79 ?_) | apply (zs87 ?_) | (apply Ym; (repeat (first | with_reducible exact Yh | (with_reducible apply Yg; (repeat (first | with_reducible exact Yf | with_reducible apply Ye)))))) | apply (zs93 ?_) | apply (zs94 ?_) | fail)
  all_goals (
    first
      | (rename_i A4 c4 g A5 c5; guard_hyp g : Nat; guard_hyp A4 : Option Addr)
      | (rename_i A4 c4 A5 c5; guard_hyp A4 : Option Addr)
    refine hK ⟨i + 1, ⟨c.flow, A1, c1, c.rs ++ [r8], A3, c3, c.bs ++ [m], A4, c4, c.ws ++ [wst], A5, c5, c.ss ++ [⟨A2, cap2, sx⟩]⟩⟩ ?_ ?_ _ _ zu ?_
    · exact hinv A1 c1 r8 hr8 A3 c3 A4 c4 A5 c5
    · dsimp only; omega
    intro w hw
    have q1 : sl 24 1 A5 (c.ss.length + 1) c5 (c.ss.flatMap rowF ++ #[Value.slice A2 sx.length cap2].toList) = sl 24 1 A5 (c.ss ++ [(⟨A2, cap2, sx⟩ : RowM)]).length c5 ((c.ss ++ [(⟨A2, cap2, sx⟩ : RowM)]).flatMap rowF) := V6 _ _ _ _ ⟨A2, cap2, sx⟩
    rw [q1, Jf, show c.ss.length + 1 = (c.ss ++ [(⟨A2, cap2, sx⟩ : RowM)]).length by simp, show c.ws.length + 1 = (c.ws ++ [wst]).length by simp] at hw
    have h5 : St B w0 (blk g8 (.cells #[.int .i64 c.flow, .slice A1 (c.rs ++ [r8]).length c1, .slice A3 (c.bs ++ [m]).length c3, .slice A4 (c.ws ++ [wst]).length c4, .slice A5 (c.ss ++ [(⟨A2, cap2, sx⟩ : RowM)]).length c5] 61 (0, 0)) :: sl 72 1 A1 (c.rs ++ [r8]).length c1 ((c.rs ++ [r8]).flatMap rowF) :: many ((c.rs ++ [r8]).map rowQ) :: nrs A3 c3 (c.bs ++ [m]) :: nrs A4 c4 (c.ws ++ [wst]) :: sl 24 1 A5 (c.ss ++ [(⟨A2, cap2, sx⟩ : RowM)]).length c5 ((c.ss ++ [(⟨A2, cap2, sx⟩ : RowM)]).flatMap rowF) :: nrs A2 cap2 sx :: many (c.ss.map rowQ) :: clA g6 (nilC 0) :: rqA g5 x :: schA g4 s :: netA g3 n :: H) w := by
      clear q1
      revert w
      exact zk
    have h6 := h5.perm (.cons _ (.cons _ (.cons _ (.cons _ (.cons _ (.cons _ (Vv rowQ c.ss ⟨A2, cap2, sx⟩ _)))))))
    exact h6.perm (.cons _ (.close [_, _, _, _, _, _] _)))
end Go.Proofs.YtmalhidldgfeoaaGreatDoor
