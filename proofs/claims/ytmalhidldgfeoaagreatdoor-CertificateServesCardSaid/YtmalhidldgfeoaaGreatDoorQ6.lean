/- Lemmas for the claim, part 6. -/
import Derived.Test.YtmalhidldgfeoaaGreatDoorQ5

namespace Go.Eng
open Go.RowKit
section
variable {P : Program} {B : Nat} {w0 : World} {Q : Exit → Act → World → Prop} {env : Env} {H : List HP} {m : Mode} {n : Shp} {ops : Array Oper} {rest : List Oper} {d : Nat} {ty : TypeId} {pos : String} {after : Array Edge}
theorem Yij {tx : Array TypeId} {x y : Operand} {a b : Int} {k k' : IntKind} (hx : evo env x = some (.int k a)) (hy : evo env y = some (.int k' b)) (hn : Nat.ble (d + 1) n.k = true) (h : VL P m n B w0 ops Q rest ((d, .int k (if a < b then b else a)) :: env) H) :
    VL P m n B w0 ops Q (⟨some d, .call ⟨.builtin .max, #[x, y], tx⟩, ty, pos, after, none⟩ :: rest) env H :=
  Yv rfl rfl hn rfl (fun f w ha _ => by simp [execOp, resolve, invoke, builtin, ha.eval hx, ha.eval hy, run_max_int2]) h
end
end Go.Eng
namespace Go.Proofs.YtmalhidldgfeoaaGreatDoor
open Go.RowKit Go.Eng Go.Nw Go.Rt
set_option maxRecDepth 10000 in
theorem YbR (q : List RqM) {A : Option Addr} {cap B : Nat} {w0 : World} {H : List HP} {w : World} (hl : q.length ≤ 1000000000000) (hr : Rd B w0 H A (q.flatMap rqF)) (hw : St B w0 H w) :
    Calls Tryz.prog 32 [.slice A q.length cap].toArray w (Post B w0 fun v K => ∃ A2 cap2, v = .slice A2 (RqM.fl q).length cap2 ∧ K = flws A2 cap2 (RqM.fl q) :: H) := by
  refine Yc Tryz.func32 Tryz.ntmps32 rfl rfl hw ?_
  repeat' (first | (apply Xc T; exact rfl; exact rfl; intro g2) | apply (zs2 ?_) | apply (zs65 ?_) | apply (zs68 ?_) | apply (zs69 ?_) | apply (zs70 ?_) | apply (zs73 ?_) | fail)
  refine Yk (fun z : FlM => [(4, .int .i64 (z.i : Nat)), (3, .slice z.A (RqM.fl (q.take z.i)).length z.cap), (0, .slice A q.length cap)]) (fun z => flws z.A z.cap (RqM.fl (q.take z.i)) :: H) (fun z => z.i ≤ q.length) (fun z => q.length - z.i) ⟨0, some ⟨g2, 0, none⟩, 0⟩ (Nat.zero_le _) ?_ (fun w hw => hw) ?_
  · exact zu
  rintro ⟨i, A2, cap2⟩ hi K hK
  dsimp only at hi ⊢
  have hlen : (RqM.fl (q.take i)).length = i := by unfold RqM.fl; rw [List.length_map, List.length_take]; omega
  have hr' := hr.cons (X := flws A2 cap2 (RqM.fl (q.take i)))
  by_cases hlt : i < q.length
  · obtain ⟨x, hx⟩ : ∃ x, q[i]? = some x := ⟨_, List.getElem?_eq_getElem hlt⟩
    have hst : RqM.fl (q.take (i + 1)) = RqM.fl (q.take i) ++ [x.f] := by unfold RqM.fl; rw [List.take_add_one, hx, Option.toList_some, List.map_append]; rfl
    repeat' (first | (apply QN T (vs := [.int .i64 x.f.1, .int .i64 x.f.2.1, .int .i64 x.f.2.2.1, .int .i64 x.f.2.2.2.1, .int .i64 x.f.2.2.2.2.1, .int .i64 x.f.2.2.2.2.2]); exact rfl; exact hr'; exact hx; exact fun _ => rfl; exact rfl; exact rfl; exact rfl; exact rfl; exact rfl; exact rfl) | apply (zs1 ?_) | apply (zs2 ?_) | (apply zg2; refine zs58 ?_) | (apply zg4; refine zs9 ?_) | (apply zg5; refine zs57 ?_) | (apply (zs17 ?_ ?_) <;> intro _ <;> try (exfalso; omega)) | (apply zg13; refine zs30 ?_) | (apply zg21; (refine zs49 ?_; intro _ _)) | (apply zg26; (refine zs56 ?_; intro _)) | apply (zs65 ?_) | apply (zs68 ?_) | apply (zs69 ?_) | apply (zs70 ?_) | (apply zg27; refine zs71 ?_) | apply (zs73 ?_) | apply (zs76 ?_) | apply (zs79 ?_) | fail)
    rename_i A' cap'
    rw [YaJ, ← hst, show (RqM.fl (q.take i)).length + 1 = (RqM.fl (q.take (i + 1))).length from by rw [hst]; simp]
    apply hK ⟨i + 1, A', cap'⟩
    · show i + 1 ≤ _
      omega
    · dsimp only; omega
    · exact zu
    · exact zk
  · obtain rfl : i = q.length := by omega
    rw [List.take_length]
    repeat' (first | apply (zs1 ?_) | apply (zs2 ?_) | (apply zg4; refine zs9 ?_) | (apply (zs17 ?_ ?_) <;> intro _ <;> try (exfalso; omega)) | apply (zs65 ?_) | apply (zs68 ?_) | apply (zs69 ?_) | apply (zs70 ?_) | (apply zg27; refine zs72 ?_) | apply (zs74 ?_) | apply (zs75 ?_) | apply (zs80 ?_) | apply (zs81 ?_) | fail)
    apply Yd; exact rfl; exact rfl
    exact ⟨A2, cap2, rfl, rfl⟩
def Qj (f : Flw) (x : Clm) : Bool := decide (x.flow = f.1)
abbrev flwB (g : Nat) (f : Flw) : HP := blk g (.cells #[.int .i64 f.1, .int .i64 f.2.1, .int .i64 f.2.2.1, .int .i64 f.2.2.2.1, .int .i64 f.2.2.2.2.1, .int .i64 f.2.2.2.2.2] 68 (0, 0))
theorem YdL (x : ClM) (f : Flw) (g : Nat) {B : Nat} {w0 : World} {H : List HP} {w : World} (hm : flwB g f ∈ H) (hw : St B w0 H w) :
    Calls Tryz.prog 88 [clV x, .pointer (some ⟨g, 0, none⟩)].toArray w (Post B w0 fun v K => v = .bool (Qj f x.clm) ∧ K = H) := by
  refine Yc Tryz.func88 Tryz.ntmps88 rfl rfl hw ?_
  have e1 : Qj f x.clm = decide (x.flow = f.1) := rfl
  unfold clV
  by_cases h1 : x.flow = f.1
  · rw [e1, decide_eq_true h1]
    repeat' (first | apply (zs2 ?_) | (apply zg2; refine zs6 ?_) | (apply zg3; refine zs7 ?_) | (apply zg7; (refine zs15 ?_ ?_ <;> intro _ <;> try (exfalso; omega))) | (apply zg23; (refine zs52 ?_; intro _)) | apply (zs65 ?_) | apply (zs68 ?_) | apply (zs69 ?_) | apply (zs70 ?_) | apply (zs74 ?_) | fail)
    apply Yi H
    · exact zk
    apply Yd; exact rfl; exact rfl; exact ⟨rfl, rfl⟩
  · rw [e1, decide_eq_false h1]
    repeat' (first | apply (zs2 ?_) | (apply zg2; refine zs6 ?_) | (apply zg3; refine zs7 ?_) | (apply zg7; (refine zs15 ?_ ?_ <;> intro _ <;> try (exfalso; omega))) | (apply zg23; (refine zs52 ?_; intro _)) | apply (zs65 ?_) | apply (zs68 ?_) | apply (zs69 ?_) | apply (zs70 ?_) | apply (zs74 ?_) | fail)
    apply Yi H
    · exact zk
    apply Yd; exact rfl; exact rfl; exact ⟨rfl, rfl⟩
set_option maxRecDepth 10000 in
set_option maxHeartbeats 2000000 in
theorem YbB (c : List ClM) (f : Flw) (g : Nat) {A : Option Addr} {cap B : Nat} {w0 : World} {H : List HP} {w : World} (hc : CIn B w0 H A c) (hm : flwB g f ∈ H) (hw : St B w0 H w) :
    Calls Tryz.prog 87 [.slice A c.length cap, .func (.func 88) #[] #[.pointer (some ⟨g, 0, none⟩)]].toArray w (Post B w0 fun v K => v = .int .i64 (idxC (Qj f) (c.map ClM.clm)) ∧ K = H) := by
  refine Yc Tryz.func87 Tryz.ntmps87 rfl rfl hw ?_
  have hcl := hc.ln
  have hcr := hc.rd
  repeat' (first | apply (zs1 ?_) | apply (zs2 ?_) | (apply zg4; refine zs9 ?_) | apply (zs65 ?_) | apply (zs68 ?_) | apply (zs69 ?_) | apply (zs70 ?_) | apply (zs73 ?_) | fail)
  refine Yk (fun k : Nat => [(8, .int .i64 (k : Nat)), (7, .int .i64 c.length), (6, .slice A c.length cap), (0, .slice A c.length cap), (1, .func (.func 88) #[] #[.pointer (some ⟨g, 0, none⟩)])]) (fun _ => H) (fun k => k ≤ c.length ∧ ∀ y ∈ (c.map ClM.clm).take k, Qj f y = false) (fun k => c.length - k) 0 ⟨Nat.zero_le _, by simp⟩ ?_ (fun w hw => hw) ?_
  · exact zu
  rintro k ⟨hk, hz⟩ K hK
  by_cases hlt : k < c.length
  · obtain ⟨x, hx⟩ : ∃ x, c[k]? = some x := ⟨_, List.getElem?_eq_getElem hlt⟩
    have hxm : (c.map ClM.clm)[k]? = some x.clm := by rw [List.getElem?_map, hx]; rfl
    have p1 := fun {w : World} (hw : St B w0 H w) => YdL x f g hm hw
    cases hb : Qj f x.clm with
    | true =>
      rw [hb] at p1
      have hi := (JE hz hxm hb).1
      rw [hi]
      clear hK
      repeat' (first | ((first | apply YC (cs := [.pointer (some ⟨g, 0, none⟩)]) | apply YX (cs := [.pointer (some ⟨g, 0, none⟩)])); exact rfl; exact en88; exact za; exact rfl; exact fun _ hw => (p1 hw)) | apply (zs1 ?_) | apply (zs2 ?_) | (apply zg3; refine zs61 ?_) | (apply zg5; refine zs57 ?_) | (apply (zs17 ?_ ?_) <;> intro _ <;> try (exfalso; omega)) | apply (zs65 ?_) | apply (zs68 ?_) | apply (zs69 ?_) | apply (zs70 ?_) | (apply zg27; refine zs71 ?_) | apply (zs73 ?_) | apply (zs74 ?_) | apply (zs76 ?_) | apply (zs77 ?_) | apply (zs78 ?_) | fail)
      apply Yd; exact rfl; exact rfl; exact ⟨rfl, rfl⟩
    | false =>
      rw [hb] at p1
      repeat' (first | ((first | apply YC (cs := [.pointer (some ⟨g, 0, none⟩)]) | apply YX (cs := [.pointer (some ⟨g, 0, none⟩)])); exact rfl; exact en88; exact za; exact rfl; exact fun _ hw => (p1 hw)) | apply (zs1 ?_) | apply (zs2 ?_) | (apply zg3; refine zs61 ?_) | (apply zg5; refine zs57 ?_) | (apply (zs17 ?_ ?_) <;> intro _ <;> try (exfalso; omega)) | (apply zg13; refine zs30 ?_) | apply (zs65 ?_) | apply (zs68 ?_) | apply (zs69 ?_) | apply (zs70 ?_) | (apply zg27; first | refine zs71 ?_ | refine zs72 ?_) | apply (zs73 ?_) | apply (zs76 ?_) | apply (zs79 ?_) | fail)
      apply hK (k + 1)
      · exact ⟨by omega, fun y hy => by
          rw [List.take_add_one, hxm, Option.toList_some] at hy
          rcases List.mem_append.1 hy with h | h
          · exact hz y h
          · rw [List.mem_singleton.1 h]; exact hb⟩
      · omega
      · exact zu
      · exact fun w hw => hw
  · rw [List.take_of_length_le (by rw [List.length_map]; omega)] at hz
    rw [VP hz]
    repeat' (first | apply (zs2 ?_) | (apply (zs17 ?_ ?_) <;> intro _ <;> try (exfalso; omega)) | apply (zs65 ?_) | apply (zs68 ?_) | apply (zs69 ?_) | apply (zs70 ?_) | (apply zg27; refine zs72 ?_) | apply (zs74 ?_) | apply (zs75 ?_) | apply (zs80 ?_) | apply (zs81 ?_) | fail)
    apply Yd; exact rfl; exact rfl; exact ⟨rfl, rfl⟩
theorem YgS {l : List Int} {k : Nat} {y : Int} (h0 : 1 ≤ k) (h : l[k]? = some y) : maxI (l.take (k + 1)) = if maxI (l.take k) < y then y else maxI (l.take k) := by
  rw [List.take_add_one, h, Option.toList_some]
  cases l with
  | nil => cases h
  | cons a l =>
    obtain ⟨k, rfl⟩ : ∃ j, k = j + 1 := ⟨k - 1, by omega⟩
    rw [List.take_succ_cons]
    show List.foldl (fun x y => if x < y then y else x) a (l.take k ++ [y]) = _
    rw [List.foldl_append]
    rfl
set_option maxRecDepth 10000 in
set_option maxHeartbeats 2000000 in
theorem Ye1 (l : List Int) (hlen : l.length ≤ 1000000000000) (h0 : 1 ≤ l.length) {A : Option Addr} {cap B : Nat} {w0 : World} {H : List HP} {w : World} (hr : Rd B w0 H A (l.flatMap numF)) (hw : St B w0 H w) :
    Calls Tryz.prog 89 [.slice A l.length cap].toArray w (Post B w0 fun v K => v = .int .i64 (maxI l) ∧ K = H) := by
  refine Yc Tryz.func89 Tryz.ntmps89 rfl rfl hw ?_
  obtain ⟨a, ha⟩ : ∃ a, l[0]? = some a := ⟨_, List.getElem?_eq_getElem (by omega)⟩
  have ha2 : l[(0 : Int).toNat]? = some a := ha
  have hm1 : maxI (l.take 1) = a := by
    cases l with
    | nil => cases ha
    | cons b l => exact Option.some.inj ha
  repeat' (first | apply (zs1 ?_) | apply (zs2 ?_) | (apply zg3; refine zs60 ?_) | (apply zg4; refine zs9 ?_) | (apply zg5; refine zs57 ?_) | (apply (zs17 ?_ ?_) <;> intro _ <;> try (exfalso; omega)) | apply (zs65 ?_) | apply (zs68 ?_) | apply (zs69 ?_) | apply (zs70 ?_) | (apply zg27; refine zs72 ?_) | apply (zs73 ?_) | apply (zs76 ?_) | fail)
  refine Yk (fun k : Nat => [(4, .int .i64 (k : Nat)), (3, .int .i64 (maxI (l.take k))), (0, .slice A l.length cap)]) (fun _ => H) (fun k => 1 ≤ k ∧ k ≤ l.length) (fun k => l.length - k) 1 ⟨Nat.le_refl _, h0⟩ ?_ (fun w hw => hw) ?_
  · rw [hm1]
    exact zu
  rintro k ⟨hk1, hk⟩ K hK
  by_cases hlt : k < l.length
  · obtain ⟨y, hy⟩ : ∃ y, l[k]? = some y := ⟨_, List.getElem?_eq_getElem hlt⟩
    repeat' (first | (apply Yij; exact rfl; exact rfl; exact rfl) | apply (zs1 ?_) | apply (zs2 ?_) | (apply zg3; refine zs60 ?_) | (apply zg4; refine zs9 ?_) | (apply zg5; refine zs57 ?_) | (apply (zs17 ?_ ?_) <;> intro _ <;> try (exfalso; omega)) | (apply zg13; refine zs30 ?_) | apply (zs65 ?_) | apply (zs68 ?_) | apply (zs69 ?_) | apply (zs70 ?_) | (apply zg27; refine zs71 ?_) | apply (zs73 ?_) | apply (zs76 ?_) | apply (zs79 ?_) | fail)
    apply hK (k + 1)
    · exact ⟨by omega, by omega⟩
    · omega
    · rw [YgS hk1 hy]
      exact zu
    · exact fun w hw => hw
  · rw [show l.take k = l from List.take_of_length_le (by omega)]
    repeat' (first | apply (zs1 ?_) | apply (zs2 ?_) | (apply zg4; refine zs9 ?_) | (apply (zs17 ?_ ?_) <;> intro _ <;> try (exfalso; omega)) | apply (zs65 ?_) | apply (zs68 ?_) | apply (zs69 ?_) | apply (zs70 ?_) | (apply zg27; refine zs72 ?_) | apply (zs74 ?_) | apply (zs75 ?_) | apply (zs80 ?_) | apply (zs81 ?_) | fail)
    apply Yd; exact rfl; exact rfl; exact ⟨rfl, rfl⟩
theorem YgU {α : Type} (P : α → Bool) (c : List α) : (∃ i x, c[i]? = some x ∧ P x = true ∧ ∀ y ∈ c.take i, P y = false) ∨ ∀ y ∈ c, P y = false := by
  by_cases hex : ∃ y ∈ c, P y = true
  · left
    obtain ⟨y, hy, hb⟩ := hex
    have hsi : (c.findIdx? P).isSome = true := by
      rw [List.findIdx?_isSome, List.any_eq_true]; exact ⟨y, hy, hb⟩
    obtain ⟨i, hi⟩ := Option.isSome_iff_exists.1 hsi
    rw [List.findIdx?_eq_some_iff_getElem] at hi
    obtain ⟨hlt, hpi, hno⟩ := hi
    refine ⟨i, _, List.getElem?_eq_getElem hlt, hpi, fun z hz => ?_⟩
    obtain ⟨j, hj⟩ := List.mem_iff_getElem?.1 hz
    rw [List.getElem?_take] at hj
    split at hj
    · rename_i hji
      obtain ⟨hj1, hj2⟩ := List.getElem?_eq_some_iff.1 hj
      have := hno j hji
      rw [hj2] at this
      simpa using this
    · cases hj
  · right
    intro y hy
    cases hb : P y with
    | false => rfl
    | true => exact absurd ⟨y, hy, hb⟩ hex
def XU (c : List Clm) (l : List Flw) (i : Nat) : List Int := ((List.range i).filter fun k => admB c (YY l k)).map fun k => ((k : Nat) : Int)
theorem Yht (c : List Clm) (l : List Flw) (i : Nat) : (XU c l i).length ≤ i := by
  unfold XU
  rw [List.length_map]
  have := List.length_filter_le (fun k => admB c (YY l k)) (List.range i)
  rwa [List.length_range] at this
theorem Yg9 {c : List Clm} {l : List Flw} {i : Nat} {f : Flw} (h : l[i]? = some f) (hb : admB c f = true) : XU c l (i + 1) = XU c l i ++ [(i : Int)] := by
  have hf : YY l i = f := by unfold YY; rw [List.getD_eq_getElem?_getD, h]; rfl
  unfold XU
  rw [List.range_succ, List.filter_append, List.filter_cons_of_pos (by rw [hf]; exact hb), List.filter_nil, List.map_append]; rfl
theorem Wo {c : List Clm} {l : List Flw} {i : Nat} {f : Flw} (h : l[i]? = some f) (hb : admB c f = false) : XU c l (i + 1) = XU c l i := by
  have hf : YY l i = f := by unfold YY; rw [List.getD_eq_getElem?_getD, h]; rfl
  unfold XU
  rw [List.range_succ, List.filter_append, List.filter_cons_of_neg (by rw [hf, hb]; decide), List.filter_nil, List.append_nil]
set_option maxRecDepth 10000 in
set_option maxHeartbeats 4000000 in
theorem QU (c : List ClM) (l : List Flw) (hl : l.length ≤ 1000000000000) {A A1 : Option Addr} {cap cap1 B : Nat} {w0 : World} {H : List HP} {w : World} (hc : CIn B w0 H A c) (hr : Rd B w0 H A1 (l.flatMap flwF)) (hw : St B w0 H w) :
    Calls Tryz.prog 35 [.slice A c.length cap, .slice A1 l.length cap1].toArray w (Post B w0 fun v K => ∃ A2 cap2, v = .slice A2 (XU (c.map ClM.clm) l l.length).length cap2 ∧ K = nrs A2 cap2 (XU (c.map ClM.clm) l l.length) :: H) := by
  refine Yc Tryz.func35 Tryz.ntmps35 rfl rfl hw ?_
  have hcl := hc.ln
  have hcr := hc.rd
  obtain ⟨C, hC⟩ : ∃ C, c.map ClM.clm = C := ⟨_, rfl⟩
  rw [hC]
  have p1 := fun {g : Nat} {f : Flw} {H' : List HP} {w : World} (hc : CIn B w0 H' A c) (hm : flwB g f ∈ H') (hw : St B w0 H' w) => YbB c f g (cap := cap) hc hm hw
  rw [hC] at p1
  repeat' (first | apply (zs1 ?_) | apply (zs2 ?_) | (apply zg4; refine zs9 ?_) | apply (zs65 ?_) | apply (zs68 ?_) | apply (zs69 ?_) | apply (zs70 ?_) | apply (zs73 ?_) | fail)
  refine Zi 3 1 ?_
  refine Yk (fun z : FlM => [(11, .int .i64 (z.i : Nat)), (10, .int .i64 l.length), (9, .slice A1 l.length cap1), (5, .slice z.A (XU C l z.i).length z.cap), (0, .slice A c.length cap)]) (fun z => nrs z.A z.cap (XU C l z.i) :: H) (fun z => z.i ≤ l.length) (fun z => l.length - z.i) ⟨0, none, 0⟩ (Nat.zero_le _) ?_ (fun w hw => hw) ?_
  · exact zu
  rintro ⟨i, A2, cap2⟩ hi K hK
  dsimp only at hi ⊢
  have hr' := hr.cons (X := nrs A2 cap2 (XU C l i))
  have hal := Yht C l i
  by_cases hlt : i < l.length
  rotate_left
  · obtain rfl : i = l.length := by omega
    clear hK
    repeat' (first | apply (zs1 ?_) | apply (zs2 ?_) | (apply (zs17 ?_ ?_) <;> intro _ <;> try (exfalso; omega)) | apply (zs65 ?_) | apply (zs68 ?_) | apply (zs69 ?_) | apply (zs70 ?_) | (apply zg27; refine zs72 ?_) | apply (zs74 ?_) | apply (zs75 ?_) | apply (zs80 ?_) | apply (zs81 ?_) | fail)
    apply Yd; exact rfl; exact rfl
    exact ⟨A2, cap2, rfl, rfl⟩
  obtain ⟨f, hf⟩ : ∃ f, l[i]? = some f := ⟨_, List.getElem?_eq_getElem hlt⟩
  repeat' (first | apply (zs1 ?_) | apply (zs2 ?_) | (apply zg3; refine zs61 ?_) | (apply zg5; refine zs57 ?_) | (apply (zs17 ?_ ?_) <;> intro _ <;> try (exfalso; omega)) | (apply zg22; refine zs51 ?_) | (apply zg24; (refine zs54 ?_; intro _)) | apply (zs65 ?_) | apply (zs68 ?_) | apply (zs69 ?_) | apply (zs70 ?_) | (apply zg27; refine zs71 ?_) | apply (zs73 ?_) | apply (zs76 ?_) | (apply zg29; (apply Yq; exact za ; exact rfl)) | fail)
  rename_i g
  first | apply Ya en87 | apply Yb en87
  exact za
  exact rfl
  exact fun _ hw => (p1 (f := f) (hc.mono zk) zm hw)
  have hcr2 : Rd B w0 (flwB g f :: nrs A2 cap2 (XU C l i) :: H) A (c.flatMap clF) := hcr.cons.cons
  rcases YgU (Qj f) C with ⟨k, x, hx, hb, hz⟩ | hall
  rotate_left
  · have hbe : admB C f = false := by
      unfold admB
      have : C.find? (Qj f) = none := by rw [List.find?_eq_none]; exact fun y hy => by rw [hall y hy]; decide
      rw [show C.find? (fun x => decide (x.flow = f.1)) = none from this]
    rw [VP hall]
    repeat' (first | apply (zs2 ?_) | apply (zs65 ?_) | apply (zs68 ?_) | apply (zs69 ?_) | fail)
    apply Yw [0, 1, 2, 3, 4, 5, 6, 7, 8, 9, 10, 11, 12, 13, 14, 15, 16, 18, 19, 17, 20, 21] []
    kernel_rfl
    kernel_rfl
    (simp only [Yj, nthO]; rfl)
    exact rfl
    repeat' (first | apply (zs1 ?_) | (apply zg1; refine zs3 ?_) | (apply zg6; refine zs12 ?_) | (apply (zs20 ?_ ?_) <;> intro _ <;> try (exfalso; omega)) | (apply zg13; refine zs30 ?_) | apply (zs65 ?_) | (apply Yo; exact zp) | apply (zs68 ?_) | apply (zs70 ?_) | (apply zg27; refine zs72 ?_) | apply (zs76 ?_) | apply (zs79 ?_) | apply (zs93 ?_) | apply (zs94 ?_) | fail)
    apply hK ⟨i + 1, A2, cap2⟩
    · show i + 1 ≤ _
      omega
    · dsimp only; omega
    · rw [Wo hf hbe]
      exact zu
    · rw [Wo hf hbe]
      exact zk
  obtain ⟨h1, h2⟩ := JE hz hx hb
  rw [h1]
  have hbe : admB C f = (decide (0 < x.bounds.length) && decide (maxI x.bounds ≤ f.2.2.2.2.2)) := by
    unfold admB
    rw [show C.find? (fun x => decide (x.flow = f.1)) = some x from h2]
  rw [← hC, List.getElem?_map] at hx
  obtain ⟨y, hy, rfl⟩ : ∃ y, c[k]? = some y ∧ y.clm = x := by
    cases hc0 : c[k]? with
    | none => rw [hc0] at hx; cases hx
    | some y => rw [hc0] at hx; exact ⟨y, rfl, Option.some.inj hx⟩
  have hyi := hc.x y (List.mem_of_getElem? hy)
  have hyl := hyi.ln.2.1
  have hk := (List.getElem?_eq_some_iff.1 hy).1
  have hbe2 : admB C f = (decide (0 < y.bs.length) && decide (maxI y.bs ≤ f.2.2.2.2.2)) := hbe
  by_cases h0 : 0 < y.bs.length
  rotate_left
  · rw [decide_eq_false h0] at hbe2
    have hbe3 : admB C f = false := hbe2
    repeat' (first | apply (zs2 ?_) | apply (zs65 ?_) | apply (zs68 ?_) | apply (zs69 ?_) | fail)
    apply Yw [0, 1, 2, 3, 4, 5, 6, 7, 8, 9, 10, 11, 12, 13, 14, 15, 16, 18, 19, 17, 20, 21] []
    kernel_rfl
    kernel_rfl
    (simp only [Yj, nthO]; rfl)
    exact rfl
    repeat' (first | apply (zs1 ?_) | (apply zg1; first | refine zs3 ?_ | refine zs4 ?_) | (apply zg2; refine zs58 ?_) | (apply zg3; refine zs59 ?_) | (apply zg4; refine zs9 ?_) | (apply zg5; refine zs57 ?_) | (apply zg6; first | refine zs11 ?_ | refine zs12 ?_) | (apply (zs19 ?_ ?_) <;> intro _ <;> try (exfalso; omega)) | (apply (zs20 ?_ ?_) <;> intro _ <;> try (exfalso; omega)) | (apply zg13; refine zs30 ?_) | apply (zs65 ?_) | (apply Yo; exact zp) | apply (zs68 ?_) | apply (zs70 ?_) | (apply zg27; refine zs72 ?_) | apply (zs76 ?_) | apply (zs79 ?_) | apply (zs93 ?_) | apply (zs94 ?_) | fail)
    apply hK ⟨i + 1, A2, cap2⟩
    · show i + 1 ≤ _
      omega
    · dsimp only; omega
    · rw [Wo hf hbe3]
      exact zu
    · rw [Wo hf hbe3]
      exact zk
  rw [decide_eq_true h0] at hbe2
  have p2 := fun {H' : List HP} {w : World} (hr : Rd B w0 H' y.bA (y.bs.flatMap numF)) (hw : St B w0 H' w) => Ye1 y.bs hyl h0 (cap := y.bcap) hr hw
  have hyb := hyi.bd
  by_cases hm : maxI y.bs ≤ f.2.2.2.2.2
  · have hbe3 : admB C f = true := by rw [hbe2, decide_eq_true hm]; rfl
    repeat' (first | apply (zs2 ?_) | apply (zs65 ?_) | apply (zs68 ?_) | apply (zs69 ?_) | fail)
    apply Yw [0, 1, 2, 3, 4, 5, 6, 7, 8, 9, 10, 11, 12, 13, 14, 15, 16, 18, 19, 17, 20, 21] []
    kernel_rfl
    kernel_rfl
    (simp only [Yj, nthO]; rfl)
    exact rfl
    repeat' (first | apply (zs1 ?_) | (apply zg1; refine zs4 ?_) | (apply zg2; first | refine zs6 ?_ | refine zs58 ?_) | (apply zg3; first | refine zs7 ?_ | refine zs59 ?_) | (apply zg4; refine zs9 ?_) | (apply zg5; refine zs57 ?_) | (apply zg6; refine zs11 ?_) | (apply (zs19 ?_ ?_) <;> intro _ <;> try (exfalso; omega)) | (apply (zs20 ?_ ?_) <;> intro _ <;> try (exfalso; omega)) | apply (zs87 ?_) | fail)
    first | apply Ya en89 | apply Yb en89
    exact za
    exact rfl
    exact fun _ hw => (p2 (hyb.mono zk) hw)
    repeat' (first | (apply zg1; refine zs4 ?_) | apply (zs65 ?_) | (apply Yl; (repeat (first | with_reducible exact Yh | (with_reducible apply Yg; (repeat (first | with_reducible exact Yf | with_reducible apply Ye)))))) | fail)
    any_goals (exact Xz _)
    repeat' (first | apply (zs1 ?_) | apply (zs2 ?_) | (apply zg6; refine zs11 ?_) | (apply (zs18 ?_ ?_) <;> intro _ <;> try (exfalso; omega)) | (apply zg13; refine zs30 ?_) | (apply zg21; (refine zs49 ?_; intro _ _)) | (apply zg26; (refine zs56 ?_; intro _)) | apply (zs65 ?_) | (apply Yo; exact zp) | apply (zs68 ?_) | apply (zs70 ?_) | (apply zg27; refine zs71 ?_) | apply (zs79 ?_) | apply (zs93 ?_) | apply (zs94 ?_) | fail)
    rename_i A' cap'
    rw [Zk, show (XU C l i).length + 1 = (XU C l i ++ [(i : Int)]).length by simp, ← Yg9 hf hbe3]
    apply hK ⟨i + 1, A', cap'⟩
    · show i + 1 ≤ _
      omega
    · dsimp only; omega
    · exact zu
    · exact zk
  · have hbe3 : admB C f = false := by rw [hbe2, decide_eq_false hm]; rfl
    repeat' (first | apply (zs2 ?_) | apply (zs65 ?_) | apply (zs68 ?_) | apply (zs69 ?_) | fail)
    apply Yw [0, 1, 2, 3, 4, 5, 6, 7, 8, 9, 10, 11, 12, 13, 14, 15, 16, 18, 19, 17, 20, 21] []
    kernel_rfl
    kernel_rfl
    (simp only [Yj, nthO]; rfl)
    exact rfl
    repeat' (first | apply (zs1 ?_) | (apply zg1; refine zs4 ?_) | (apply zg2; first | refine zs6 ?_ | refine zs58 ?_) | (apply zg3; first | refine zs7 ?_ | refine zs59 ?_) | (apply zg4; refine zs9 ?_) | (apply zg5; refine zs57 ?_) | (apply zg6; refine zs11 ?_) | (apply (zs19 ?_ ?_) <;> intro _ <;> try (exfalso; omega)) | (apply (zs20 ?_ ?_) <;> intro _ <;> try (exfalso; omega)) | apply (zs87 ?_) | fail)
    first | apply Ya en89 | apply Yb en89
    exact za
    exact rfl
    exact fun _ hw => (p2 (hyb.mono zk) hw)
    repeat' (first | (apply zg1; refine zs4 ?_) | apply (zs65 ?_) | (apply Yl; (repeat (first | with_reducible exact Yh | (with_reducible apply Yg; (repeat (first | with_reducible exact Yf | with_reducible apply Ye)))))) | fail)
    any_goals (exact Xz _)
    repeat' (first | apply (zs1 ?_) | (apply zg6; refine zs11 ?_) | (apply (zs18 ?_ ?_) <;> intro _ <;> try (exfalso; omega)) | (apply zg13; refine zs30 ?_) | apply (zs65 ?_) | (apply Yo; exact zp) | apply (zs68 ?_) | apply (zs70 ?_) | (apply zg27; refine zs72 ?_) | apply (zs76 ?_) | apply (zs79 ?_) | apply (zs93 ?_) | apply (zs94 ?_) | fail)
    apply hK ⟨i + 1, A2, cap2⟩
    · show i + 1 ≤ _
      omega
    · dsimp only; omega
    · rw [Wo hf hbe3]
      exact zu
    · rw [Wo hf hbe3]
      exact zk
open Go.RowKit Go.Eng Go.Nw Go.Rt
def Jy (n : Net) (s : Sch) (f : Flw) (a : Int) (r : List Int) : Int := match Xs n s f r with | none => a | some b => if a = 0 ∨ b.1 < a then b.1 else a
theorem Yaf (n : Net) (s : Sch) (f : Flw) (l : List (List Int)) : Wg n s f l = if l.length = 0 then (0, 14) else
    if (Yu (fun k => wayE n s f (rtAt l k)) l.length 0).2 ≠ 0 then (0, (Yu (fun k => wayE n s f (rtAt l k)) l.length 0).2)
    else if l.foldl (Jy n s f) 0 = 0 then (0, 15) else (l.foldl (Jy n s f) 0, 0) := rfl
structure LeM where
  k : Nat
  a : Int
set_option maxRecDepth 10000 in
set_option maxHeartbeats 8000000 in
theorem YdG (n : NetM) (s : SchM) (f : Flw) (l : List RowM) {A : Option Addr} {cap B : Nat} {w0 : World} {H : List HP} {w : World} (ht : TabsB B w0) (hin : n.In B w0 H) (hrs : Rd B w0 H s.A (s.cells.flatMap celF)) (hsl : s.cells.length ≤ 1000000000000) (hrt : Rd B w0 H A (l.flatMap rowF)) (hrw : ∀ r ∈ l, Rd B w0 H r.A (r.xs.flatMap numF)) (hl : l.length ≤ 1000000000000) (hrl : ∀ r ∈ l, r.xs.length ≤ 1000000000000 ∧ r.xs.length ≤ r.cap) (hw : St B w0 H w) :
    Calls Tryz.prog 36 [n.val, s.val, flwV f, .slice A l.length cap].toArray w (Post B w0 fun v K => v = .tuple #[.int .i64 (Wg n.net s.sch f (l.map (·.xs))).1, .int .i64 (Wg n.net s.sch f (l.map (·.xs))).2] ∧ K = H) := by
  refine Yc Tryz.func36 Tryz.ntmps36 rfl rfl hw ?_
  have hwi : ∀ r ∈ l, (WayM.mk n s f r.A r.cap r.xs).In B w0 H := fun r hr => ⟨hin, hrs, hrw r hr, hsl, (hrl r hr).1, (hrl r hr).2⟩
  have p1 := fun (r : RowM) {H' : List HP} {w : World} (hi : (WayM.mk n s f r.A r.cap r.xs).In B w0 H') (hw : St B w0 H' w) => WS ⟨n, s, f, r.A, r.cap, r.xs⟩ ht hi hw
  have p2 := fun (r : RowM) (hok : Z1 (WayM.mk n s f r.A r.cap r.xs)) {H' : List HP} {w : World} (hi : (WayM.mk n s f r.A r.cap r.xs).In B w0 H') (hw : St B w0 H' w) => Qx ⟨n, s, f, r.A, r.cap, r.xs⟩ hok hi hw
  unfold WayM.val at p1 p2
  unfold JU at p2
  dsimp only at p1 p2
  rw [Yaf]
  obtain ⟨F, hF⟩ : ∃ F, (fun k => wayE n.net s.sch f (rtAt (l.map (·.xs)) k)) = F := ⟨_, rfl⟩
  rw [hF]
  have hFv : ∀ {k : Nat} {r : RowM}, l[k]? = some r → F k = wayE n.net s.sch f r.xs := fun {k r} h => by
    rw [← hF]
    have h2 : (l.map (·.xs))[k]? = some r.xs := by rw [List.getElem?_map, h]; rfl
    show wayE _ _ _ (rtAt _ k) = _
    rw [Option.some.inj ((VN (List.getElem?_eq_some_iff.1 h2).1).symm.trans h2)]
  obtain ⟨g, hg⟩ : ∃ g, Jy n.net s.sch f = g := ⟨_, rfl⟩
  rw [hg]
  rw [List.length_map]
  unfold NetM.val SchM.val flwV
  by_cases h0 : l.length = 0
  · rw [if_pos h0]
    repeat' (first | apply (zs1 ?_) | apply (zs2 ?_) | (apply zg4; refine zs9 ?_) | (apply zg7; (refine zs15 ?_ ?_ <;> intro _ <;> try (exfalso; omega))) | (apply zg23; (refine zs52 ?_; intro _)) | apply (zs65 ?_) | apply (zs68 ?_) | apply (zs69 ?_) | apply (zs70 ?_) | (apply zg27; refine zs71 ?_) | apply (zs74 ?_) | apply (zs77 ?_) | fail)
    apply Yi H
    · exact zk
    apply Yt; exact rfl; exact rfl; exact rfl; exact ⟨rfl, rfl⟩
  rw [if_neg h0]
  repeat' (first | apply (zs1 ?_) | apply (zs2 ?_) | (apply zg4; refine zs9 ?_) | (apply zg7; (refine zs15 ?_ ?_ <;> intro _ <;> try (exfalso; omega))) | (apply zg23; (refine zs52 ?_; intro _)) | apply (zs65 ?_) | apply (zs68 ?_) | apply (zs69 ?_) | apply (zs70 ?_) | (apply zg27; refine zs72 ?_) | apply (zs73 ?_) | apply (zs76 ?_) | fail)
  rename_i g4 g5 g6 _
  refine Yk (fun k : Nat => [(25, .int .i64 (k : Nat)), (24, .int .i64 l.length), (23, .slice A l.length cap), (3, .slice A l.length cap), (6, .pointer (some ⟨g6, 0, none⟩)), (5, .pointer (some ⟨g5, 0, none⟩)), (4, .pointer (some ⟨g4, 0, none⟩))]) (fun _ => flwB g6 f :: schA g5 s :: netA g4 n :: H) (fun k => k ≤ l.length ∧ ∀ j, 0 ≤ j → j < k → F j = 0) (fun k => l.length - k) 0 ⟨Nat.zero_le _, fun j _ h => absurd h (Nat.not_lt_zero _)⟩ ?_ (fun w hw => hw) ?_
  · exact zu
  rintro k ⟨hk, hz⟩ K hK
  have hrt2 : Rd B w0 (flwB g6 f :: schA g5 s :: netA g4 n :: H) A (l.flatMap rowF) := hrt.cons.cons.cons
  by_cases hlt : k < l.length
  · obtain ⟨r, hr⟩ : ∃ r, l[k]? = some r := ⟨_, List.getElem?_eq_getElem hlt⟩
    have hFk := hFv hr
    have hri := hwi r (List.mem_of_getElem? hr)
    have p3 := fun {H' : List HP} {w : World} (hi : (WayM.mk n s f r.A r.cap r.xs).In B w0 H') (hw : St B w0 H' w) => p1 r hi hw
    rw [← hFk] at p3
    by_cases hFz : F k = 0
    · rw [hFz] at p3
      repeat' (first | ((first | apply Ya en85 | apply Yb en85); exact za; exact rfl; exact fun _ hw => (p3 (hri.mono zk) hw)) | apply (zs1 ?_) | apply (zs2 ?_) | (apply zg3; first | refine zs8 ?_ | refine zs60 ?_) | (apply zg5; refine zs57 ?_) | (apply zg8; (refine zs16 ?_ ?_ <;> intro _ <;> try (exfalso; omega))) | (apply (zs17 ?_ ?_) <;> intro _ <;> try (exfalso; omega)) | (apply zg13; refine zs30 ?_) | (apply zg25; refine zs55 ?_) | apply (zs65 ?_) | apply (zs68 ?_) | apply (zs69 ?_) | apply (zs70 ?_) | (apply zg27; first | refine zs71 ?_ | refine zs72 ?_) | apply (zs73 ?_) | apply (zs76 ?_) | apply (zs79 ?_) | fail)
      apply hK (k + 1)
      · exact ⟨by omega, fun j h1 h2 => by
          rcases Nat.lt_succ_iff_lt_or_eq.1 h2 with h | rfl
          · exact hz j h1 h
          · exact hFz⟩
      · omega
      · exact zu
      · exact zk
    · have hfe := Y3 (f := F) (r := l.length) (i0 := 0) (i := k) (fun j h1 h2 => hz j h1 h2) (Nat.zero_le _) (by omega) hFz
      rw [hfe, if_pos hFz]
      clear hK
      repeat' (first | ((first | apply Ya en85 | apply Yb en85); exact za; exact rfl; exact fun _ hw => (p3 (hri.mono zk) hw)) | apply (zs1 ?_) | apply (zs2 ?_) | (apply zg3; first | refine zs8 ?_ | refine zs60 ?_) | (apply zg5; refine zs57 ?_) | (apply zg8; (refine zs16 ?_ ?_ <;> intro _ <;> try (exfalso; omega))) | (apply (zs17 ?_ ?_) <;> intro _ <;> try (exfalso; omega)) | (apply zg25; refine zs55 ?_) | apply (zs65 ?_) | apply (zs68 ?_) | apply (zs69 ?_) | apply (zs70 ?_) | (apply zg27; refine zs71 ?_) | apply (zs73 ?_) | apply (zs74 ?_) | apply (zs76 ?_) | apply (zs77 ?_) | apply (zs78 ?_) | fail)
      apply Yi H
      · exact zk
      apply Yt; exact rfl; exact rfl; exact rfl; exact ⟨rfl, rfl⟩
  obtain rfl : k = l.length := by omega
  have hfe := Xj (f := F) (r := l.length) (i0 := 0) fun j h1 h2 => hz j h1 (by omega)
  rw [hfe, if_neg (fun e => e rfl)]
  clear hK
  repeat' (first | apply (zs1 ?_) | apply (zs2 ?_) | (apply zg4; refine zs9 ?_) | (apply (zs17 ?_ ?_) <;> intro _ <;> try (exfalso; omega)) | apply (zs65 ?_) | apply (zs68 ?_) | apply (zs69 ?_) | apply (zs70 ?_) | (apply zg27; refine zs72 ?_) | apply (zs73 ?_) | apply (zs75 ?_) | apply (zs80 ?_) | apply (zs81 ?_) | fail)
  refine Yk (fun z : LeM => [(41, .int .i64 (z.k : Nat)), (40, .int .i64 l.length), (39, .slice A l.length cap), (13, .int .i64 z.a), (6, .pointer (some ⟨g6, 0, none⟩)), (5, .pointer (some ⟨g5, 0, none⟩)), (4, .pointer (some ⟨g4, 0, none⟩))]) (fun _ => flwB g6 f :: schA g5 s :: netA g4 n :: H) (fun z => z.k ≤ l.length ∧ z.a = ((l.map (·.xs)).take z.k).foldl g 0) (fun z => l.length - z.k) ⟨0, 0⟩ ⟨Nat.zero_le _, rfl⟩ ?_ (fun w hw => hw) ?_
  · exact zu
  rintro ⟨k, a⟩ ⟨hk2, ha⟩ K hK
  dsimp only at hk2 ha ⊢
  by_cases hlt2 : k < l.length
  · obtain ⟨r, hr⟩ : ∃ r, l[k]? = some r := ⟨_, List.getElem?_eq_getElem hlt2⟩
    have hri := hwi r (List.mem_of_getElem? hr)
    have hFk := hFv hr
    have hw0 : wayE n.net s.sch f r.xs = 0 := by rw [← hFk]; exact hz k (Nat.zero_le _) hlt2
    have hok : Z1 (WayM.mk n s f r.A r.cap r.xs) := UB hw0
    have p4 := fun {H' : List HP} {w : World} (hi : (WayM.mk n s f r.A r.cap r.xs).In B w0 H') (hw : St B w0 H' w) => p2 r hok hi hw
    have hst : ((l.map (·.xs)).take (k + 1)).foldl g 0 = g a r.xs := by
      rw [List.take_add_one, List.getElem?_map, hr, List.foldl_append, ← ha]; rfl
    have hga : g a r.xs = match Xs n.net s.sch f r.xs with | none => a | some b => if a = 0 ∨ b.1 < a then b.1 else a := by rw [← hg]; rfl
    cases hb : Xs n.net s.sch f r.xs with
    | none =>
      rw [hb] at p4 hga
      dsimp only [VY] at p4 hga
      repeat' (first | apply (zs1 ?_) | apply (zs2 ?_) | (apply zg3; first | refine zs8 ?_ | refine zs60 ?_) | (apply zg5; refine zs57 ?_) | (apply (zs17 ?_ ?_) <;> intro _ <;> try (exfalso; omega)) | (apply zg25; refine zs55 ?_) | apply (zs65 ?_) | apply (zs68 ?_) | apply (zs69 ?_) | apply (zs70 ?_) | (apply zg27; refine zs71 ?_) | apply (zs73 ?_) | apply (zs76 ?_) | fail)
      apply Yn _ en86
      exact za
      exact rfl
      exact fun _ hw => (p4 (hri.mono zk) (hw))
      rintro _ _ ⟨A2, cap2, rfl, rfl⟩
      repeat' (first | apply (zs1 ?_) | apply (zs2 ?_) | (apply zg1; refine zs3 ?_) | (apply zg6; refine zs12 ?_) | apply (zs13 ?_) | (apply zg13; refine zs30 ?_) | apply (zs65 ?_) | apply (zs68 ?_) | apply (zs69 ?_) | apply (zs70 ?_) | (apply zg27; refine zs72 ?_) | apply (zs76 ?_) | apply (zs79 ?_) | fail)
      apply hK ⟨k + 1, a⟩
      · exact ⟨by show k + 1 ≤ _; omega, by show a = _; rw [hst, hga]⟩
      · dsimp only; omega
      · exact zu
      · exact zk
    | some b =>
      rw [hb] at p4 hga
      dsimp only [VY] at p4 hga
      by_cases ha0 : a = 0
      · rw [if_pos (.inl ha0)] at hga
        repeat' (first | apply (zs1 ?_) | apply (zs2 ?_) | (apply zg3; first | refine zs8 ?_ | refine zs60 ?_) | (apply zg5; refine zs57 ?_) | (apply (zs17 ?_ ?_) <;> intro _ <;> try (exfalso; omega)) | (apply zg25; refine zs55 ?_) | apply (zs65 ?_) | apply (zs68 ?_) | apply (zs69 ?_) | apply (zs70 ?_) | (apply zg27; refine zs71 ?_) | apply (zs73 ?_) | apply (zs76 ?_) | fail)
        apply Yn _ en86
        exact za
        exact rfl
        exact fun _ hw => (p4 (hri.mono zk) (hw))
        rintro _ _ ⟨A2, cap2, rfl, rfl⟩
        repeat' (first | apply (zs1 ?_) | apply (zs2 ?_) | (apply zg1; first | refine zs3 ?_ | refine zs4 ?_) | (apply zg6; refine zs11 ?_) | apply (zs13 ?_) | (apply zg7; (refine zs15 ?_ ?_ <;> intro _ <;> try (exfalso; omega))) | (apply zg13; refine zs30 ?_) | apply (zs65 ?_) | apply (zs68 ?_) | apply (zs69 ?_) | apply (zs70 ?_) | (apply zg27; refine zs71 ?_) | apply (zs79 ?_) | fail)
        apply hK ⟨k + 1, b.1⟩
        · exact ⟨by show k + 1 ≤ _; omega, by show b.1 = _; rw [hst, hga]⟩
        · dsimp only; omega
        · exact zu
        · exact zk
      by_cases hba : b.1 < a
      · rw [if_pos (.inr hba)] at hga
        repeat' (first | apply (zs1 ?_) | apply (zs2 ?_) | (apply zg3; first | refine zs8 ?_ | refine zs60 ?_) | (apply zg5; refine zs57 ?_) | (apply (zs17 ?_ ?_) <;> intro _ <;> try (exfalso; omega)) | (apply zg25; refine zs55 ?_) | apply (zs65 ?_) | apply (zs68 ?_) | apply (zs69 ?_) | apply (zs70 ?_) | (apply zg27; refine zs71 ?_) | apply (zs73 ?_) | apply (zs76 ?_) | fail)
        apply Yn _ en86
        exact za
        exact rfl
        exact fun _ hw => (p4 (hri.mono zk) (hw))
        rintro _ _ ⟨A2, cap2, rfl, rfl⟩
        repeat' (first | apply (zs1 ?_) | apply (zs2 ?_) | (apply zg1; refine zs4 ?_) | (apply zg6; first | refine zs11 ?_ | refine zs12 ?_) | apply (zs13 ?_) | (apply zg7; (refine zs15 ?_ ?_ <;> intro _ <;> try (exfalso; omega))) | (apply (zs17 ?_ ?_) <;> intro _ <;> try (exfalso; omega)) | (apply zg13; refine zs30 ?_) | apply (zs65 ?_) | apply (zs68 ?_) | apply (zs69 ?_) | apply (zs70 ?_) | (apply zg27; refine zs71 ?_) | apply (zs79 ?_) | fail)
        apply hK ⟨k + 1, b.1⟩
        · exact ⟨by show k + 1 ≤ _; omega, by show b.1 = _; rw [hst, hga]⟩
        · dsimp only; omega
        · exact zu
        · exact zk
      · rw [if_neg (by omega)] at hga
        repeat' (first | apply (zs1 ?_) | apply (zs2 ?_) | (apply zg3; first | refine zs8 ?_ | refine zs60 ?_) | (apply zg5; refine zs57 ?_) | (apply (zs17 ?_ ?_) <;> intro _ <;> try (exfalso; omega)) | (apply zg25; refine zs55 ?_) | apply (zs65 ?_) | apply (zs68 ?_) | apply (zs69 ?_) | apply (zs70 ?_) | (apply zg27; refine zs71 ?_) | apply (zs73 ?_) | apply (zs76 ?_) | fail)
        apply Yn _ en86
        exact za
        exact rfl
        exact fun _ hw => (p4 (hri.mono zk) (hw))
        rintro _ _ ⟨A2, cap2, rfl, rfl⟩
        repeat' (first | apply (zs1 ?_) | apply (zs2 ?_) | (apply zg1; refine zs4 ?_) | (apply zg6; first | refine zs11 ?_ | refine zs12 ?_) | apply (zs13 ?_) | (apply zg7; (refine zs15 ?_ ?_ <;> intro _ <;> try (exfalso; omega))) | (apply (zs17 ?_ ?_) <;> intro _ <;> try (exfalso; omega)) | (apply zg13; refine zs30 ?_) | apply (zs65 ?_) | apply (zs68 ?_) | apply (zs69 ?_) | apply (zs70 ?_) | (apply zg27; refine zs72 ?_) | apply (zs76 ?_) | apply (zs79 ?_) | fail)
        apply hK ⟨k + 1, a⟩
        · exact ⟨by show k + 1 ≤ _; omega, by show a = _; rw [hst, hga]⟩
        · dsimp only; omega
        · exact zu
        · exact zk
  obtain rfl : k = l.length := by omega
  rw [show (l.map (·.xs)).take l.length = l.map (·.xs) from List.take_of_length_le (by rw [List.length_map]; omega)] at ha
  rw [← ha]
  clear hK
  by_cases ha0 : a = 0
  · rw [if_pos ha0]
    repeat' (first | apply (zs1 ?_) | apply (zs2 ?_) | (apply zg7; (refine zs15 ?_ ?_ <;> intro _ <;> try (exfalso; omega))) | (apply (zs17 ?_ ?_) <;> intro _ <;> try (exfalso; omega)) | apply (zs65 ?_) | apply (zs68 ?_) | apply (zs69 ?_) | apply (zs70 ?_) | (apply zg27; first | refine zs71 ?_ | refine zs72 ?_) | apply (zs74 ?_) | apply (zs75 ?_) | apply (zs77 ?_) | apply (zs80 ?_) | apply (zs81 ?_) | fail)
    apply Yi H
    · exact zk
    apply Yt; exact rfl; exact rfl; exact rfl; exact ⟨rfl, rfl⟩
  · rw [if_neg ha0]
    repeat' (first | apply (zs1 ?_) | apply (zs2 ?_) | (apply zg7; (refine zs15 ?_ ?_ <;> intro _ <;> try (exfalso; omega))) | (apply (zs17 ?_ ?_) <;> intro _ <;> try (exfalso; omega)) | apply (zs65 ?_) | apply (zs68 ?_) | apply (zs69 ?_) | apply (zs70 ?_) | (apply zg27; refine zs72 ?_) | apply (zs74 ?_) | apply (zs75 ?_) | apply (zs76 ?_) | apply (zs80 ?_) | apply (zs81 ?_) | fail)
    apply Yi H
    · exact zk
    apply Yt; exact rfl; exact rfl; exact rfl; exact ⟨rfl, rfl⟩
open Go.RowKit Go.Eng Go.Nw Go.Rt
theorem YhP {n : Net} {s : Sch} {f : Flw} {r : List Int} (h : wayE n s f r = 0) : f.2.2.2.2.1 < s.len := by
  obtain ⟨_, h2, h3, h4, _⟩ := Ybk h
  have hsz := of_decide_eq_true (Ur.1 h2).sized
  unfold Xt at h3
  split at h3
  · cases h3
  split at h3
  · cases h3
  rename_i k1 k2
  have hd : f.2.2.2.1 ∣ s.len := Int.dvd_of_tmod_eq_zero h4
  have := Int.le_of_dvd (by omega) hd
  omega
theorem YbH {S : Int → Option (List Int)} {len per : Int} (hS : ∀ a l, S a = some l → 1 ≤ Zx l - a + 1) : ∀ {k : Nat} {rel : Int} {b0 b : Int × Int × List Int}, (1 ≤ b0.1 ∨ rel < len ∧ k ≠ 0 ∧ b0.1 = 0) → Ja S len per k rel b0 = some b → 1 ≤ b.1
  | 0, rel, b0, b, h0, h => by
    unfold Ja at h
    rw [← Option.some.inj h]
    rcases h0 with h0 | ⟨_, h0, _⟩
    · exact h0
    · exact absurd rfl h0
  | k + 1, rel, b0, b, h0, h => by
    unfold Ja at h
    split at h
    · rw [← Option.some.inj h]
      rcases h0 with h0 | ⟨h0, _⟩
      · exact h0
      · omega
    cases hs : S rel with
    | none => rw [hs] at h; cases h
    | some l =>
      rw [hs] at h
      have h1 := hS _ _ hs
      refine YbH hS (.inl ?_) h
      split
      · exact h1
      · rcases h0 with h0 | h0 <;> omega
theorem YeW {x : WayM} (hok : Z1 x) (hl : x.f.2.2.2.2.1 < x.s.len) {b : Int × Int × List Int} (h : Xs x.n.net x.s.sch x.f x.r = some b) : 1 ≤ b.1 := by
  have h3 := hok.slen
  refine YbH (len := x.s.sch.len) (per := x.f.2.2.2.1) (fun a l hs => ?_) (.inr ⟨hl, ?_, rfl⟩) h
  · have := OE hok hs
    omega
  · show x.s.len.toNat ≠ 0
    omega
theorem V0 {n : NetM} {s : SchM} {f : Flw} {r : List Int} (h : (YD n.net s.sch f r).2 = 0) : ∃ b, Xs n.net s.sch f r = some b ∧ (YD n.net s.sch f r).1 = b ∧ 1 ≤ b.1 ∧ wayE n.net s.sch f r = 0 := by
  obtain ⟨h1, b, h2, h3⟩ := Vd h
  exact ⟨b, h2, by rw [h3], YeW (x := ⟨n, s, f, none, 0, r⟩) (UB h1) (YhP h1) h2, h1⟩
theorem Yc2 : ∀ (l : List Int) (a : Int), 1 ≤ a → (∀ z ∈ l, 1 ≤ z) → 1 ≤ l.foldl (fun x y => if y < x then y else x) a
  | [], a, h, _ => h
  | z :: l, a, h, hl => by
    rw [List.foldl_cons]
    refine Yc2 l _ ?_ fun y hy => hl y (List.mem_cons_of_mem _ hy)
    have := hl z List.mem_cons_self
    split <;> omega
theorem QI {n : NetM} {s : SchM} {f : Flw} : ∀ (l : List (List Int)) (a : Int), 1 ≤ a → (∀ r ∈ l, (YD n.net s.sch f r).2 = 0) → l.foldl (Jy n.net s.sch f) a = (l.map fun r => (YD n.net s.sch f r).1.1).foldl (fun x y => if y < x then y else x) a
  | [], a, _, _ => rfl
  | r :: l, a, h, hl => by
    obtain ⟨b, h1, h2, h3, _⟩ := V0 (hl r List.mem_cons_self)
    rw [List.foldl_cons, List.map_cons, List.foldl_cons, h2]
    have hs : Jy n.net s.sch f a r = if b.1 < a then b.1 else a := by
      unfold Jy
      rw [h1]
      show (if a = 0 ∨ b.1 < a then b.1 else a) = _
      by_cases hb : b.1 < a
      · rw [if_pos (.inr hb), if_pos hb]
      · rw [if_neg (by omega), if_neg hb]
    rw [hs]
    refine QI l _ ?_ fun y hy => hl y (List.mem_cons_of_mem _ hy)
    split <;> omega
theorem Yf8 {n : NetM} {s : SchM} {x : Rqs} (h0 : 1 ≤ x.2.length) (h : ∀ r ∈ x.2, (YD n.net s.sch x.1 r).2 = 0) : Wg n.net s.sch x.1 x.2 = (minI (clmE n.net s.sch x).bounds, 0) := by
  rw [Yaf, if_neg (by omega)]
  have hw : (Yu (fun k => wayE n.net s.sch x.1 (rtAt x.2 k)) x.2.length 0).2 = 0 := YN.2 fun k _ hk => by
    obtain ⟨_, _, _, _, h4⟩ := V0 (h (rtAt x.2 k) (Ycs (by omega)))
    exact h4
  rw [if_neg (fun e => e hw)]
  obtain ⟨f, l⟩ := x
  cases l with
  | nil => exact absurd h0 (by show ¬ 1 ≤ 0; decide)
  | cons r l =>
    obtain ⟨b, h1, h2, h3, _⟩ := V0 (h r List.mem_cons_self)
    have h5 := QI (n := n) (s := s) (f := f) l b.1 h3 fun y hy => h y (List.mem_cons_of_mem _ hy)
    have h6 : (r :: l).foldl (Jy n.net s.sch f) 0 = minI (clmE n.net s.sch (f, r :: l)).bounds := by
      rw [List.foldl_cons]
      have hs : Jy n.net s.sch f 0 r = b.1 := by
        unfold Jy
        rw [h1]
        exact if_pos (.inl rfl)
      rw [hs, h5]
      show _ = minI (((YD n.net s.sch f r).1.1) :: (l.map fun r => (YD n.net s.sch f r).1.1))
      rw [h2]; rfl
    have h7 : 1 ≤ minI (clmE n.net s.sch (f, r :: l)).bounds := by
      rw [← h6, List.foldl_cons]
      have hs : Jy n.net s.sch f 0 r = b.1 := by
        unfold Jy
        rw [h1]
        exact if_pos (.inl rfl)
      rw [hs, h5]
      refine Yc2 _ _ h3 fun z hz => ?_
      obtain ⟨y, hy, rfl⟩ := List.mem_map.1 hz
      obtain ⟨c, _, k2, k3, _⟩ := V0 (h y (List.mem_cons_of_mem _ hy))
      rw [k2]; exact k3
    show (if (r :: l).foldl (Jy n.net s.sch f) 0 = 0 then _ else ((r :: l).foldl (Jy n.net s.sch f) 0, (0 : Int))) = _
    rw [h6, if_neg (by omega)]
theorem Yfm {nodes : Int} {l : List Flw} (h : (YK nodes l).2 = 0) : ∀ {i j : Nat}, i < j → j < l.length → (YY l i).1 < (YY l j).1 := by
  have hstep : ∀ j, 0 < j → j < l.length → (YY l (j - 1)).1 < (YY l j).1 := fun j h0 hj => by
    unfold YK at h
    split at h
    · cases h
    split at h
    · cases h
    have := YN.1 h j (Nat.zero_le _) (by omega)
    unfold YL at this
    split at this
    · contradiction
    split at this
    · cases this
    · omega
  intro i j hij hj
  induction j with
  | zero => omega
  | succ j ih =>
    have h1 := hstep (j + 1) (by omega) hj
    rw [Nat.add_sub_cancel] at h1
    rcases Nat.lt_or_ge i j with h2 | h2
    · have := ih h2 (by omega); omega
    · obtain rfl : i = j := by omega
      exact h1
theorem Qw {n : Net} {s : Sch} {q : List Rqs} {nodes : Int} (hf : (YK nodes (Y2 q)).2 = 0) {P : Clm → Bool} {k : Nat} {x : Rqs} (hx : q[k]? = some x) (hp : P (clmE n s x) = true) (hid : ∀ c, P c = true → c.flow = x.1.1) : (q.map (clmE n s)).find? P = some (clmE n s x) := by
  have hk := (List.getElem?_eq_some_iff.1 hx).1
  have hat : ∀ {i : Nat} {y : Rqs}, q[i]? = some y → YY (Y2 q) i = y.1 := fun {i y} h => by
    unfold YY Y2
    rw [List.getD_eq_getElem?_getD, List.getElem?_map, h]; rfl
  refine (JE (c := q.map (clmE n s)) (i := k) ?_ ?_ hp).2
  · intro y hy
    obtain ⟨j, hj⟩ := List.mem_iff_getElem?.1 hy
    rw [List.getElem?_take] at hj
    split at hj
    · rename_i hjk
      rw [List.getElem?_map] at hj
      obtain ⟨z, hz, rfl⟩ : ∃ z, q[j]? = some z ∧ clmE n s z = y := by
        cases h : q[j]? with
        | none => rw [h] at hj; cases hj
        | some z => rw [h] at hj; exact ⟨z, rfl, Option.some.inj hj⟩
      cases hb : P (clmE n s z) with
      | false => rfl
      | true =>
        have h1 := hid _ hb
        have h2 := Yfm hf hjk (by unfold Y2; rw [List.length_map]; exact hk)
        rw [hat hz, hat hx] at h2
        have h3 : (clmE n s z).flow = z.1.1 := rfl
        omega
    · cases hj
  · rw [List.getElem?_map, hx]; rfl
theorem Ygx : ∀ (l : List Int) (a m : Int), a ≤ m → (∀ z ∈ l, z ≤ m) → l.foldl (fun x y => if x < y then y else x) a ≤ m
  | [], _, _, h, _ => h
  | z :: l, a, m, h, hl => by
    rw [List.foldl_cons]
    refine Ygx l _ m ?_ fun y hy => hl y (List.mem_cons_of_mem _ hy)
    have := hl z List.mem_cons_self
    split <;> omega
theorem Yhh {l : List Int} {m : Int} (hne : 1 ≤ l.length) (h : ∀ z ∈ l, z ≤ m) : maxI l ≤ m := by
  cases l with
  | nil => exact absurd hne (by decide)
  | cons a l => exact Ygx l a m (h a List.mem_cons_self) fun z hz => h z (List.mem_cons_of_mem _ hz)
structure SvM (n : NetM) (s : SchM) (q : List Rqs) : Prop where
  adm : (XU (q.map (clmE n.net s.sch)) (Y2 q) q.length).length = q.length
  bnd : ∀ x ∈ q, bndE (q.map (clmE n.net s.sch)) x.1.1 = (minI (clmE n.net s.sch x).bounds, true)
  lst : ∀ x ∈ q, Wg n.net s.sch x.1 x.2 = (minI (clmE n.net s.sch x).bounds, 0)
theorem YeA {n : NetM} {s : SchM} {q : List Rqs} (h : (YJ n.net q s.sch).2.2 = 0) : SvM n s q := by
  obtain ⟨h1, h2⟩ := Qy.1 h
  have hf : (YK n.net.nodes (Y2 q)).2 = 0 := (UR (Ya1.1 h1).whole).2.1
  have hx : ∀ x ∈ q, (1 ≤ x.2.length) ∧ ∀ r ∈ x.2, (YD n.net s.sch x.1 r).2 = 0 ∧ (YD n.net s.sch x.1 r).1.1 ≤ x.1.2.2.2.2.2 := fun x hx => by
    have hw := h2 x hx
    unfold Vv at hw
    rw [Bool.and_eq_true, decide_eq_true_eq] at hw
    have hl := hw.2
    simp only [Bool.not_eq_true'] at hl
    exact ⟨by rcases hw.1 with h3 | h3 <;> omega, fun r hr => Of hl hr⟩
  have hbl : ∀ x : Rqs, (clmE n.net s.sch x).bounds.length = x.2.length := fun x => by
    show (x.2.map _).length = _
    rw [List.length_map]
  refine ⟨?_, fun x hxm => ?_, fun x hxm => Yf8 (hx x hxm).1 fun r hr => ((hx x hxm).2 r hr).1⟩
  · unfold XU
    rw [List.length_map]
    have hall : (List.range q.length).filter (fun k => admB (q.map (clmE n.net s.sch)) (YY (Y2 q) k)) = List.range q.length := by
      rw [List.filter_eq_self]
      intro k hk
      have hk := List.mem_range.1 hk
      have hxk := Jr hk
      have hfk : YY (Y2 q) k = (rqAt q k).1 := by
        unfold YY Y2
        rw [List.getD_eq_getElem?_getD, List.getElem?_map, hxk]; rfl
      have hc := Qw (n := n.net) (s := s.sch) hf (P := fun c => decide (c.flow = (rqAt q k).1.1)) hxk (decide_eq_true rfl) (fun c hc => of_decide_eq_true hc)
      rw [hfk]
      unfold admB
      rw [hc]
      have hm := hx _ (UP hk)
      show (decide (0 < (clmE n.net s.sch (rqAt q k)).bounds.length) && decide (maxI (clmE n.net s.sch (rqAt q k)).bounds ≤ _)) = true
      rw [Bool.and_eq_true, decide_eq_true_eq, decide_eq_true_eq]
      refine ⟨by rw [hbl]; omega, Yhh (by rw [hbl]; omega) fun z hz => ?_⟩
      obtain ⟨r, hr, rfl⟩ := List.mem_map.1 (show z ∈ (rqAt q k).2.map fun r => (YD n.net s.sch (rqAt q k).1 r).1.1 from hz)
      exact (hm.2 r hr).2
    rw [hall, List.length_range]
  · obtain ⟨k, hk, rfl⟩ := YcL hxm
    have hc := Qw (n := n.net) (s := s.sch) hf (P := fun c => decide (c.flow = (rqAt q k).1.1) && decide (0 < c.bounds.length)) (Jr hk) (by
      rw [Bool.and_eq_true, decide_eq_true_eq, decide_eq_true_eq]
      exact ⟨rfl, by rw [hbl]; have := (hx _ (UP hk)).1; omega⟩) (fun c hc => by
      rw [Bool.and_eq_true, decide_eq_true_eq] at hc
      exact hc.1)
    unfold bndE
    rw [hc]
open Go.RowKit Go.Eng Go.Nw Go.Rt
structure SwM where
  i : Nat
  V : Bool
theorem Yb4 {α : Type} {l : List α} {i : Nat} {x : α} (P : α → Bool) (h : l[i]? = some x) : (l.take (i + 1)).all P = ((l.take i).all P && P x) := by
  rw [List.take_add_one, h, Option.toList_some, List.all_append, List.all_cons, List.all_nil, Bool.and_true]
set_option maxRecDepth 10000 in
set_option maxHeartbeats 16000000 in
theorem YbA (n : NetM) (q : List RqM) (s : SchM) {A : Option Addr} {cap B : Nat} {w0 : World} {H : List HP} {w : World} (ht : TabsB B w0) (hin : n.In B w0 H) (hqb : QBg B w0 H A q) (hrs : Rd B w0 H s.A (s.cells.flatMap celF)) (hsl : s.cells.length ≤ 9223372036854775807) (hw : St B w0 H w) :
    Calls Tryz.prog 9 [n.val, .slice A q.length cap, s.val].toArray w (Post B w0 fun v K => v = .bool true ∧ K = H) := by
  refine Yc Tryz.func9 Tryz.ntmps9 rfl rfl hw ?_
  have p0 := fun {H' : List HP} {w : World} (hin : n.In B w0 H') (hqb : QBg B w0 H' A q) (hw : St B w0 H' w) => O1 n q s (cap := cap) hin hqb hsl hw
  unfold NetM.val SchM.val
  unfold NetM.val SchM.val at p0
  repeat' (first | apply (zs2 ?_) | (apply zg23; (refine zs52 ?_; intro _)) | apply (zs65 ?_) | apply (zs68 ?_) | apply (zs69 ?_) | apply (zs70 ?_) | fail)
  rename_i g3 g5
  first | apply Ya en17 | apply Yb en17
  exact za
  exact rfl
  exact fun _ hw => (WZ ht hw)
  repeat' (first | apply (zs1 ?_) | (apply zg3; refine zs8 ?_) | (apply zg20; refine zs47 ?_) | apply (zs65 ?_) | apply (zs68 ?_) | apply (zs69 ?_) | apply (zs70 ?_) | (apply zg27; refine zs72 ?_) | apply (zs76 ?_) | fail)
  apply Yn _ en18
  exact za
  exact rfl
  exact fun _ hw => (p0 (hin.mono zk) (hqb.mono zk) (hw))
  rintro _ _ ⟨⟨b, rfl, hfew⟩, hK0⟩
  rw [hK0]
  cases b with
  | false =>
    repeat' (first | apply (zs2 ?_) | (apply zg20; refine zs48 ?_) | apply (zs65 ?_) | apply (zs68 ?_) | apply (zs69 ?_) | apply (zs70 ?_) | (apply zg27; refine zs71 ?_) | apply (zs74 ?_) | apply (zs77 ?_) | fail)
    apply Yi H
    · exact zk
    apply Yd; exact rfl; exact rfl; exact ⟨rfl, rfl⟩
  | true =>
  have hfew := hfew rfl
  have hq := hqb.small hfew
  have hsl2 : s.cells.length ≤ 1000000000000 := by have := hfew.2.1; omega
  have hq4 := hfew.1
  have hqr := hq.rd
  have hrw3 : ∀ x ∈ q, x.rows.length ≤ 3 := fun x hx => (hfew.2.2 x hx).1
  have hfll : (RqM.fl q).length = q.length := by unfold RqM.fl; rw [List.length_map]
  obtain ⟨⟨RC, ri, re⟩, hR⟩ : ∃ R, YJ n.net (q.map RqM.rq) s.sch = R := ⟨_, rfl⟩
  obtain ⟨⟨fi, fe⟩, hS⟩ : ∃ R, schE n.net (RqM.fl q) s.sch = R := ⟨_, rfl⟩
  have hiff := @Qy n.net (q.map RqM.rq) s.sch
  have hbad := @YcC n.net (q.map RqM.rq) s.sch
  have hok := @YeA n s (q.map RqM.rq)
  have hce := @Ya6 n.net (q.map RqM.rq) s.sch
  rw [← YbX, hS, hR] at hiff
  rw [hR] at hbad hok hce
  rw [List.length_map] at hbad
  dsimp only at hiff hbad hok hce
  have p1 := fun {H' : List HP} {w : World} (hin : n.In B w0 H') (hq : QIn B w0 H' A q) (hrs : Rd B w0 H' s.A (s.cells.flatMap celF)) (hw : St B w0 H' w) => VI n q s (cap := cap) ht hin hq hrs hsl2 hw
  have p2 := fun {H' : List HP} {w : World} (hq : QIn B w0 H' A q) (hw : St B w0 H' w) => YbR q (cap := cap) hq.ln hq.rd hw
  have p3 := fun {A2 : Option Addr} {cap2 : Nat} {H' : List HP} {w : World} (hin : n.In B w0 H') (hf : Rd B w0 H' A2 ((RqM.fl q).flatMap flwF)) (hrs : Rd B w0 H' s.A (s.cells.flatMap celF)) (hw : St B w0 H' w) => Ua n (RqM.fl q) s (by omega) hsl2 (cap := cap2) hin hf hrs hw
  have p4 := fun (x : RqM) (r : RowM) (hr : r ∈ x.rows) {H' : List HP} {w : World} (hin : n.In B w0 H') (hrs : Rd B w0 H' s.A (s.cells.flatMap celF)) (hx : x.In B w0 H') (hw : St B w0 H' w) => Qs ⟨n, s, x.f, r.A, r.cap, r.xs⟩ ht ⟨hin, hrs, hx.rw_ r hr, hsl2, (hx.rl r hr).1, (hx.rl r hr).2⟩ hw
  have p5 := fun (x : RqM) (r t : RowM) (hr : r ∈ x.rows) (ht : t ∈ x.rows) {H' : List HP} {w : World} (hx : x.In B w0 H') (hw : St B w0 H' w) => Vt r.xs t.xs (cap := r.cap) (cap2 := t.cap) (Nat.le_trans (hx.rl r hr).1 (by decide)) (Nat.le_trans (hx.rl t ht).1 (by decide)) (hx.rw_ r hr) (hx.rw_ t ht) hw
  have p6 := fun (x : RqM) {H' : List HP} {w : World} (hin : n.In B w0 H') (hrs : Rd B w0 H' s.A (s.cells.flatMap celF)) (hx : x.In B w0 H') (hw : St B w0 H' w) => YdG n s x.f x.rows (cap := x.cap) ht hin hrs hsl2 hx.rt hx.rw_ hx.ln hx.rl hw
  rw [hR] at p1
  rw [hS] at p3
  unfold OutC NetM.val SchM.val at p1
  unfold NetM.val SchM.val at p3 p4 p6
  unfold flwV at p4 p6
  dsimp only at p1 p3 p4 p6
  repeat' (first | apply (zs1 ?_) | (apply zg3; refine zs8 ?_) | (apply zg20; refine zs47 ?_) | apply (zs65 ?_) | apply (zs68 ?_) | apply (zs69 ?_) | apply (zs70 ?_) | (apply zg27; refine zs72 ?_) | apply (zs76 ?_) | fail)
  apply Yn _ en19
  exact za
  exact rfl
  exact fun _ hw => (p1 (hin.mono zk) (hq.mono zk) (hrs.mono zk) (hw))
  rintro _ _ ⟨A2, cap2, C, rfl, hC, hCl, rfl⟩
  repeat' (first | apply (zs1 ?_) | apply (zs2 ?_) | apply (zs13 ?_) | apply (zs65 ?_) | apply (zs68 ?_) | apply (zs69 ?_) | apply (zs70 ?_) | fail)
  apply Yn _ en32
  exact za
  exact rfl
  exact fun _ hw => (p2 (hq.mono zk) (hw))
  rintro _ _ ⟨A3, cap3, rfl, rfl⟩
  repeat' (first | apply (zs1 ?_) | apply (zs2 ?_) | (apply zg3; refine zs8 ?_) | apply (zs65 ?_) | apply (zs68 ?_) | apply (zs69 ?_) | apply (zs70 ?_) | fail)
  first | apply Ya en13 | apply Yb en13
  exact za
  exact rfl
  exact fun _ hw => (p3 (hin.mono zk) (Rd.sl zm) (hrs.mono zk) hw)
  repeat' (first | (apply Yg7; exact rfl; exact rfl; exact rfl) | apply (zs1 ?_) | apply (zs2 ?_) | (apply zg4; refine zs9 ?_) | apply (zs13 ?_) | apply (zs65 ?_) | apply (zs68 ?_) | apply (zs69 ?_) | apply (zs70 ?_) | apply (zs73 ?_) | fail)
  refine Yk (fun z : SwM => [(56, .int .i64 (z.i : Nat)), (55, .int .i64 q.length), (54, .slice A q.length cap), (13, .bool z.V), (10, .slice A3 (RqM.fl q).length cap3), (9, .int .i64 re), (8, .int .i64 ri), (7, .slice A2 C.length cap2), (5, .pointer (some ⟨g5, 0, none⟩)), (3, .pointer (some ⟨g3, 0, none⟩)), (1, .slice A q.length cap)]) (fun _ => flws A3 cap3 (RqM.fl q) :: clsP A2 cap2 C :: many (C.map clQ) :: schA g5 s :: netA g3 n :: H)
    (fun z => z.i ≤ q.length ∧ z.V = (decide (fe = 0) && (q.take z.i).all fun x => Vv n.net s.sch x.rq)) (fun z => q.length - z.i) ⟨0, decide (fe = 0)⟩ ⟨Nat.zero_le _, by simp⟩ ?_ ?_ ?_
  · exact zu
  · exact zk
  rintro ⟨i, V⟩ ⟨hi, hV⟩ K hK
  dsimp only at hi hV ⊢
  have hqr2 : Rd B w0 (flws A3 cap3 (RqM.fl q) :: clsP A2 cap2 C :: many (C.map clQ) :: schA g5 s :: netA g3 n :: H) A (q.flatMap rqF) := hqr.cons.cons.cons.cons.cons
  by_cases hlt : i < q.length
  · obtain ⟨x, hx⟩ : ∃ x, q[i]? = some x := ⟨_, List.getElem?_eq_getElem hlt⟩
    have hxm := List.mem_of_getElem? hx
    have hxi := hq.x x hxm
    have hx3 := hrw3 x hxm
    have hln : x.rq.2 = x.rows.map (·.xs) := rfl
    have e1 : x.rq.1 = x.f := rfl
    have hwb : Vv n.net s.sch x.rq = (decide (x.rows.length = 1 ∨ x.rows.length = 2 ∧ rtAt x.rq.2 0 ≠ rtAt x.rq.2 1) && (x.rows.all fun r => !(badR n.net s.sch x.f r.xs))) := by
      unfold Vv XR
      rw [hln, e1, List.length_map, List.any_map, List.not_any_eq_all_not]; rfl
    have hall := Yb4 (fun x : RqM => Vv n.net s.sch x.rq) hx
    repeat' (first | (apply zg3; refine zs61 ?_) | (apply zg5; refine zs57 ?_) | (apply (zs17 ?_ ?_) <;> intro _ <;> try (exfalso; omega)) | (apply zg22; refine zs51 ?_) | (apply zg24; (refine zs54 ?_; intro _)) | apply (zs65 ?_) | apply (zs68 ?_) | apply (zs69 ?_) | apply (zs70 ?_) | (apply zg27; refine zs71 ?_) | apply (zs73 ?_) | apply (zs76 ?_) | fail)
    rename_i g
    obtain ⟨lo, hlo⟩ : ∃ b, decide (x.rows.length = 1 ∨ x.rows.length = 2 ∧ rtAt x.rq.2 0 ≠ rtAt x.rq.2 1) = b := ⟨_, rfl⟩
    refine Og (fun _ : Unit => [(13, .bool (V && lo)), (15, .pointer (some ⟨g, 0, none⟩)), (56, .int .i64 (i : Nat)), (55, .int .i64 q.length), (54, .slice A q.length cap), (10, .slice A3 (RqM.fl q).length cap3), (9, .int .i64 re), (8, .int .i64 ri), (7, .slice A2 C.length cap2), (5, .pointer (some ⟨g5, 0, none⟩)), (3, .pointer (some ⟨g3, 0, none⟩)), (1, .slice A q.length cap)]) (fun _ => rqA g x :: flws A3 cap3 (RqM.fl q) :: clsP A2 cap2 C :: many (C.map clQ) :: schA g5 s :: netA g3 n :: H) ?_ ?_
    · intro K8 hK8
      have hrt : Rd B w0 (rqA g x :: flws A3 cap3 (RqM.fl q) :: clsP A2 cap2 C :: many (C.map clQ) :: schA g5 s :: netA g3 n :: H) x.A (x.rows.flatMap rowF) := hxi.rt.cons.cons.cons.cons.cons.cons
      clear hK
      apply Yw [0, 1, 2, 3, 4, 5, 6, 7, 8, 9, 10, 11, 12, 13, 14, 15, 16, 17, 18, 19, 20, 21, 22, 23, 24, 25] []
      kernel_rfl
      kernel_rfl
      (simp only [Yj, nthO]; rfl)
      exact rfl
      cases V with
      | false =>
        repeat' (first | apply (zs1 ?_) | apply (zs2 ?_) | (apply zg1; refine zs3 ?_) | (apply zg6; refine zs12 ?_) | apply (zs65 ?_) | (apply Yo; exact zp) | apply (zs93 ?_) | apply (zs94 ?_) | fail)
        all_goals (try exact Xz _)
        repeat' (first | fail)
        refine hK8 () _ _ zu ?_
        exact zk
      | true =>
      by_cases h1 : x.rows.length = 1
      · rw [decide_eq_true (.inl h1)] at hlo
        subst hlo
        repeat' (first | apply (zs1 ?_) | apply (zs2 ?_) | (apply zg1; first | refine zs3 ?_ | refine zs4 ?_) | (apply zg2; refine zs6 ?_) | (apply zg3; refine zs7 ?_) | (apply zg4; refine zs9 ?_) | (apply zg6; refine zs11 ?_) | (apply zg7; (refine zs15 ?_ ?_ <;> intro _ <;> try (exfalso; omega))) | apply (zs65 ?_) | (apply Yo; exact zp) | apply (zs93 ?_) | apply (zs94 ?_) | fail)
        all_goals (try exact Xz _)
        repeat' (first | fail)
        refine hK8 () _ _ zu ?_
        exact zk
      by_cases h2 : x.rows.length = 2
      rotate_left
      · rw [decide_eq_false (by omega)] at hlo
        subst hlo
        repeat' (first | apply (zs1 ?_) | apply (zs2 ?_) | (apply zg1; first | refine zs3 ?_ | refine zs4 ?_) | (apply zg2; refine zs6 ?_) | (apply zg3; refine zs7 ?_) | (apply zg4; refine zs9 ?_) | (apply zg6; first | refine zs11 ?_ | refine zs12 ?_) | (apply zg7; (refine zs15 ?_ ?_ <;> intro _ <;> try (exfalso; omega))) | apply (zs65 ?_) | (apply Yo; exact zp) | apply (zs93 ?_) | apply (zs94 ?_) | fail)
        all_goals (try exact Xz _)
        repeat' (first | fail)
        refine hK8 () _ _ zu ?_
        exact zk
      obtain ⟨r0, hr0⟩ : ∃ r, x.rows[0]? = some r := ⟨_, List.getElem?_eq_getElem (by omega)⟩
      obtain ⟨r1, hr1⟩ : ∃ r, x.rows[1]? = some r := ⟨_, List.getElem?_eq_getElem (by omega)⟩
      rw [Vo hr0, Vo hr1] at hlo
      have p7 := fun {H' : List HP} {w : World} (hx : x.In B w0 H') (hw : St B w0 H' w) => p5 x r0 r1 (List.mem_of_getElem? hr0) (List.mem_of_getElem? hr1) hx hw
      by_cases heq : r0.xs = r1.xs
      · rw [decide_eq_false (by rintro (h | h); exact h1 h; exact h.2 heq)] at hlo
        subst hlo
        rw [decide_eq_true heq] at p7
        repeat' (first | apply (zs1 ?_) | (apply zg1; refine zs4 ?_) | (apply zg2; refine zs6 ?_) | (apply zg3; first | refine zs7 ?_ | refine zs60 ?_) | (apply zg4; refine zs9 ?_) | (apply zg5; refine zs57 ?_) | (apply zg7; (refine zs15 ?_ ?_ <;> intro _ <;> try (exfalso; omega))) | apply (zs87 ?_) | fail)
        first | apply Ya en33 | apply Yb en33
        exact za
        exact rfl
        exact fun _ hw => (p7 (hxi.mono zk) hw)
        repeat' (first | apply (zs2 ?_) | (apply zg1; refine zs4 ?_) | (apply zg6; first | refine zs11 ?_ | refine zs12 ?_) | (apply zg20; refine zs47 ?_) | apply (zs65 ?_) | (apply Yo; exact zp) | (apply Yl; (repeat (first | with_reducible exact Yh | (with_reducible apply Yg; (repeat (first | with_reducible exact Yf | with_reducible apply Ye)))))) | apply (zs93 ?_) | apply (zs94 ?_) | fail)
        all_goals (try exact Xz _)
        repeat' (first | fail)
        refine hK8 () _ _ zu ?_
        exact zk
      · rw [decide_eq_true (.inr ⟨h2, heq⟩)] at hlo
        subst hlo
        rw [decide_eq_false heq] at p7
        repeat' (first | apply (zs1 ?_) | (apply zg1; refine zs4 ?_) | (apply zg2; refine zs6 ?_) | (apply zg3; first | refine zs7 ?_ | refine zs60 ?_) | (apply zg4; refine zs9 ?_) | (apply zg5; refine zs57 ?_) | (apply zg7; (refine zs15 ?_ ?_ <;> intro _ <;> try (exfalso; omega))) | apply (zs87 ?_) | fail)
        first | apply Ya en33 | apply Yb en33
        exact za
        exact rfl
        exact fun _ hw => (p7 (hxi.mono zk) hw)
        repeat' (first | apply (zs2 ?_) | (apply zg1; refine zs4 ?_) | (apply zg6; first | refine zs11 ?_ | refine zs12 ?_) | (apply zg20; refine zs48 ?_) | apply (zs65 ?_) | (apply Yo; exact zp) | (apply Yl; (repeat (first | with_reducible exact Yh | (with_reducible apply Yg; (repeat (first | with_reducible exact Yf | with_reducible apply Ye)))))) | apply (zs93 ?_) | apply (zs94 ?_) | fail)
        all_goals (try exact Xz _)
        repeat' (first | fail)
        refine hK8 () _ _ zu ?_
        exact zk
    intro _
    dsimp only
    have hrt : Rd B w0 (rqA g x :: flws A3 cap3 (RqM.fl q) :: clsP A2 cap2 C :: many (C.map clQ) :: schA g5 s :: netA g3 n :: H) x.A (x.rows.flatMap rowF) := hxi.rt.cons.cons.cons.cons.cons.cons
    repeat' (first | apply (zs1 ?_) | (apply zg2; refine zs6 ?_) | (apply zg3; refine zs7 ?_) | (apply zg4; refine zs9 ?_) | apply (zs65 ?_) | apply (zs68 ?_) | apply (zs69 ?_) | apply (zs70 ?_) | apply (zs73 ?_) | fail)
    refine Yk (fun y : SwM => [(88, .int .i64 (y.i : Nat)), (87, .int .i64 x.rows.length), (86, .slice x.A x.rows.length x.cap), (13, .bool y.V), (15, .pointer (some ⟨g, 0, none⟩)), (56, .int .i64 (i : Nat)), (55, .int .i64 q.length), (54, .slice A q.length cap), (10, .slice A3 (RqM.fl q).length cap3), (9, .int .i64 re), (8, .int .i64 ri), (7, .slice A2 C.length cap2), (5, .pointer (some ⟨g5, 0, none⟩)), (3, .pointer (some ⟨g3, 0, none⟩)), (1, .slice A q.length cap)]) (fun _ => rqA g x :: flws A3 cap3 (RqM.fl q) :: clsP A2 cap2 C :: many (C.map clQ) :: schA g5 s :: netA g3 n :: H)
      (fun y => y.i ≤ x.rows.length ∧ y.V = ((V && lo) && (x.rows.take y.i).all fun r => !(badR n.net s.sch x.f r.xs))) (fun y => x.rows.length - y.i) ⟨0, V && lo⟩ ⟨Nat.zero_le _, by simp⟩ ?_ (fun w hw => hw) ?_
    · exact zu
    rintro ⟨k, U⟩ ⟨hk, hU⟩ K2 hK2
    dsimp only at hk hU ⊢
    by_cases hkl : k < x.rows.length
    rotate_left
    · obtain rfl : k = x.rows.length := by omega
      rw [List.take_length] at hU
      clear hK2
      repeat' (first | apply (zs1 ?_) | (apply (zs17 ?_ ?_) <;> intro _ <;> try (exfalso; omega)) | (apply zg13; refine zs30 ?_) | apply (zs65 ?_) | apply (zs68 ?_) | apply (zs69 ?_) | apply (zs70 ?_) | (apply zg27; refine zs72 ?_) | apply (zs75 ?_) | apply (zs79 ?_) | apply (zs80 ?_) | apply (zs81 ?_) | fail)
      apply hK ⟨i + 1, U⟩
      · refine ⟨by show i + 1 ≤ _; omega, ?_⟩
        show U = _
        rw [hU, hV, hall, hwb, hlo]
        simp only [Bool.and_assoc]
      · dsimp only; omega
      · exact zu
      · exact zk
    obtain ⟨r, hr⟩ : ∃ r, x.rows[k]? = some r := ⟨_, List.getElem?_eq_getElem hkl⟩
    have hrm := List.mem_of_getElem? hr
    have hall2 := Yb4 (fun r : RowM => !(badR n.net s.sch x.f r.xs)) hr
    have p7 := fun {H' : List HP} {w : World} (hin : n.In B w0 H') (hrs : Rd B w0 H' s.A (s.cells.flatMap celF)) (hx : x.In B w0 H') (hw : St B w0 H' w) => p4 x r hrm hin hrs hx hw
    obtain ⟨⟨⟨m, wst, sx⟩, e⟩, hRt⟩ : ∃ z, YD n.net s.sch x.f r.xs = z := ⟨_, rfl⟩
    have hPr : badR n.net s.sch x.f r.xs = decide (e ≠ 0 ∨ x.f.2.2.2.2.2 < m) := by unfold badR; rw [hRt]
    rw [hRt] at p7
    dsimp only at p7
    clear hK
    repeat' (first | (apply YW T; exact rfl; exact zm; exact rfl; exact zv; exact rfl; exact rfl) | apply (zs1 ?_) | apply (zs2 ?_) | (apply zg2; refine zs6 ?_) | (apply zg3; refine zs60 ?_) | (apply zg5; refine zs57 ?_) | (apply (zs17 ?_ ?_) <;> intro _ <;> try (exfalso; omega)) | apply (zs65 ?_) | apply (zs68 ?_) | apply (zs69 ?_) | apply (zs70 ?_) | (apply zg27; refine zs71 ?_) | apply (zs73 ?_) | apply (zs76 ?_) | fail)
    apply Yn _ en34
    exact za
    exact rfl
    exact fun _ hw => (p7 (hin.mono zk) (hrs.mono zk) (hxi.mono zk) (hw))
    rintro _ _ ⟨A4, cap4, rfl, rfl⟩
    cases U with
    | false =>
      repeat' (first | apply (zs1 ?_) | apply (zs2 ?_) | (apply zg1; refine zs3 ?_) | (apply zg6; refine zs12 ?_) | apply (zs13 ?_) | (apply zg13; refine zs30 ?_) | apply (zs65 ?_) | apply (zs68 ?_) | apply (zs70 ?_) | apply (zs79 ?_) | fail)
      apply hK2 ⟨k + 1, false⟩
      · refine ⟨by show k + 1 ≤ _; omega, ?_⟩
        show false = _
        rw [hall2, ← Bool.and_assoc, ← hU, Bool.false_and]
      · dsimp only; omega
      · exact zu
      · exact zk
    | true =>
      by_cases hb : e ≠ 0 ∨ x.f.2.2.2.2.2 < m
      · rw [decide_eq_true hb] at hPr
        by_cases he0 : e = 0
        all_goals (
          repeat' (first | apply (zs1 ?_) | apply (zs2 ?_) | (apply zg1; first | refine zs3 ?_ | refine zs4 ?_) | (apply zg2; refine zs6 ?_) | (apply zg3; refine zs7 ?_) | (apply zg6; first | refine zs11 ?_ | refine zs12 ?_) | apply (zs13 ?_) | (apply zg7; (refine zs15 ?_ ?_ <;> intro _ <;> try (exfalso; omega))) | (apply (zs18 ?_ ?_) <;> intro _ <;> try (exfalso; omega)) | (apply zg13; refine zs30 ?_) | apply (zs65 ?_) | apply (zs68 ?_) | apply (zs70 ?_) | apply (zs79 ?_) | fail)
          apply hK2 ⟨k + 1, false⟩
          · refine ⟨by show k + 1 ≤ _; omega, ?_⟩
            show false = _
            rw [hall2, hPr, ← Bool.and_assoc, Bool.not_true, Bool.and_false]
          · dsimp only; omega
          · exact zu
          · exact zk)
      · rw [decide_eq_false hb] at hPr
        have he0 : e = 0 := Decidable.byContradiction fun h => hb (.inl h)
        repeat' (first | apply (zs1 ?_) | apply (zs2 ?_) | (apply zg1; refine zs4 ?_) | (apply zg2; refine zs6 ?_) | (apply zg3; refine zs7 ?_) | (apply zg6; refine zs11 ?_) | apply (zs13 ?_) | (apply zg7; (refine zs15 ?_ ?_ <;> intro _ <;> try (exfalso; omega))) | (apply (zs18 ?_ ?_) <;> intro _ <;> try (exfalso; omega)) | (apply zg13; refine zs30 ?_) | apply (zs65 ?_) | apply (zs68 ?_) | apply (zs70 ?_) | apply (zs79 ?_) | fail)
        apply hK2 ⟨k + 1, true⟩
        · refine ⟨by show k + 1 ≤ _; omega, ?_⟩
          show true = _
          rw [hall2, hPr, ← Bool.and_assoc, ← hU]; rfl
        · dsimp only; omega
        · exact zu
        · exact zk
  obtain rfl : i = q.length := by omega
  rw [List.take_length] at hV
  have hVt : V = true ↔ re = 0 := by
    rw [hiff, hV, Bool.and_eq_true, decide_eq_true_eq, List.all_eq_true]
    constructor
    · rintro ⟨h1, h2⟩
      refine ⟨h1, fun y hy => ?_⟩
      obtain ⟨x, hx, rfl⟩ := List.mem_map.1 hy
      exact h2 x hx
    · rintro ⟨h1, h2⟩
      exact ⟨h1, fun x hx => h2 _ (List.mem_map_of_mem hx)⟩
  clear hK
  by_cases he : re = 0
  rotate_left
  · have hVf : V = false := by
      cases V with
      | false => rfl
      | true => exact absurd (hVt.1 rfl) he
    subst hVf
    obtain ⟨b1, b2, b3⟩ := hbad he
    have hnil : C.length = 0 := by have := congrArg List.length hC; rw [List.length_map, b1] at this; exact this
    repeat' (first | apply (zs1 ?_) | apply (zs2 ?_) | (apply zg1; refine zs4 ?_) | (apply zg4; refine zs9 ?_) | (apply zg6; refine zs11 ?_) | (apply zg7; (refine zs15 ?_ ?_ <;> intro _ <;> try (exfalso; omega))) | (apply zg8; first | (refine zs16 ?_ ?_ <;> intro _ <;> try (exfalso; omega)) | refine zs63 ?_) | (apply (zs17 ?_ ?_) <;> intro _ <;> try (exfalso; omega)) | (apply (zs20 ?_ ?_) <;> intro _ <;> try (exfalso; omega)) | apply (zs65 ?_) | apply (zs68 ?_) | apply (zs69 ?_) | apply (zs70 ?_) | (apply zg27; first | refine zs71 ?_ | refine zs72 ?_) | apply (zs74 ?_) | apply (zs75 ?_) | apply (zs76 ?_) | apply (zs77 ?_) | apply (zs80 ?_) | apply (zs81 ?_) | fail)
    apply Yi H
    · exact zk
    apply Yd; exact rfl; exact rfl; exact ⟨rfl, rfl⟩
  have hVf := hVt.2 he
  subst hVf
  subst he
  obtain ⟨s1, s2, s3⟩ := hok rfl
  obtain ⟨hRC, hri⟩ : RC = (q.map RqM.rq).map (clmE n.net s.sch) ∧ ri = -1 := by
    have h := hce rfl
    injection h with h1 h2
    injection h2 with h2 _
    exact ⟨h1, h2⟩
  subst hri
  rw [hRC] at hC
  have hCn : C.length = q.length := by have := congrArg List.length hC; rw [List.length_map, List.length_map, List.length_map] at this; exact this
  have hcin : ∀ {H' : List HP}, clsP A2 cap2 C ∈ H' → many (C.map clQ) ∈ H' → CIn B w0 H' A2 C := fun h1 h2 => ⟨.sl h1, fun x hx => Jj h2 hx (hCl x hx), by omega⟩
  rw [List.length_map, ← YbX] at s1
  have p8 : ∀ {H' : List HP} {w : World}, CIn B w0 H' A2 C → Rd B w0 H' A3 ((RqM.fl q).flatMap flwF) → St B w0 H' w → Calls Tryz.prog 35 [.slice A2 C.length cap2, .slice A3 (RqM.fl q).length cap3].toArray w (Post B w0 fun v K => ∃ A5 cap5 L, v = .slice A5 q.length cap5 ∧ L.length = q.length ∧ K = nrs A5 cap5 L :: H') := fun hc hf hw => by
    refine Ydi (fun w hw => QU C (RqM.fl q) (by omega) (cap := cap2) (cap1 := cap3) hc hf hw) ?_ hw
    rintro v K ⟨A5, cap5, rfl, rfl⟩
    have hL : (XU (C.map ClM.clm) (RqM.fl q) (RqM.fl q).length).length = q.length := by rw [hC, hfll]; exact s1
    exact ⟨A5, cap5, _, by rw [hL], hL, rfl⟩
  have p9 : ∀ (x : RqM), x ∈ q → ∀ {H' : List HP} {w : World}, CIn B w0 H' A2 C → St B w0 H' w → Calls Tryz.prog 37 [.slice A2 C.length cap2, .int .i64 x.f.1].toArray w (Post B w0 fun v K => v = .tuple #[.int .i64 (minI (clmE n.net s.sch x.rq).bounds), .bool true] ∧ K = H') := fun x hx {H' w} hc hw => by
    have h := Wu C x.f.1 (cap := cap2) hc hw
    have e : bndE ((q.map RqM.rq).map (clmE n.net s.sch)) x.f.1 = _ := s2 x.rq (List.mem_map_of_mem hx)
    rw [hC, e] at h
    exact h
  repeat' (first | apply (zs1 ?_) | (apply zg1; refine zs4 ?_) | (apply zg4; refine zs9 ?_) | (apply zg6; refine zs12 ?_) | (apply zg7; (refine zs15 ?_ ?_ <;> intro _ <;> try (exfalso; omega))) | (apply zg8; first | (refine zs16 ?_ ?_ <;> intro _ <;> try (exfalso; omega)) | refine zs63 ?_) | (apply (zs17 ?_ ?_) <;> intro _ <;> try (exfalso; omega)) | apply (zs65 ?_) | apply (zs68 ?_) | apply (zs69 ?_) | apply (zs70 ?_) | (apply zg27; refine zs72 ?_) | apply (zs75 ?_) | apply (zs76 ?_) | apply (zs80 ?_) | apply (zs81 ?_) | fail)
  apply Yn _ en35
  exact za
  exact rfl
  exact fun _ hw => (p8 (hcin zm zm) (Rd.sl zm) (hw))
  rintro _ _ ⟨A5, cap5, L5, rfl, hL5, rfl⟩
  repeat' (first | apply (zs1 ?_) | (apply zg1; refine zs4 ?_) | (apply zg4; refine zs9 ?_) | (apply zg6; refine zs12 ?_) | (apply zg8; (refine zs16 ?_ ?_ <;> intro _ <;> try (exfalso; omega))) | apply (zs65 ?_) | apply (zs68 ?_) | apply (zs69 ?_) | apply (zs70 ?_) | (apply zg27; refine zs72 ?_) | apply (zs73 ?_) | apply (zs76 ?_) | fail)
  refine Yk (fun k : Nat => [(156, .int .i64 (k : Nat)), (155, .int .i64 q.length), (154, .slice A q.length cap), (7, .slice A2 C.length cap2), (5, .pointer (some ⟨g5, 0, none⟩)), (3, .pointer (some ⟨g3, 0, none⟩)), (1, .slice A q.length cap)]) (fun _ => clsP A2 cap2 C :: many (C.map clQ) :: schA g5 s :: netA g3 n :: H) (fun k => k ≤ q.length) (fun k => q.length - k) 0 (Nat.zero_le _) ?_ ?_ ?_
  · exact zu
  · exact zk
  rintro k hk K hK
  have hqr3 : Rd B w0 (clsP A2 cap2 C :: many (C.map clQ) :: schA g5 s :: netA g3 n :: H) A (q.flatMap rqF) := hqr.cons.cons.cons.cons
  by_cases hlt : k < q.length
  rotate_left
  · clear hK
    repeat' (first | apply (zs2 ?_) | (apply (zs17 ?_ ?_) <;> intro _ <;> try (exfalso; omega)) | apply (zs65 ?_) | apply (zs68 ?_) | apply (zs69 ?_) | apply (zs70 ?_) | (apply zg27; refine zs72 ?_) | apply (zs74 ?_) | apply (zs75 ?_) | apply (zs80 ?_) | apply (zs81 ?_) | fail)
    apply Yi H
    · exact zk
    apply Yd; exact rfl; exact rfl; exact ⟨rfl, rfl⟩
  obtain ⟨x, hx⟩ : ∃ x, q[k]? = some x := ⟨_, List.getElem?_eq_getElem hlt⟩
  have hxm := List.mem_of_getElem? hx
  have hxi := hq.x x hxm
  obtain ⟨y, hy⟩ : ∃ y, C[k]? = some y := ⟨_, List.getElem?_eq_getElem (by omega)⟩
  have hyf : y.flow = x.f.1 := by
    have h1 : (C.map ClM.clm)[k]? = some y.clm := by rw [List.getElem?_map, hy]; rfl
    rw [hC, List.getElem?_map, List.getElem?_map, hx] at h1
    have h2 := Option.some.inj h1
    have h3 := congrArg Clm.flow h2
    exact h3.symm
  have p10 := fun {H' : List HP} {w : World} (hin : n.In B w0 H') (hrs : Rd B w0 H' s.A (s.cells.flatMap celF)) (hx : x.In B w0 H') (hw : St B w0 H' w) => p6 x hin hrs hx hw
  have p11 := fun {H' : List HP} {w : World} (hc : CIn B w0 H' A2 C) (hw : St B w0 H' w) => p9 x hxm hc hw
  have hs3 : Wg n.net s.sch x.f (x.rows.map (·.xs)) = (minI (clmE n.net s.sch x.rq).bounds, 0) := s3 x.rq (List.mem_map_of_mem hxm)
  rw [hs3] at p10
  dsimp only at p10
  obtain ⟨mb, hmb⟩ : ∃ z, minI (clmE n.net s.sch x.rq).bounds = z := ⟨_, rfl⟩
  rw [hmb] at p10 p11
  repeat' (first | (apply YW T; exact rfl; exact zm; exact rfl; exact zv; exact rfl; exact rfl) | apply (zs1 ?_) | apply (zs2 ?_) | (apply zg2; refine zs6 ?_) | (apply zg3; first | refine zs7 ?_ | refine zs61 ?_) | (apply zg5; refine zs57 ?_) | (apply (zs17 ?_ ?_) <;> intro _ <;> try (exfalso; omega)) | (apply zg22; refine zs51 ?_) | (apply zg24; (refine zs54 ?_; intro _)) | apply (zs65 ?_) | apply (zs68 ?_) | apply (zs69 ?_) | apply (zs70 ?_) | (apply zg27; refine zs71 ?_) | apply (zs73 ?_) | apply (zs76 ?_) | fail)
  first | apply Ya en36 | apply Yb en36
  exact za
  exact rfl
  exact fun _ hw => (p10 (hin.mono zk) (hrs.mono zk) (hxi.mono zk) hw)
  repeat' (first | apply (zs1 ?_) | apply (zs2 ?_) | (apply zg2; refine zs6 ?_) | (apply zg3; refine zs7 ?_) | apply (zs13 ?_) | apply (zs65 ?_) | apply (zs68 ?_) | apply (zs69 ?_) | apply (zs70 ?_) | fail)
  first | apply Ya en37 | apply Yb en37
  exact za
  exact rfl
  exact fun _ hw => (p11 (hcin zm zm) hw)
  repeat' (first | apply (zs1 ?_) | apply (zs2 ?_) | (apply zg1; refine zs4 ?_) | (apply zg2; first | refine zs6 ?_ | refine zs58 ?_) | (apply zg3; first | refine zs7 ?_ | refine zs59 ?_) | (apply zg5; refine zs10 ?_) | (apply zg6; refine zs12 ?_) | apply (zs13 ?_) | (apply zg8; (refine zs16 ?_ ?_ <;> intro _ <;> try (exfalso; omega))) | (apply zg13; refine zs30 ?_) | (apply zg20; refine zs47 ?_) | apply (zs65 ?_) | apply (zs66 ?_) | apply (zs68 ?_) | apply (zs69 ?_) | apply (zs70 ?_) | (apply zg27; refine zs72 ?_) | apply (zs76 ?_) | apply (zs79 ?_) | (apply zg28; refine zs83 ?_) | fail)
  apply hK (k + 1)
  · omega
  · omega
  · exact zu
  · exact zk
end Go.Proofs.YtmalhidldgfeoaaGreatDoor
