/- Lemmas for the claim, part 5. -/
import Derived.Test.YtmalhidldgfeoaaGreatDoorQ4

namespace Go.Proofs.YtmalhidldgfeoaaGreatDoor
open Go.RowKit Go.Eng Go.Nw Go.Rt
def brV (x : BrM) : Value := .agg #[.int .i64 x.f, .int .i64 x.k, .int .i64 x.u, .int .i64 x.v, .slice x.A x.n x.cap]
theorem Yd4 (p : BrM → Bool) (l : List BrM) (f : Nat) (cs : List Value) (hen : ∀ xs w, (callFunc f xs).run Tryz.prog w = .ok (.enter f xs) w) (hlen : l.length ≤ 100000000) {A : Option Addr} {cap B : Nat} {w0 : World} {H : List HP} {w : World} (hr : Rd B w0 H A (l.flatMap brF))
    (hp : ∀ a ∈ l, ∀ w, St B w0 H w → Calls Tryz.prog f ([brV a] ++ cs).toArray w (Post B w0 fun v K => v = .bool (p a) ∧ K = H)) (hw : St B w0 H w) :
    Calls Tryz.prog 103 [.slice A l.length cap, .func (.func f) #[] cs.toArray].toArray w (Post B w0 fun v K => v = .int .i64 (Yn p l 0) ∧ K = H) := by
  refine Yc Tryz.func103 Tryz.ntmps103 rfl rfl hw ?_
  repeat' (first | refine zgb ?_ | fail)
  refine Yl (fun (k : Nat) => [(8, .int .i64 k), (7, .int .i64 l.length), (0, .slice A l.length cap), (1, .func (.func f) #[] cs.toArray)]) (fun _ => H) (fun k => k ≤ l.length ∧ Yn p l 0 = Yn p (l.drop k) k) (fun k => l.length - k) 0 ⟨Nat.zero_le _, by simp⟩ ?_ (fun w hw => hw) ?_
  · exact zu
  rintro k ⟨hk, hi⟩ K hK
  by_cases hlt : k < l.length
  · obtain ⟨a, ha⟩ : ∃ a, l[k]? = some a := ⟨_, List.getElem?_eq_getElem hlt⟩
    have hpa := hp a (List.mem_of_getElem? ha)
    rw [Jo p l ha] at hi
    repeat' (first | ((first | apply YC (cs := cs)); exact rfl; exact hen; exact za; exact rfl; exact fun _ hw => hpa _ hw) | refine zgd ?_ | (refine zge ?_ ?_ <;> intro _ <;> try (exfalso; omega)) | fail)
    cases hpv : p a
    · rw [hpv] at hi
      repeat' (first | refine zgc ?_ | fail)
      apply hK (k + 1)
      · exact ⟨by omega, hi⟩
      · omega
      · exact zu
      · exact fun w hw => hw
    · rw [hpv] at hi
      repeat' (first | refine zgc ?_ | fail)
      apply Yd; exact rfl; exact rfl
      exact ⟨by rw [hi]; rfl, rfl⟩
  · repeat' (first | refine zgc ?_ | (refine zge ?_ ?_ <;> intro _ <;> try (exfalso; omega)) | fail)
    apply Yd; exact rfl; exact rfl
    rw [hi, List.drop_eq_nil_of_le (by omega)]
    exact ⟨rfl, rfl⟩
theorem O4 (p : BrM → Bool) (l : List BrM) (f : Nat) (cs : List Value) (hen : ∀ xs w, (callFunc f xs).run Tryz.prog w = .ok (.enter f xs) w) (hlen : l.length ≤ 100000000) {A : Option Addr} {cap B : Nat} {w0 : World} {H : List HP} {w : World} (hr : Rd B w0 H A (l.flatMap brF))
    (hp : ∀ a ∈ l, ∀ w, St B w0 H w → Calls Tryz.prog f ([brV a] ++ cs).toArray w (Post B w0 fun v K => v = .bool (p a) ∧ K = H)) (hw : St B w0 H w) :
    Calls Tryz.prog 43 [.slice A l.length cap, .func (.func f) #[] cs.toArray].toArray w (Post B w0 fun v K => v = .bool (l.any p) ∧ K = H) := by
  refine Yc Tryz.func43 Tryz.ntmps43 rfl rfl hw ?_
  rw [← Q9]
  repeat' (first | refine zga ?_ | fail)
  first | apply Ya Yky | apply Yb Yky
  exact za
  exact rfl
  exact fun _ hw => (Yd4 p l f cs hen hlen hr hp hw)
  by_cases h0 : 0 ≤ Yn p l 0
  · rw [decide_eq_true h0]
    repeat' (first | refine zga ?_ | (refine zgf ?_ ?_ <;> intro _ <;> try (exfalso; omega)) | fail)
    apply Yd; exact rfl; exact rfl
    exact ⟨rfl, rfl⟩
  · rw [decide_eq_false h0]
    repeat' (first | refine zga ?_ | (refine zgf ?_ ?_ <;> intro _ <;> try (exfalso; omega)) | fail)
    apply Yd; exact rfl; exact rfl
    exact ⟨rfl, rfl⟩
def onBr (id k : Int) (r : List Int) (x : BrM) : Bool :=
  decide (x.f = id ∧ x.k = k ∧ 0 ≤ Yn (fun y => decide (x.u = y)) r 0 ∧ (Yn (fun y => decide (x.u = y)) r 0).toNat + 1 < r.length ∧ r.getD ((Yn (fun y => decide (x.u = y)) r 0).toNat + 1) 0 = x.v)
theorem Yj6 {id k : Int} {r : List Int} {x : BrM} (h : ¬ (x.f = id ∧ x.k = k ∧ 0 ≤ Yn (fun y => decide (x.u = y)) r 0 ∧ (Yn (fun y => decide (x.u = y)) r 0).toNat + 1 < r.length ∧ r.getD ((Yn (fun y => decide (x.u = y)) r 0).toNat + 1) 0 = x.v)) : onBr id k r x = false := decide_eq_false h
set_option maxRecDepth 10000 in
set_option maxHeartbeats 4000000 in
theorem Yfn (x : BrM) (k : Int) (y : RqM) (r : RowM) (gr gq gk : Nat) (hl : r.xs.length ≤ 1000000) {B : Nat} {w0 : World} {T : List HP} {w : World} (hr : Rd B w0 T r.A (r.xs.flatMap numF)) (hw : St B w0 (blk gr (.cells #[.slice r.A r.xs.length r.cap] 72 (0, 0)) :: rqA gq y :: blk gk (.cells #[.int .i64 k] 3 (0, 0)) :: T) w) :
    Calls Tryz.prog 44 [brV x, .pointer (some ⟨gr, 0, none⟩), .pointer (some ⟨gq, 0, none⟩), .pointer (some ⟨gk, 0, none⟩)].toArray w (Post B w0 fun v K => v = .bool (onBr y.f.1 k r.xs x) ∧ K = blk gr (.cells #[.slice r.A r.xs.length r.cap] 72 (0, 0)) :: rqA gq y :: blk gk (.cells #[.int .i64 k] 3 (0, 0)) :: T) := by
  refine Yc Tryz.func44 Tryz.ntmps44 rfl rfl hw ?_
  have hr : Rd B w0 [many T] r.A (r.xs.flatMap numF) := hr.mono (fun w hw => hw.perm (.openT T))
  refine VR (blk gr (.cells #[.slice r.A r.xs.length r.cap] 72 (0, 0)) :: rqA gq y :: blk gk (.cells #[.int .i64 k] 3 (0, 0)) :: [many T]) (fun w hw => hw.perm (.cons _ (.cons _ (.cons _ (.closeT T))))) ?_
  have p1 := fun {H' : List HP} {w : World} (hr : Rd B w0 H' r.A (r.xs.flatMap numF)) (hw : St B w0 H' w) => OC r.xs x.u (by omega) (cap := r.cap) hr hw
  have hno := @Yj6 y.f.1 k r.xs x
  have hyes : (x.f = y.f.1 ∧ x.k = k ∧ 0 ≤ Yn (fun y => decide (x.u = y)) r.xs 0 ∧ (Yn (fun y => decide (x.u = y)) r.xs 0).toNat + 1 < r.xs.length ∧ r.xs.getD ((Yn (fun y => decide (x.u = y)) r.xs 0).toNat + 1) 0 = x.v) → onBr y.f.1 k r.xs x = true := fun h => decide_eq_true h
  have hge := Vj (p := fun y => decide (x.u = y)) (l := r.xs) (k := 0) (Int.le_refl 0)
  obtain ⟨i, hi⟩ : ∃ i, Yn (fun y => decide (x.u = y)) r.xs 0 = i := ⟨_, rfl⟩
  rw [hi] at p1 hno hyes hge
  unfold brV
  repeat' (first | refine zga ?_ | (refine zgh ?_; intro _) | fail)
  first | apply Ya en45 | apply Yb en45
  exact za
  exact rfl
  exact fun _ hw => (p1 hr.cons.cons.cons.cons hw)
  by_cases h1 : x.f = y.f.1
  rotate_left
  · rw [hno (fun h => h1 h.1)]
    repeat' (first | refine zgd ?_ | (refine zgf ?_ ?_ <;> intro _ <;> try (exfalso; omega)) | fail)
    all_goals (
      apply Yi (blk gr (.cells #[.slice r.A r.xs.length r.cap] 72 (0, 0)) :: rqA gq y :: blk gk (.cells #[.int .i64 k] 3 (0, 0)) :: T)
      · intro w hw
        have h5 : St B w0 (blk gr (.cells #[.slice r.A r.xs.length r.cap] 72 (0, 0)) :: rqA gq y :: blk gk (.cells #[.int .i64 k] 3 (0, 0)) :: [many T]) w := by
          revert w
          exact zk
        exact h5.perm (.cons _ (.cons _ (.cons _ (.openT T))))
      apply Yd; exact rfl; exact rfl
      exact ⟨rfl, rfl⟩)
  by_cases h2 : x.k = k
  rotate_left
  · rw [hno (fun h => h2 h.2.1)]
    repeat' (first | refine zgd ?_ | (refine zgf ?_ ?_ <;> intro _ <;> try (exfalso; omega)) | fail)
    all_goals (
      apply Yi (blk gr (.cells #[.slice r.A r.xs.length r.cap] 72 (0, 0)) :: rqA gq y :: blk gk (.cells #[.int .i64 k] 3 (0, 0)) :: T)
      · intro w hw
        have h5 : St B w0 (blk gr (.cells #[.slice r.A r.xs.length r.cap] 72 (0, 0)) :: rqA gq y :: blk gk (.cells #[.int .i64 k] 3 (0, 0)) :: [many T]) w := by
          revert w
          exact zk
        exact h5.perm (.cons _ (.cons _ (.cons _ (.openT T))))
      apply Yd; exact rfl; exact rfl
      exact ⟨rfl, rfl⟩)
  by_cases h3 : 0 ≤ i
  rotate_left
  · rw [hno (fun h => h3 h.2.2.1)]
    repeat' (first | refine zgd ?_ | (refine zgf ?_ ?_ <;> intro _ <;> try (exfalso; omega)) | fail)
    all_goals (
      apply Yi (blk gr (.cells #[.slice r.A r.xs.length r.cap] 72 (0, 0)) :: rqA gq y :: blk gk (.cells #[.int .i64 k] 3 (0, 0)) :: T)
      · intro w hw
        have h5 : St B w0 (blk gr (.cells #[.slice r.A r.xs.length r.cap] 72 (0, 0)) :: rqA gq y :: blk gk (.cells #[.int .i64 k] 3 (0, 0)) :: [many T]) w := by
          revert w
          exact zk
        exact h5.perm (.cons _ (.cons _ (.cons _ (.openT T))))
      apply Yd; exact rfl; exact rfl
      exact ⟨rfl, rfl⟩)
  obtain ⟨ix, rfl⟩ : ∃ ix : Nat, i = ix := ⟨i.toNat, by omega⟩
  rw [Int.toNat_natCast] at hno hyes
  by_cases h4 : ix + 1 < r.xs.length
  rotate_left
  · rw [hno (fun h => h4 h.2.2.2.1)]
    repeat' (first | refine zgd ?_ | (refine zgf ?_ ?_ <;> intro _ <;> try (exfalso; omega)) | fail)
    all_goals (
      apply Yi (blk gr (.cells #[.slice r.A r.xs.length r.cap] 72 (0, 0)) :: rqA gq y :: blk gk (.cells #[.int .i64 k] 3 (0, 0)) :: T)
      · intro w hw
        have h5 : St B w0 (blk gr (.cells #[.slice r.A r.xs.length r.cap] 72 (0, 0)) :: rqA gq y :: blk gk (.cells #[.int .i64 k] 3 (0, 0)) :: [many T]) w := by
          revert w
          exact zk
        exact h5.perm (.cons _ (.cons _ (.cons _ (.openT T))))
      apply Yd; exact rfl; exact rfl
      exact ⟨rfl, rfl⟩)
  obtain ⟨z, hz⟩ : ∃ z, r.xs[ix + 1]? = some z := ⟨_, List.getElem?_eq_getElem h4⟩
  have hzd : r.xs.getD (ix + 1) 0 = z := by rw [List.getD_eq_getElem?_getD, hz]; rfl
  rw [hzd] at hno hyes
  by_cases h5 : z = x.v
  · rw [hyes ⟨h1, h2, h3, h4, h5⟩]
    repeat' (first | refine zgd ?_ | (refine zgf ?_ ?_ <;> intro _ <;> try (exfalso; omega)) | fail)
    all_goals (
      apply Yi (blk gr (.cells #[.slice r.A r.xs.length r.cap] 72 (0, 0)) :: rqA gq y :: blk gk (.cells #[.int .i64 k] 3 (0, 0)) :: T)
      · intro w hw
        have h5 : St B w0 (blk gr (.cells #[.slice r.A r.xs.length r.cap] 72 (0, 0)) :: rqA gq y :: blk gk (.cells #[.int .i64 k] 3 (0, 0)) :: [many T]) w := by
          revert w
          exact zk
        exact h5.perm (.cons _ (.cons _ (.cons _ (.openT T))))
      apply Yd; exact rfl; exact rfl
      exact ⟨rfl, rfl⟩)
  · rw [hno (fun h => h5 h.2.2.2.2)]
    repeat' (first | refine zgd ?_ | (refine zgf ?_ ?_ <;> intro _ <;> try (exfalso; omega)) | fail)
    all_goals (
      apply Yi (blk gr (.cells #[.slice r.A r.xs.length r.cap] 72 (0, 0)) :: rqA gq y :: blk gk (.cells #[.int .i64 k] 3 (0, 0)) :: T)
      · intro w hw
        have h5 : St B w0 (blk gr (.cells #[.slice r.A r.xs.length r.cap] 72 (0, 0)) :: rqA gq y :: blk gk (.cells #[.int .i64 k] 3 (0, 0)) :: [many T]) w := by
          revert w
          exact zk
        exact h5.perm (.cons _ (.cons _ (.cons _ (.openT T))))
      apply Yd; exact rfl; exact rfl
      exact ⟨rfl, rfl⟩)
open Go.RowKit Go.Eng Go.Nw Go.Rt
def RelS (l : List Flw) (n : Int) (b : Int) (ss ss' : List SM) (k : Nat) : Prop :=
  ss'.length = l.length ∧ ∀ (i : Nat) f x, l[i]? = some f → ss[i]? = some x → ∃ x', ss'[i]? = some x' ∧ x'.Ok b ∧ if i < k then x'.st = relS f n x.st else x' = x
def SM.new (f : Flw) (n k : Int) (a b c : Nat) : SM := ⟨k, some (a, b, c), [(f.2.1, n, 0)], 1, [], 0, [], 0, false⟩
theorem SM.new_st (f : Flw) (n k : Int) (a b c : Nat) : (SM.new f n k a b c).st = newS f n k := by
  unfold SM.st newS SM.new
  congr 1
  funext v
  by_cases h : v = f.2.1
  · subst h; simp [X8]
  · simp [X8, h, Ne.symm h]
theorem SM.new_ok (f : Flw) (n k : Int) (a b c : Nat) (m : Int) : (SM.new f n k a b c).Ok m := ⟨fun _ => rfl, ⟨VOk.nil, fun e (h : e ∈ ([] : YK)) => absurd h (List.not_mem_nil)⟩, fun e (h : e ∈ ([] : List (KL × Int × Nat))) => absurd h (List.not_mem_nil)⟩
theorem Yhf {B : Nat} {w0 w : World} {l : List SM} {i : Nat} {x y : SM} {L : List HP} {H : List HP} (h : l[i]? = some x) (hy : smQ y = many L) (hw : St B w0 (L ++ many (l.map smQ) :: H) w) : St B w0 (many ((l.set i y).map smQ) :: H) w := by
  have h1 := hw.perm (.close L _)
  rw [← hy] at h1
  exact ((h1.perm (.cons _ (Ygq smQ h H))).perm (.cons _ (.drop _ _))).perm (Yef smQ (List.getElem?_eq_some_iff.1 h).1 y H)
theorem Ykh {c : PlC} {g : Nat} {sA : Option Addr} {sc : Nat} {tA : Option Addr} {nt tc : Nat} {dA : Option Addr} {nd dc : Nat} {B : Nat} {w0 : World} {Z : HP} {sk : List SM} {k : Nat} {x : SM} {f : Flw} {n q : Int} {a1 a2 a3 : Nat} (h : sk[k]? = some x) : ∀ w, St B w0 (plS sA c.l.length sc (sk.set k (SM.new f n q a1 a2 a3)) :: blk a1 (mobj ([] ++ [(f.2.1, Value.int .i64 n, 0)]) (0 + 1)) :: blk a2 (mobj [] 0) :: blk a3 (mobj [] 0) :: plB c g sA c.l.length sc tA nt tc dA nd dc :: many (sk.map smQ) :: [Z]) w →
    St B w0 (plB c g sA c.l.length sc tA nt tc dA nd dc :: plS sA c.l.length sc (sk.set k (SM.new f n q a1 a2 a3)) :: many ((sk.set k (SM.new f n q a1 a2 a3)).map smQ) :: [Z]) w := by
  intro w hw
  have h1 : St B w0 (blk a1 (mobj ([] ++ [(f.2.1, Value.int .i64 n, 0)]) (0 + 1)) :: blk a2 (mobj [] 0) :: blk a3 (mobj [] 0) :: many (sk.map smQ) :: plB c g sA c.l.length sc tA nt tc dA nd dc :: plS sA c.l.length sc (sk.set k (SM.new f n q a1 a2 a3)) :: [Z]) w := by
    revert w
    exact zk
  have h2 := Yhf (L := [blk a1 (mobj ([] ++ [(f.2.1, Value.int .i64 n, 0)]) (0 + 1)), blk a2 (mobj [] 0), blk a3 (mobj [] 0)]) (y := SM.new f n q a1 a2 a3) h rfl h1
  exact (h2.perm (.swap _ _ _)).perm (.cons _ (.swap _ _ _))
set_option maxRecDepth 10000 in
set_option maxHeartbeats 4000000 in
theorem Ybb (c : PlC) (n b : Int) (hn : 0 ≤ n ∧ n ≤ 1000000) (hl : c.l.length ≤ 1000) (hf : ∀ f ∈ c.l, YW 32 f = 0) {g : Nat} {sA : Option Addr} {sc : Nat} {ss : List SM} (hss : ss.length = c.l.length) (hok : ∀ x ∈ ss, x.Ok b) {tA : Option Addr} {nt tc : Nat} {dA : Option Addr} {nd dc : Nat}
    {B : Nat} {w0 : World} {Z : HP} {w : World} (hr : Rd B w0 [Z] c.fA (c.l.flatMap flwF)) (hw : St B w0 (plB c g sA c.l.length sc tA nt tc dA nd dc :: plS sA c.l.length sc ss :: many (ss.map smQ) :: [Z]) w) :
    Calls Tryz.prog 151 [.pointer (some ⟨g, 0, none⟩), .int .i64 n].toArray w (Post B w0 fun v K => ∃ ss', v = .tuple #[] ∧ RelS c.l n b ss ss' c.l.length ∧ K = plB c g sA c.l.length sc tA nt tc dA nd dc :: plS sA c.l.length sc ss' :: many (ss'.map smQ) :: [Z]) := by
  refine Yc Tryz.func151 Tryz.ntmps151 rfl rfl hw ?_
  repeat' (first | refine zgd ?_ | fail)
  refine Yl (fun (z : Nat × List SM) => [(13, .int .i64 (z.1 : Nat)), (12, .int .i64 c.l.length), (11, .slice c.fA c.l.length c.fc), (0, .pointer (some ⟨g, 0, none⟩)), (1, .int .i64 n)])
    (fun z => plB c g sA c.l.length sc tA nt tc dA nd dc :: plS sA c.l.length sc z.2 :: many (z.2.map smQ) :: [Z]) (fun z => z.1 ≤ c.l.length ∧ RelS c.l n b ss z.2 z.1) (fun z => c.l.length - z.1) (0, ss) ⟨Nat.zero_le _, hss, fun i f x h1 h2 => ⟨x, h2, hok x (List.mem_of_getElem? h2), by rw [if_neg (by omega)]⟩⟩ ?_ ?_ ?_
  · exact zu
  · intro w hw; exact hw
  rintro ⟨k, sk⟩ ⟨hk, hR⟩ K hK
  dsimp only at hk hR ⊢
  by_cases hlt : k < c.l.length
  rotate_left
  · obtain rfl : k = c.l.length := by omega
    clear hK
    repeat' (first | refine zgc ?_ | (refine zge ?_ ?_ <;> intro _ <;> try (exfalso; omega)) | fail)
    apply Yi (plB c g sA c.l.length sc tA nt tc dA nd dc :: plS sA c.l.length sc sk :: many (sk.map smQ) :: [Z])
    · exact zk
    apply Xq; exact rfl
    exact ⟨sk, rfl, hR, rfl⟩
  obtain ⟨f, hfk⟩ : ∃ f, c.l[k]? = some f := ⟨_, List.getElem?_eq_getElem hlt⟩
  obtain ⟨x, hx⟩ : ∃ x, ss[k]? = some x := ⟨_, List.getElem?_eq_getElem (by omega)⟩
  have hskl := hR.1
  obtain ⟨x', hx', hxo, hxe⟩ := hR.2 k f x hfk hx
  rw [if_neg (Nat.lt_irrefl _)] at hxe
  subst hxe
  have hfe := hf f (List.mem_of_getElem? hfk)
  obtain ⟨hp1, hp2, -, -⟩ := Xm hfe
  have hr9 : ∀ {X Y W : HP}, Rd B w0 (X :: Y :: W :: [Z]) c.fA (c.l.flatMap flwF) := hr.cons.cons.cons
  have hr8 := @hr9 (plB c g sA c.l.length sc tA nt tc dA nd dc) (plS sA c.l.length sc sk) (many (sk.map smQ))
  have p1 := fun {H' : List HP} {w : World} (hw : St B w0 H' w) => YcA f n hfe hn hw
  unfold flwV at p1
  have hstay : relS f n x'.st = x'.st → RelS c.l n b ss sk (k + 1) := fun h => by
    refine ⟨hskl, fun i f2 y2 a1 a2 => ?_⟩
    obtain ⟨z, b1, b2, b3⟩ := hR.2 i f2 y2 a1 a2
    refine ⟨z, b1, b2, ?_⟩
    by_cases e : i = k
    · subst e
      rw [hfk] at a1
      rw [hx] at a2
      rw [hx'] at b1
      rw [if_pos (by omega), ← Option.some.inj a1, ← Option.some.inj a2, ← Option.some.inj b1, h]
    · by_cases hik : i < k
      · rw [if_pos hik] at b3
        rw [if_pos (by omega)]; exact b3
      · rw [if_neg hik] at b3
        rw [if_neg (by omega)]; exact b3
  iterate 10 (first | refine zgb ?_ | (refine zge ?_ ?_ <;> intro _ <;> try (exfalso; omega)) | fail)
  refine Zb (fun (z : { z : List SM // RelS c.l n b ss z (k + 1) }) => [(13, .int .i64 (k : Nat)), (12, .int .i64 c.l.length), (11, .slice c.fA c.l.length c.fc), (0, .pointer (some ⟨g, 0, none⟩)), (1, .int .i64 n)]) (fun z => plB c g sA c.l.length sc tA nt tc dA nd dc :: plS sA c.l.length sc z.1 :: many (z.1.map smQ) :: [Z]) ?_ ?_
  rotate_left
  · rintro ⟨z, hz⟩
    repeat' (first | refine zgc ?_ | fail)
    apply hK ⟨k + 1, z⟩
    · exact ⟨by show k + 1 ≤ _; omega, hz⟩
    · dsimp only; omega
    · exact zu
    · exact zk
  intro K2 hK2
  by_cases h1 : n < f.2.2.2.2.1
  · rw [if_pos h1, decide_eq_false (by omega)] at p1
    repeat' (first | ((first | apply Ya YbD | apply Yb YbD); exact za; exact rfl; exact fun _ hw => (p1 hw)) | refine zgd ?_ | (refine zgh ?_; intro _) | fail)
    apply hK2 ⟨sk, hstay (by unfold relS; exact if_pos h1)⟩
    · exact zu
    · exact zk
  rw [if_neg h1, decide_eq_true (by omega)] at p1
  obtain ⟨q, hq⟩ : ∃ q, (n - f.2.2.2.2.1) / f.2.2.2.1 = q := ⟨_, rfl⟩
  rw [hq] at p1
  have hnew : q ≠ x'.frame → ∀ a1 a2 a3, RelS c.l n b ss (sk.set k (SM.new f n q a1 a2 a3)) (k + 1) := fun hne a1 a2 a3 => by
    refine ⟨by rw [List.length_set]; exact hskl, fun i f2 y2 b1 b2 => ?_⟩
    obtain ⟨z, c1, c2, c3⟩ := hR.2 i f2 y2 b1 b2
    by_cases e : i = k
    · subst e
      rw [hfk] at b1
      rw [hx] at b2
      refine ⟨_, List.getElem?_set_self (by omega), SM.new_ok _ _ _ _ _ _ _, ?_⟩
      rw [if_pos (by omega), ← Option.some.inj b1, ← Option.some.inj b2, SM.new_st]
      unfold relS phaF perF
      rw [if_neg h1, if_neg (by rw [hq]; exact hne), hq]
    · refine ⟨z, by rw [List.getElem?_set_ne (Ne.symm e)]; exact c1, c2, ?_⟩
      by_cases hik : i < k
      · rw [if_pos hik] at c3
        rw [if_pos (by omega)]; exact c3
      · rw [if_neg hik] at c3
        rw [if_neg (by omega)]; exact c3
  by_cases h2 : q = x'.frame
  · skip
    repeat' (first | ((first | apply Ya YbD | apply Yb YbD); exact za; exact rfl; exact fun _ hw => (p1 hw)) | refine zgd ?_ | (refine zge ?_ ?_ <;> intro _ <;> try (exfalso; omega)) | (refine zgh ?_; intro _) | fail)
    apply hK2 ⟨sk, hstay (by unfold relS phaF perF; rw [if_neg h1, if_pos (by rw [hq, h2]; rfl)])⟩
    · exact zu
    · exact zk
  · skip
    repeat' (first | ((first | apply Ya YbD | apply Yb YbD); exact za; exact rfl; exact fun _ hw => (p1 hw)) | refine zgd ?_ | (refine zge ?_ ?_ <;> intro _ <;> try (exfalso; omega)) | (refine zgh ?_; intro _) | fail)
    rename_i gf
    have hnew := hnew h2
    refine Ur (e := 224) (size := 5) (A := sA) (k := c.l.length) (cap := sc) (xs := sk.flatMap smF) zm (by omega) ?_
    intro gA eA
    subst eA
    apply Wa (.n1 0 (.n1 1 (.n1 2 (.n1 3 (.n1 4 (.n1 5 (.n1 7 (.n1 8 (.n1 9 (.n3 6 (.n3 10 (.n1 11 (.n2 12 (.n1 13 (.n1 14 (.n1 15 .done))) 13 (.n1 12 (.n1 14 (.n1 15 .done))))) 12 (.n2 10 (.n1 11 (.n1 13 (.n1 14 (.n1 15 .done)))) 13 (.n1 10 (.n1 11 (.n1 14 (.n1 15 .done))))) 13 (.n2 10 (.n1 11 (.n1 12 (.n1 14 (.n1 15 .done)))) 12 (.n1 10 (.n1 11 (.n1 14 (.n1 15 .done)))))) 12 (.n2 6 (.n2 10 (.n1 11 (.n1 13 (.n1 14 (.n1 15 .done)))) 13 (.n1 10 (.n1 11 (.n1 14 (.n1 15 .done))))) 13 (.n1 6 (.n1 10 (.n1 11 (.n1 14 (.n1 15 .done)))))) 13 (.n2 6 (.n2 10 (.n1 11 (.n1 12 (.n1 14 (.n1 15 .done)))) 12 (.n1 10 (.n1 11 (.n1 14 (.n1 15 .done))))) 12 (.n1 6 (.n1 10 (.n1 11 (.n1 14 (.n1 15 .done)))))))))))))))) [16] [true, true]
    kernel_rfl
    kernel_rfl
    exact zy
    (simp only [Yj, nthO]; rfl)
    repeat' (first | (apply YaZ T; exact rfl; exact rfl; exact rfl; exact rfl; omega) | (apply UI T (f := smF) (a := SM.new f n q _ _ _); exact rfl; exact rfl; exact rfl; exact zd; exact (fun _ => rfl); exact rfl; exact rfl; exact rfl; omega) | (apply YeY; exact rfl; intro gs) | (apply YgH (kt := 3) (et := 3); exact rfl; exact rfl; exact rfl; kernel_rfl; exact zd; exact rfl) | (apply Ykt; (simp only [nthO]; rfl); (simp only [nthO]; rfl); (simp only [nthO]; rfl)) | (apply Yf0; (simp only [nthO]; rfl); (simp only [nthO]; rfl)) | (apply YfZ; (simp only [nthO]; rfl)) | (apply Wg; (repeat (first | with_reducible exact Yh | (with_reducible apply Yg; (repeat (first | with_reducible exact Yf | with_reducible apply Ye)))))) | (apply Yk; (repeat (first | with_reducible exact Yh | (with_reducible apply Yg; (repeat (first | with_reducible exact Yf | with_reducible apply Ye)))))) | refine zgd ?_ | fail)
    all_goals (
      rw [Int.toNat_natCast]
      apply hK2 ⟨sk.set k (SM.new f n q _ _ _), hnew _ _ _⟩
      rotate_left
      · intro w hw
        apply Ykh hx' w
        revert w
        exact zk
      · exact zu)
end Go.Proofs.YtmalhidldgfeoaaGreatDoor
namespace Go.Eng
open Go.RowKit
theorem Yu {P : Program} {m : Mode} {n : Shp} {B d : Nat} {w0 : World} {ops : Array Oper} {Q : Exit → Act → World → Prop} {rest : List Oper} {env : Env} {H : List HP} {ty : TypeId} {pos : String} {after : Array Edge} {x : Operand} {a : Addr} {j : Nat} (hx : evo env x = some (sptr (some a) j)) (hn : Nat.ble (d + 1) n.k = true) (h : VL P m n B w0 ops Q rest ((d, sptr (some a) j) :: env) H) :
    VL P m n B w0 ops Q (⟨some d, .nilCheck x, ty, pos, after, none⟩ :: rest) env H := VX hx hn h
end Go.Eng
namespace Go.Proofs.YtmalhidldgfeoaaGreatDoor
open Go.RowKit Go.Eng Go.Nw Go.Rt
theorem YgW (l : List Flw) (id : Int) : (Z2 l id = -1 ∧ ∀ f ∈ l, f.1 ≠ id) ∨ ∃ (i : Nat) (f : Flw), Z2 l id = (i : Int) ∧ l[i]? = some f ∧ f.1 = id := by
  have key : ∀ (l : List Flw) (a : Int), 0 ≤ a → (Yn (fun f : Flw => decide (f.1 = id)) l a = -1 ∧ ∀ f ∈ l, f.1 ≠ id) ∨ ∃ (i : Nat) (f : Flw), Yn (fun f : Flw => decide (f.1 = id)) l a = a + (i : Int) ∧ l[i]? = some f ∧ f.1 = id := by
    intro l
    induction l with
    | nil => exact fun a _ => .inl ⟨rfl, fun f h => by cases h⟩
    | cons x l ih =>
      intro a ha
      unfold Yn
      by_cases h : x.1 = id
      · exact .inr ⟨0, x, by simp [h], rfl, h⟩
      · rcases ih (a + 1) (by omega) with ⟨h1, h2⟩ | ⟨i, f, h1, h2, h3⟩
        · refine .inl ⟨by simp [h, h1], fun f hf => ?_⟩
          rcases List.mem_cons.1 hf with rfl | hf
          · exact h
          · exact h2 f hf
        · exact .inr ⟨i + 1, f, by simp [h, h1]; omega, h2, h3⟩
  rcases key l 0 (Int.le_refl _) with h | ⟨i, f, h1, h2⟩
  · exact .inl h
  · exact .inr ⟨i, f, by unfold Z2; rw [h1]; omega, h2⟩
set_option maxRecDepth 10000 in
set_option maxHeartbeats 2000000 in
theorem YcQ (c : PlC) (id k u v t : Int) (ht : 0 ≤ t) (hxl : c.xs.length ≤ 1000000) {g : Nat} {sA : Option Addr} {ns sc : Nat} {tA : Option Addr} {nt tc : Nat} {dA : Option Addr} {nd dc : Nat} {B : Nat} {w0 : World} {Z : HP} {w : World} (hx : XIn B w0 [Z] c.xA c.xs) (hw : St B w0 (plB c g sA ns sc tA nt tc dA nd dc :: [Z]) w) :
    Calls Tryz.prog 212 [.pointer (some ⟨g, 0, none⟩), .int .i64 id, .int .i64 k, .agg #[.int .i64 u, .int .i64 v], .int .i64 t].toArray w (Post B w0 fun v K => (∃ o : Int, v = .int .i64 o) ∧ K = plB c g sA ns sc tA nt tc dA nd dc :: [Z]) := by
  refine Yc Tryz.func212 Tryz.ntmps212 rfl rfl hw ?_
  have p1 := fun {H' : List HP} {w : World} (hr : Rd B w0 H' c.xA (c.xs.flatMap ruF)) (hw : St B w0 H' w) => YcY c.xs ⟨id, u, v, k, none, 0, []⟩ (by omega) (cap := c.xc) hr hw
  unfold ruV at p1
  have hrx := hx.rd
  repeat' (first | refine zga ?_ | (refine zgh ?_; intro _) | fail)
  rename_i gl
  apply YZ [0, 1, 2, 3, 4, 5, 6, 7, 8, 9, 10, 11, 12, 13, 14, 15, 16] [] [true, true, true]
  kernel_rfl
  kernel_rfl
  exact zy
  (simp only [Yj, nthO]; rfl)
  exact rfl
  repeat' (first | refine zgd ?_ | fail)
  have hx1 : Rd B w0 [Z] c.xA (c.xs.flatMap ruF) := hrx
  apply Yo _ Yl9
  exact za
  exact rfl
  exact fun _ hw => (p1 (hrx.mono zk) (hw))
  rintro _ _ ⟨⟨i, b, rfl, hb⟩, hK0⟩
  rw [hK0]
  cases b with
  | false =>
    repeat' (first | (apply Yk; (repeat (first | with_reducible exact Yh | (with_reducible apply Yg; (repeat (first | with_reducible exact Yf | with_reducible apply Ye)))))) | refine zgd ?_ | fail)
    apply Yi (plB c g sA ns sc tA nt tc dA nd dc :: [Z])
    · exact zk
    apply Yd; exact rfl; exact rfl; exact ⟨⟨_, rfl⟩, rfl⟩
  | true =>
  have hi := hb rfl
  obtain ⟨r, hr⟩ : ∃ r, c.xs[i]? = some r := ⟨_, List.getElem?_eq_getElem hi⟩
  have hri := hx.x r (List.mem_of_getElem? hr)
  have hrl := hri.ln
  have hrr := hri.rd
  by_cases hlt : t < r.os.length
  · obtain ⟨o, ho⟩ : ∃ o, r.os[t.toNat]? = some o := ⟨_, List.getElem?_eq_getElem (by omega)⟩
    repeat' (first | (apply Yk; (repeat (first | with_reducible exact Yh | (with_reducible apply Yg; (repeat (first | with_reducible exact Yf | with_reducible apply Ye)))))) | refine zgd ?_ | (refine zgf ?_ ?_ <;> intro _ <;> try (exfalso; omega)) | fail)
    apply Yi (plB c g sA ns sc tA nt tc dA nd dc :: [Z])
    · exact zk
    apply Yd; exact rfl; exact rfl; exact ⟨⟨_, rfl⟩, rfl⟩
  · repeat' (first | (apply Yk; (repeat (first | with_reducible exact Yh | (with_reducible apply Yg; (repeat (first | with_reducible exact Yf | with_reducible apply Ye)))))) | refine zgd ?_ | (refine zgf ?_ ?_ <;> intro _ <;> try (exfalso; omega)) | fail)
    apply Yi (plB c g sA ns sc tA nt tc dA nd dc :: [Z])
    · exact zk
    apply Yd; exact rfl; exact rfl; exact ⟨⟨_, rfl⟩, rfl⟩
theorem Yfv (c : PlC) (id k u v t : Int) (ht : 0 ≤ t) (hxl : c.xs.length ≤ 1000000) {g : Nat} {sA : Option Addr} {ns sc : Nat} {tA : Option Addr} {nt tc : Nat} {dA : Option Addr} {nd dc : Nat} {B : Nat} {w0 : World} {Z : HP} {w : World} {H : List HP} (R : List HP) (hR : ∀ w, St B w0 R w → St B w0 [Z] w)
    (hin : ∀ w, St B w0 H w → St B w0 (plB c g sA ns sc tA nt tc dA nd dc :: R) w) (hout : ∀ w, St B w0 (plB c g sA ns sc tA nt tc dA nd dc :: R) w → St B w0 H w) (hx : XIn B w0 [Z] c.xA c.xs) (hw : St B w0 H w) :
    Calls Tryz.prog 212 [.pointer (some ⟨g, 0, none⟩), .int .i64 id, .int .i64 k, .agg #[.int .i64 u, .int .i64 v], .int .i64 t].toArray w (Post B w0 fun v K => (∃ o : Int, v = .int .i64 o) ∧ K = H) := by
  refine (YcQ (Z := many R) c id k u v t ht hxl (hx.mono fun w hw => hR w (hw.perm (.openT R))) ((hin w hw).perm (.cons _ (.closeT R)))).mono ?_
  rintro e w' ⟨v, K, h1, hst, ho, rfl⟩
  exact ⟨v, H, h1, hout _ (hst.perm (.cons _ (.openT R))), ho, rfl⟩
open Go.RowKit Go.Eng Go.Nw Go.Rt
def AttR (l : List Flw) (n b : Int) (q : Cel) (ss : List SM) (atts : List AttM) (dels : List (Int × Int × Int)) (ss' : List SM) (atts' : List AttM) (dels' : List (Int × Int × Int)) : Prop :=
  (ss' = ss ∧ atts' = atts ∧ dels' = dels ∧ ∀ (i : Nat) f x, l[i]? = some f → ss[i]? = some x → f.1 = Xo q → ¬ canT f x.st q n) ∨
  ∃ (i : Nat) (f : Flw) (x : SM) (o : Int) (x' : SM), l[i]? = some f ∧ ss[i]? = some x ∧ f.1 = Xo q ∧ canT f x.st q n ∧ ss' = ss.set i x' ∧ x'.st = ZS f x.st q n o ∧ x'.Ok (b + 1) ∧ atts' = atts ++ [⟨n, x.frame, q, o⟩] ∧ dels' = dels ++ delS f x.st q n o
theorem flat_set {α : Type} {F : α → List Value} {l : List α} {i : Nat} {x y : α} (h : l[i]? = some x) (e : F y = F x) : (l.set i y).flatMap F = l.flatMap F := by
  obtain ⟨hi, hx⟩ := List.getElem?_eq_some_iff.1 h
  rw [List.set_eq_take_append_cons_drop, if_pos hi, List.flatMap_append, List.flatMap_cons, e, ← hx, ← List.flatMap_cons, ← List.flatMap_append, List.getElem_cons_drop, List.take_append_drop]
theorem Yiv (A : Option Addr) (cap nd : Nat) (l : List (Int × Int × Int)) (a b c : Int) : sl 181 3 A nd cap (l.flatMap delF ++ #[Value.int .i64 a, .int .i64 b, .int .i64 c].toList) = sl 181 3 A nd cap ((l ++ [(a, b, c)]).flatMap delF) := by simp [List.flatMap_append, delF]
theorem Yip (A : Option Addr) (cap nt : Nat) (l : List AttM) (n k : Int) (q : Cel) (o : Int) : sl 167 8 A nt cap (l.flatMap attF ++ #[Value.int .i64 n, .int .i64 k, .int .i64 q.1, .int .i64 q.2.1, .int .i64 q.2.2.1, .int .i64 q.2.2.2.1, .int .i64 q.2.2.2.2, .int .i64 o].toList) = sl 167 8 A nt cap ((l ++ [(⟨n, k, q, o⟩ : AttM)]).flatMap attF) := by simp [List.flatMap_append, attF]
theorem Wj {c : PlC} {g : Nat} {sA : Option Addr} {sc : Nat} {ss : List SM} {i : Nat} {x x' : SM} {tA : Option Addr} {tc : Nat} {atts : List AttM} {dA : Option Addr} {dc : Nat} {dels : List (Int × Int × Int)} {a1 a2 a3 : Nat} {B : Nat} {w0 : World} {Z : HP} (h : ss[i]? = some x) (hx : x'.g = some (a1, a2, a3)) {e : List SM} (he : e.flatMap smF = (ss.set i x').flatMap smF) {nt nd : Nat} (hnt : nt = atts.length) (hnd : nd = dels.length) : ∀ w,
    St B w0 (plB c g sA c.l.length sc tA nt tc dA nd dc :: plS sA c.l.length sc e :: sl 167 8 tA nt tc (atts.flatMap attF) :: sl 181 3 dA nd dc (dels.flatMap delF) :: blk a1 (mobj (iE x'.es) x'.ce) :: blk a2 (vobj x'.ts x'.ct) :: blk a3 (vobj (wE x'.ak) x'.ca) :: many ((ss.take i).map smQ ++ (ss.drop (i + 1)).map smQ) :: [Z]) w →
    St B w0 (plL c g sA sc (ss.set i x') tA tc atts dA dc dels [Z]) w := by
  intro w hw
  subst hnt hnd
  unfold plS at hw
  rw [he] at hw
  have hP : smQ x' = many [blk a1 (mobj (iE x'.es) x'.ce), blk a2 (vobj x'.ts x'.ct), blk a3 (vobj (wE x'.ak) x'.ca)] := by
    unfold smQ smP; rw [hx]
  have h1 := hw.perm (.cons _ (.cons _ (.cons _ (.cons _ (.close [_, _, _] _)))))
  rw [← hP] at h1
  exact h1.perm (.cons _ (.cons _ (.cons _ (.cons _ (Yef smQ (List.getElem?_eq_some_iff.1 h).1 x' _)))))
theorem Qa {l : List Flw} {n b : Int} {q : Cel} {ss : List SM} {i : Nat} {f : Flw} {xf : Int} {a1 a2 a3 : Nat} {xes : List (Int × Int × Nat)} {xce : Nat} {xts : YK} {xct : Nat} {xak : List (KL × Int × Nat)} {xca : Nat} {xd : Bool} {atts : List AttM} {dels dels' : List (Int × Int × Int)} {o : Int} {es : List (Int × Int × Nat)} {ce : Nat} {ts : YK} {ct : Nat} {ak : List (KL × Int × Nat)} {ca : Nat} {dn : Bool}
    (hf : l[i]? = some f) (hxs : ss[i]? = some (SM.mk xf (some (a1, a2, a3)) xes xce xts xct xak xca xd)) (hfi : f.1 = Xo q) (hc : canT f (SM.mk xf (some (a1, a2, a3)) xes xce xts xct xak xca xd).st q n) (hxa : ∀ e ∈ xak, e.1.length = 2) (hts : TOk ts ct (b + 1))
    (hak : ak = if o = 1 ∧ Zp xak [Yy q, toC q] = none then xak ++ [([Yy q, toC q], n, xca)] else xak)
    (hes : es = if o = 3 ∨ (X8 xes (toC q)).isSome = true then xes else xes ++ [(toC q, n + 1, xce)])
    (hdn : dn = (xd || (decide (o ≠ 3) && decide (toC q = dstF f))))
    (hdl : dels' = dels ++ delS f (SM.mk xf (some (a1, a2, a3)) xes xce xts xct xak xca xd).st q n o) :
    AttR l n b q ss atts dels (ss.set i (SM.mk xf (some (a1, a2, a3)) es ce ts ct ak ca dn)) (atts ++ [⟨n, xf, q, o⟩]) dels' := by
  refine .inr ⟨i, f, _, o, _, hf, hxs, hfi, hc, rfl, ?_, ⟨fun _ => rfl, hts, fun e he => ?_⟩, rfl, hdl⟩
  · unfold ZS SM.st
    dsimp only
    congr 1
    · rw [hes]
      by_cases h : o = 3 ∨ (X8 xes (toC q)).isSome = true
      · rw [if_pos h, if_pos h]
      · rw [if_neg h, if_neg h]
        funext v
        have h2 : X8 xes (toC q) = none := by
          cases h3 : X8 xes (toC q) with
          | none => rfl
          | some z => exact absurd (.inr (by rw [h3]; rfl)) h
        exact Yg4 h2 v
    · rw [hak]
      by_cases h : o = 1 ∧ Zp xak [Yy q, toC q] = none
      · rw [if_pos h, if_pos h]
        funext u v
        rw [YhO h.2]
        by_cases e : u = Yy q ∧ v = toC q
        · rw [if_pos e, if_pos (by rw [e.1, e.2])]
        · rw [if_neg e, if_neg (fun h => e (by injection h with h1 h2; injection h2 with h2; exact ⟨h1, h2⟩))]
      · rw [if_neg h, if_neg h]
  · have he : e ∈ ak := he
    rw [hak] at he
    split at he
    · rcases List.mem_append.1 he with he | he
      · exact hxa e he
      · rw [List.mem_singleton.1 he]; rfl
    · exact hxa e he
theorem YgZ {α : Type} {F : α → List Value} {l : List α} {i : Nat} (hi : i < l.length) {y z : α} (e : F y = F z) : (l.set i y).flatMap F = (l.set i z).flatMap F := by
  rw [← flat_set (l := l.set i z) (y := y) (List.getElem?_set_self hi) e, List.set_set]
theorem J7 (w : World) : (zeroValue 3).run Tryz.prog w = .ok (.int .i64 0) w := by kernel_rfl
theorem Ye3 (q : Cel) : celV q = .agg #[.int .i64 q.1, .int .i64 q.2.1, .int .i64 q.2.2.1, .int .i64 q.2.2.2.1, .int .i64 q.2.2.2.2] := rfl
set_option maxRecDepth 10000 in
set_option maxHeartbeats 8000000 in
theorem Ycu (c : PlC) (q : Cel) (n b : Int) (hn : 0 ≤ n ∧ n ≤ 1000000) (hb : 0 ≤ b ∧ b ≤ 100000000) (hl : c.l.length ≤ 1000) (hid : c.l.Pairwise fun a b => a.1 ≠ b.1) (hxl : c.xs.length ≤ 1000000) {g : Nat} {sA : Option Addr} {sc : Nat} {ss : List SM} (hss : ss.length = c.l.length) (hok : ∀ x ∈ ss, x.Ok b)
    {tA : Option Addr} {tc : Nat} {atts : List AttM} {dA : Option Addr} {dc : Nat} {dels : List (Int × Int × Int)} (hat : atts.length ≤ 100000000) (hdl : dels.length ≤ 100000000) {B : Nat} {w0 : World} {Z : HP} {w : World} (hr : Rd B w0 [Z] c.fA (c.l.flatMap flwF)) (hx : XIn B w0 [Z] c.xA c.xs) (hw : St B w0 (plL c g sA sc ss tA tc atts dA dc dels [Z]) w) :
    Calls Tryz.prog 152 [.pointer (some ⟨g, 0, none⟩), celV q, .int .i64 n].toArray w (Post B w0 fun v K => ∃ ss' tA' tc' atts' dA' dc' dels', v = .tuple #[] ∧ AttR c.l n b q ss atts dels ss' atts' dels' ∧ K = plL c g sA sc ss' tA' tc' atts' dA' dc' dels' [Z]) := by
  refine Yc Tryz.func152 Tryz.ntmps152 rfl rfl hw ?_
  rw [Ye3]
  have leaf : (∀ (i : Nat) f x, c.l[i]? = some f → ss[i]? = some x → f.1 = Xo q → ¬ canT f x.st q n) → AttR c.l n b q ss atts dels ss atts dels := fun h => .inl ⟨rfl, rfl, rfl, h⟩
  have p1 := fun {H' : List HP} {w : World} (hr : Rd B w0 H' c.fA (c.l.flatMap flwF)) (hw : St B w0 H' w) => QX c.l q.2.2.2.2 (by omega) (cap := c.fc) hr hw
  rcases YgW c.l q.2.2.2.2 with ⟨h1, h2⟩ | ⟨i, f, h1, hf, hfi⟩
  · rw [h1] at p1
    repeat' (first | (apply zg23; (refine zs52 ?_; intro _)) | apply (zs65 ?_) | apply (zs68 ?_) | apply (zs69 ?_) | apply (zs70 ?_) | fail)
    apply YZ [0, 1, 2, 3, 4, 5, 6, 7] [] [true, true]
    kernel_rfl
    kernel_rfl
    exact zy
    (simp only [Yj, nthO]; rfl)
    exact rfl
    repeat' (first | apply (zs1 ?_) | apply (zs5 ?_) | (apply zg2; refine zs6 ?_) | (apply zg3; refine zs7 ?_) | apply (zs87 ?_) | fail)
    first | apply Ya JD | apply Yb JD
    exact za
    exact rfl
    exact fun _ hw => (p1 (hr.mono zk) hw)
    repeat' (first | apply (zs1 ?_) | apply (zs2 ?_) | (apply zg1; refine zs3 ?_) | (apply zg6; refine zs11 ?_) | (apply (zs17 ?_ ?_) <;> intro _ <;> try (exfalso; omega)) | apply (zs65 ?_) | (apply Ys; exact zp) | apply (zs68 ?_) | apply (zs69 ?_) | apply (zs70 ?_) | (apply zg27; refine zs71 ?_) | apply (zs74 ?_) | apply (zs77 ?_) | (apply Yk; (repeat (first | with_reducible exact Yh | (with_reducible apply Yg; (repeat (first | with_reducible exact Yf | with_reducible apply Ye)))))) | apply (zs93 ?_) | apply (zs94 ?_) | fail)
    apply Yi (plL c g sA sc ss tA tc atts dA dc dels [Z])
    · exact zk
    apply XU; exact rfl
    exact ⟨_, _, _, _, _, _, _, rfl, leaf fun i f x a1 _ a3 => absurd a3 (h2 f (List.mem_of_getElem? a1)), rfl⟩
  rw [h1] at p1
  obtain ⟨x, hxs⟩ : ∃ x, ss[i]? = some x := ⟨_, List.getElem?_eq_getElem (by have := (List.getElem?_eq_some_iff.1 hf).1; omega)⟩
  have hil : i < c.l.length := (List.getElem?_eq_some_iff.1 hf).1
  have hxo := hok x (List.mem_of_getElem? hxs)
  have honly : ¬ canT f x.st q n → ∀ (j : Nat) f' x', c.l[j]? = some f' → ss[j]? = some x' → f'.1 = Xo q → ¬ canT f' x'.st q n := fun h j f' x' a1 a2 a3 => by
    have : j = i := by
      obtain ⟨j1, j2⟩ := List.getElem?_eq_some_iff.1 a1
      obtain ⟨i1, i2⟩ := List.getElem?_eq_some_iff.1 hf
      rcases Nat.lt_trichotomy j i with e | e | e
      · have := List.pairwise_iff_getElem.1 hid j i j1 i1 e
        rw [j2, i2] at this
        exact absurd (a3.trans hfi.symm) this
      · exact e
      · have := List.pairwise_iff_getElem.1 hid i j i1 j1 e
        rw [j2, i2] at this
        exact absurd (hfi.trans a3.symm) this
    subst this
    rw [hf] at a1
    rw [hxs] at a2
    rw [← Option.some.inj a1, ← Option.some.inj a2]
    exact h
  by_cases hfr : x.frame < 0
  · repeat' (first | (apply zg23; (refine zs52 ?_; intro _)) | apply (zs65 ?_) | apply (zs68 ?_) | apply (zs69 ?_) | apply (zs70 ?_) | fail)
    apply YZ [0, 1, 2, 3, 4, 5, 6, 7] [] [true, true]
    kernel_rfl
    kernel_rfl
    exact zy
    (simp only [Yj, nthO]; rfl)
    exact rfl
    repeat' (first | apply (zs1 ?_) | apply (zs5 ?_) | (apply zg2; refine zs6 ?_) | (apply zg3; refine zs7 ?_) | apply (zs87 ?_) | fail)
    first | apply Ya JD | apply Yb JD
    exact za
    exact rfl
    exact fun _ hw => (p1 (hr.mono zk) hw)
    repeat' (first | apply (zs1 ?_) | apply (zs2 ?_) | (apply zg1; refine zs4 ?_) | apply (zs5 ?_) | (apply zg2; first | refine zs6 ?_ | refine zs58 ?_) | (apply zg3; first | refine zs7 ?_ | refine zs59 ?_) | (apply zg5; refine zs10 ?_) | (apply zg6; refine zs12 ?_) | (apply (zs17 ?_ ?_) <;> intro _ <;> try (exfalso; omega)) | apply (zs65 ?_) | (apply Ys; exact zp) | apply (zs68 ?_) | apply (zs69 ?_) | apply (zs70 ?_) | (apply zg27; refine zs71 ?_) | apply (zs74 ?_) | apply (zs77 ?_) | (apply Yk; (repeat (first | with_reducible exact Yh | (with_reducible apply Yg; (repeat (first | with_reducible exact Yf | with_reducible apply Ye)))))) | apply (zs93 ?_) | apply (zs94 ?_) | fail)
    apply Yi (plL c g sA sc ss tA tc atts dA dc dels [Z])
    · exact zk
    apply XU; exact rfl
    exact ⟨_, _, _, _, _, _, _, rfl, leaf (honly fun h => absurd h.1 (by show ¬ 0 ≤ x.frame; omega)), rfl⟩
  obtain ⟨⟨a1, a2, a3⟩, hg⟩ := Option.isSome_iff_exists.1 (hxo.g (by omega))
  obtain ⟨xf, xg, xes, xce, xts, xct, xak, xca, xd⟩ := x
  have hg : xg = some (a1, a2, a3) := hg
  subst hg
  have hg : (SM.mk xf (some (a1, a2, a3)) xes xce xts xct xak xca xd).g = some (a1, a2, a3) := rfl
  have hfr : ¬ xf < 0 := hfr
  refine VR (plB c g sA c.l.length sc tA atts.length tc dA dels.length dc :: plS sA c.l.length sc ss :: plT tA tc atts :: plD dA dc dels :: blk a1 (mobj (iE xes) xce) :: blk a2 (vobj xts xct) :: blk a3 (vobj (wE xak) xca) :: many ((ss.take i).map smQ ++ (ss.drop (i + 1)).map smQ) :: [Z]) (fun w hw => ?_) ?_
  · have h2 := hw.perm (.cons _ (.cons _ (.cons _ (.cons _ (Ygq smQ hxs _)))))
    have hP : smQ (SM.mk xf (some (a1, a2, a3)) xes xce xts xct xak xca xd) = many [blk a1 (mobj (iE xes) xce), blk a2 (vobj xts xct), blk a3 (vobj (wE xak) xca)] := by
      rfl
    rw [hP] at h2
    exact h2.perm (.cons _ (.cons _ (.cons _ (.cons _ (.open_ [_, _, _] _)))))
  refine Ur (e := 224) (size := 5) (A := sA) (k := c.l.length) (cap := sc) (xs := ss.flatMap smF) zm (by omega) ?_
  intro gA eA
  subst eA
  have hback : ∀ w, St B w0 (plB c g (some ⟨gA, 0, none⟩) c.l.length sc tA atts.length tc dA dels.length dc :: plS (some ⟨gA, 0, none⟩) c.l.length sc ss :: plT tA tc atts :: plD dA dc dels :: blk a1 (mobj (iE xes) xce) :: blk a2 (vobj xts xct) :: blk a3 (vobj (wE xak) xca) :: many ((ss.take i).map smQ ++ (ss.drop (i + 1)).map smQ) :: [Z]) w → St B w0 (plL c g (some ⟨gA, 0, none⟩) sc ss tA tc atts dA dc dels [Z]) w := fun w hw => by
    have h3 := Wj (x' := (SM.mk xf (some (a1, a2, a3)) xes xce xts xct xak xca xd)) hxs hg (e := ss) (by rw [flat_set hxs rfl]) rfl rfl w hw
    have h4 : ss.set i (SM.mk xf (some (a1, a2, a3)) xes xce xts xct xak xca xd) = ss := by
      obtain ⟨i1, i2⟩ := List.getElem?_eq_some_iff.1 hxs
      rw [← i2, List.set_getElem_self]
    rw [h4] at h3
    exact h3
  have hsmf : smF (SM.mk xf (some (a1, a2, a3)) xes xce xts xct xak xca xd) = [.int .i64 xf, .map (some a1), .map (some a2), .map (some a3), .bool xd] := by rfl
  repeat' (first | (apply zg23; (refine zs52 ?_; intro _)) | apply (zs65 ?_) | apply (zs68 ?_) | apply (zs69 ?_) | apply (zs70 ?_) | fail)
  rename_i gc
  apply YZ [0, 1, 2, 3, 4, 5, 6, 7] [] [true, true]
  kernel_rfl
  kernel_rfl
  exact zy
  (simp only [Yj, nthO]; rfl)
  exact rfl
  repeat' (first | apply (zs1 ?_) | apply (zs5 ?_) | (apply zg2; refine zs6 ?_) | (apply zg3; refine zs7 ?_) | apply (zs87 ?_) | fail)
  first | apply Ya JD | apply Yb JD
  exact za
  exact rfl
  exact fun _ hw => (p1 (hr.mono zk) hw)
  repeat' (first | apply (zs1 ?_) | apply (zs2 ?_) | (apply zg1; refine zs4 ?_) | apply (zs5 ?_) | (apply zg2; first | refine zs6 ?_ | refine zs58 ?_) | (apply zg3; first | refine zs7 ?_ | refine zs59 ?_) | (apply zg5; refine zs10 ?_) | (apply zg6; refine zs12 ?_) | (apply (zs17 ?_ ?_) <;> intro _ <;> try (exfalso; omega)) | apply (zs65 ?_) | (apply Ys; exact zp) | apply (zs68 ?_) | apply (zs69 ?_) | apply (zs70 ?_) | (apply zg27; refine zs72 ?_) | apply (zs76 ?_) | (apply Yk; (repeat (first | with_reducible exact Yh | (with_reducible apply Yg; (repeat (first | with_reducible exact Yf | with_reducible apply Ye)))))) | apply (zs93 ?_) | apply (zs94 ?_) | fail)
  have hrf : Rd B w0 (blk gc (.cells #[.int .i64 q.1, .int .i64 q.2.1, .int .i64 q.2.2.1, .int .i64 q.2.2.2.1, .int .i64 q.2.2.2.2] 40 (0, 0)) :: plB c g (some ⟨gA, 0, none⟩) c.l.length sc tA atts.length tc dA dels.length dc :: plS (some ⟨gA, 0, none⟩) c.l.length sc ss :: plT tA tc atts :: plD dA dc dels :: blk a1 (mobj (iE xes) xce) :: blk a2 (vobj xts xct) :: blk a3 (vobj (wE xak) xca) :: many ((ss.take i).map smQ ++ (ss.drop (i + 1)).map smQ) :: [Z]) c.fA (c.l.flatMap flwF) := hr.mono zk
  refine Zb (fun (z : Nat × Nat) => [(0, .pointer (some ⟨g, 0, none⟩)), (2, .int .i64 n), (4, .pointer (some ⟨gc, 0, none⟩)), (7, .pointer (some ⟨z.1, 0, none⟩)), (8, sptr (some ⟨gA, 0, none⟩) (i * 5)), (9, .pointer (some ⟨z.2, 0, none⟩))]) (fun z => blk z.1 (.cells #[.int .i64 f.1, .int .i64 f.2.1, .int .i64 f.2.2.1, .int .i64 f.2.2.2.1, .int .i64 f.2.2.2.2.1, .int .i64 f.2.2.2.2.2] 68 (0, 0)) :: blk z.2 (.cells #[.int .i64 q.2.2.1, .int .i64 q.2.2.2.1] 263 (0, 0)) :: blk gc (.cells #[.int .i64 q.1, .int .i64 q.2.1, .int .i64 q.2.2.1, .int .i64 q.2.2.2.1, .int .i64 q.2.2.2.2] 40 (0, 0)) :: plB c g (some ⟨gA, 0, none⟩) c.l.length sc tA atts.length tc dA dels.length dc :: plS (some ⟨gA, 0, none⟩) c.l.length sc ss :: plT tA tc atts :: plD dA dc dels :: blk a1 (mobj (iE xes) xce) :: blk a2 (vobj xts xct) :: blk a3 (vobj (wE xak) xca) :: many ((ss.take i).map smQ ++ (ss.drop (i + 1)).map smQ) :: [Z]) ?_ ?_
  · intro K2 hK2
    apply Us (.n1 0 (.n1 1 (.n1 2 (.n1 3 (.n1 4 (.n1 5 (.n1 6 (.n1 7 (.n1 8 (.n1 9 (.n1 10 (.n1 11 (.n1 12 (.n1 13 (.n1 14 (.n1 15 (.n1 16 (.n1 17 (.n2 18 (.n1 19 (.n1 20 (.n1 21 .done))) 19 (.n1 18 (.n1 20 (.n1 21 .done)))))))))))))))))))))) [22] [true, true, true, false, false, false, false, false, false, true]
    kernel_rfl
    kernel_rfl
    exact zy
    (simp only [Yj, nthO]; rfl)
    repeat' (first | apply (zs1 ?_) | apply (zs2 ?_) | apply (zs5 ?_) | (apply zg2; refine zs6 ?_) | (apply zg3; first | refine zs7 ?_ | refine zs61 ?_) | (apply zg5; first | refine zs10 ?_ | refine zs57 ?_) | (apply zg22; refine zs51 ?_) | (apply zg24; (refine zs54 ?_; intro _)) | (apply zg25; refine zs55 ?_) | apply (zs65 ?_) | (apply Ys; exact zp) | apply (zs87 ?_) | (apply Yk; (repeat (first | with_reducible exact Yh | (with_reducible apply Yg; (repeat (first | with_reducible exact Yf | with_reducible apply Ye)))))) | (apply Va; exact zp) | apply (zs90 ?_) | apply (zs91 ?_ ?_) | (apply Y9; (repeat (first | with_reducible exact Yh | (with_reducible apply Yg; (repeat (first | with_reducible exact Yf | with_reducible apply Ye)))))) | apply (zs93 ?_) | apply (zs94 ?_) | fail)
    all_goals (
      apply hK2 ⟨_, _⟩
      rotate_left
      · exact zk
      · exact zu)
  rintro ⟨gf, gl⟩
  dsimp only
  have hakL : ∀ e ∈ wE xak, e.1.length = 2 := fun e he => by
    obtain ⟨y, hy, rfl⟩ := List.mem_map.1 he
    exact hxo.ak y hy
  have hkA : ∀ t, Zp xak [Yy q, toC q] = t → vget (wE xak) [q.2.2.1, q.2.2.2.1] = t.map (Value.int .i64) := fun t h => by rw [Ykp, ← h]; rfl
  have hkS : ∀ t, X8 xes (Yy q) = t → mget (iE xes) q.2.2.1 = t.map (Value.int .i64) := fun t h => by rw [Ygr, ← h]; rfl
  have hdone : ¬ canT f (SM.mk xf (some (a1, a2, a3)) xes xce xts xct xak xca xd).st q n → AttR c.l n b q ss atts dels ss atts dels := fun h => leaf (honly h)
  have hcan : canT f (SM.mk xf (some (a1, a2, a3)) xes xce xts xct xak xca xd).st q n ↔ ∃ a, X8 xes (Yy q) = some a ∧ a ≤ n ∧ Yy q ≠ dstF f ∧ ∀ t, Zp xak [Yy q, toC q] = some t → n ≤ t := by
    unfold canT
    constructor
    · rintro ⟨-, ⟨a, h1, h2⟩, h3, h4⟩
      exact ⟨a, h1, h2, h3, h4⟩
    · rintro ⟨a, h1, h2, h3, h4⟩
      exact ⟨by show 0 ≤ xf; omega, ⟨a, h1, h2⟩, h3, h4⟩
  by_cases hc : canT f (SM.mk xf (some (a1, a2, a3)) xes xce xts xct xak xca xd).st q n
  rotate_left
  · have hno := hdone hc
    rw [hcan] at hc
    have hkF : ∀ {a}, X8 xes (Yy q) = some a → a ≤ n → q.2.2.1 ≠ f.2.2.1 → (∀ t, Zp xak [Yy q, toC q] = some t → n ≤ t) → False := fun h1 h2 h3 h4 => hc ⟨_, h1, h2, h3, h4⟩
    cases hfrom : X8 xes (Yy q) with
    | none =>
      have hk1 : mget (iE xes) q.2.2.1 = none := hkS _ hfrom
      cases hak : Zp xak [Yy q, toC q] with
      | none =>
        have hk2 : vget (wE xak) [q.2.2.1, q.2.2.2.1] = none := hkA _ hak
        repeat' (first | (apply Yu; exact rfl; exact rfl) | (apply XK (kt := 3) (et := 3); exact rfl; exact rfl; exact zm; kernel_rfl; exact rfl; exact hk1) | (apply Zc (kt := 3) (et := 3); exact rfl; exact rfl; exact zm; kernel_rfl; exact rfl; exact hk1; exact J7) | (apply XT (kt := 263) (et := 3) [q.2.2.1, q.2.2.2.1]; exact rfl; exact rfl; exact zm; kernel_rfl; exact rfl; exact hakL; exact rfl; exact hk2) | (apply XS (kt := 263) (et := 3) [q.2.2.1, q.2.2.2.1]; exact rfl; exact rfl; exact zm; kernel_rfl; exact rfl; exact hakL; exact rfl; exact hk2; exact J7) | apply (zs1 ?_) | apply (zs2 ?_) | (apply zg1; refine zs3 ?_) | (apply zg2; first | refine zs6 ?_ | refine zs58 ?_) | (apply zg3; first | refine zs7 ?_ | refine zs8 ?_ | refine zs59 ?_) | (apply zg6; refine zs11 ?_) | apply (zs13 ?_) | (apply zg20; refine zs48 ?_) | apply (zs65 ?_) | apply (zs66 ?_) | apply (zs68 ?_) | apply (zs69 ?_) | apply (zs70 ?_) | (apply zg27; refine zs71 ?_) | apply (zs74 ?_) | apply (zs77 ?_) | (apply zg28; refine zs83 ?_) | fail)
        apply Yi (plL c g (some ⟨gA, 0, none⟩) sc ss tA tc atts dA dc dels [Z])
        · intro w hw
          refine hback w ?_
          revert w
          exact zk
        apply XU; exact rfl
        exact ⟨_, _, _, _, _, _, _, rfl, hno, rfl⟩
      | some t =>
        have hk2 : vget (wE xak) [q.2.2.1, q.2.2.2.1] = some (.int .i64 t) := hkA _ hak
        repeat' (first | (apply Yu; exact rfl; exact rfl) | (apply XK (kt := 3) (et := 3); exact rfl; exact rfl; exact zm; kernel_rfl; exact rfl; exact hk1) | (apply Zc (kt := 3) (et := 3); exact rfl; exact rfl; exact zm; kernel_rfl; exact rfl; exact hk1; exact J7) | (apply XT (kt := 263) (et := 3) [q.2.2.1, q.2.2.2.1]; exact rfl; exact rfl; exact zm; kernel_rfl; exact rfl; exact hakL; exact rfl; exact hk2) | (apply XS (kt := 263) (et := 3) [q.2.2.1, q.2.2.2.1]; exact rfl; exact rfl; exact zm; kernel_rfl; exact rfl; exact hakL; exact rfl; exact hk2; exact J7) | apply (zs1 ?_) | apply (zs2 ?_) | (apply zg1; refine zs3 ?_) | (apply zg2; first | refine zs6 ?_ | refine zs58 ?_) | (apply zg3; first | refine zs7 ?_ | refine zs8 ?_ | refine zs59 ?_) | (apply zg6; refine zs11 ?_) | apply (zs13 ?_) | (apply zg20; refine zs48 ?_) | apply (zs65 ?_) | apply (zs66 ?_) | apply (zs68 ?_) | apply (zs69 ?_) | apply (zs70 ?_) | (apply zg27; refine zs71 ?_) | apply (zs74 ?_) | apply (zs77 ?_) | (apply zg28; refine zs83 ?_) | fail)
        apply Yi (plL c g (some ⟨gA, 0, none⟩) sc ss tA tc atts dA dc dels [Z])
        · intro w hw
          refine hback w ?_
          revert w
          exact zk
        apply XU; exact rfl
        exact ⟨_, _, _, _, _, _, _, rfl, hno, rfl⟩
    | some a =>
      have hk1 : mget (iE xes) q.2.2.1 = some (.int .i64 a) := hkS _ hfrom
      cases hak : Zp xak [Yy q, toC q] with
      | none =>
        have hk2 : vget (wE xak) [q.2.2.1, q.2.2.2.1] = none := hkA _ hak
        by_cases hgo : a ≤ n ∧ q.2.2.1 ≠ f.2.2.1
        · exact absurd (hkF hfrom hgo.1 hgo.2 (fun t h => by rw [hak] at h; cases h)) id
        repeat' (first | (apply Yu; exact rfl; exact rfl) | (apply XK (kt := 3) (et := 3); exact rfl; exact rfl; exact zm; kernel_rfl; exact rfl; exact hk1) | (apply Zc (kt := 3) (et := 3); exact rfl; exact rfl; exact zm; kernel_rfl; exact rfl; exact hk1; exact J7) | (apply XT (kt := 263) (et := 3) [q.2.2.1, q.2.2.2.1]; exact rfl; exact rfl; exact zm; kernel_rfl; exact rfl; exact hakL; exact rfl; exact hk2) | (apply XS (kt := 263) (et := 3) [q.2.2.1, q.2.2.2.1]; exact rfl; exact rfl; exact zm; kernel_rfl; exact rfl; exact hakL; exact rfl; exact hk2; exact J7) | apply (zs1 ?_) | apply (zs2 ?_) | (apply zg1; first | refine zs3 ?_ | refine zs4 ?_) | (apply zg2; first | refine zs6 ?_ | refine zs58 ?_) | (apply zg3; first | refine zs7 ?_ | refine zs8 ?_ | refine zs59 ?_) | (apply zg6; first | refine zs11 ?_ | refine zs12 ?_) | apply (zs13 ?_) | (apply zg7; (refine zs15 ?_ ?_ <;> intro _ <;> try (exfalso; omega))) | (apply (zs19 ?_ ?_) <;> intro _ <;> try (exfalso; omega)) | (apply zg20; refine zs47 ?_) | apply (zs65 ?_) | apply (zs66 ?_) | apply (zs68 ?_) | apply (zs69 ?_) | apply (zs70 ?_) | (apply zg27; refine zs71 ?_) | apply (zs74 ?_) | apply (zs77 ?_) | (apply zg28; refine zs83 ?_) | fail)
        all_goals (
          apply Yi (plL c g (some ⟨gA, 0, none⟩) sc ss tA tc atts dA dc dels [Z])
          · intro w hw
            refine hback w ?_
            revert w
            exact zk
          apply XU; exact rfl
          exact ⟨_, _, _, _, _, _, _, rfl, hno, rfl⟩
          skip)
      | some t =>
        have hk2 : vget (wE xak) [q.2.2.1, q.2.2.2.1] = some (.int .i64 t) := hkA _ hak
        by_cases hgo : a ≤ n ∧ q.2.2.1 ≠ f.2.2.1 ∧ n ≤ t
        · exact absurd (hkF hfrom hgo.1 hgo.2.1 (fun t' h => by rw [hak] at h; rw [← Option.some.inj h]; exact hgo.2.2)) id
        repeat' (first | (apply Yu; exact rfl; exact rfl) | (apply XK (kt := 3) (et := 3); exact rfl; exact rfl; exact zm; kernel_rfl; exact rfl; exact hk1) | (apply Zc (kt := 3) (et := 3); exact rfl; exact rfl; exact zm; kernel_rfl; exact rfl; exact hk1; exact J7) | (apply XT (kt := 263) (et := 3) [q.2.2.1, q.2.2.2.1]; exact rfl; exact rfl; exact zm; kernel_rfl; exact rfl; exact hakL; exact rfl; exact hk2) | (apply XS (kt := 263) (et := 3) [q.2.2.1, q.2.2.2.1]; exact rfl; exact rfl; exact zm; kernel_rfl; exact rfl; exact hakL; exact rfl; exact hk2; exact J7) | apply (zs1 ?_) | apply (zs2 ?_) | (apply zg1; first | refine zs3 ?_ | refine zs4 ?_) | (apply zg2; first | refine zs6 ?_ | refine zs58 ?_) | (apply zg3; first | refine zs7 ?_ | refine zs8 ?_ | refine zs59 ?_) | (apply zg6; first | refine zs11 ?_ | refine zs12 ?_) | apply (zs13 ?_) | (apply zg7; (refine zs15 ?_ ?_ <;> intro _ <;> try (exfalso; omega))) | (apply (zs17 ?_ ?_) <;> intro _ <;> try (exfalso; omega)) | (apply (zs19 ?_ ?_) <;> intro _ <;> try (exfalso; omega)) | (apply zg20; refine zs47 ?_) | apply (zs65 ?_) | apply (zs66 ?_) | apply (zs68 ?_) | apply (zs69 ?_) | apply (zs70 ?_) | (apply zg27; refine zs71 ?_) | apply (zs74 ?_) | apply (zs77 ?_) | (apply zg28; refine zs83 ?_) | fail)
        all_goals (
          apply Yi (plL c g (some ⟨gA, 0, none⟩) sc ss tA tc atts dA dc dels [Z])
          · intro w hw
            refine hback w ?_
            revert w
            exact zk
          apply XU; exact rfl
          exact ⟨_, _, _, _, _, _, _, rfl, hno, rfl⟩
          skip)
  obtain ⟨a, hfrom, hcn, hcd, hck⟩ := hcan.1 hc
  have hk1 : mget (iE xes) q.2.2.1 = some (.int .i64 a) := hkS _ hfrom
  have hcd : q.2.2.1 ≠ f.2.2.1 := hcd
  obtain ⟨tz, htz0, htzb, htz⟩ : ∃ tz : Int, 0 ≤ tz ∧ tz ≤ b ∧ ((vget xts [q.2.2.1, q.2.2.2.1] = none ∧ tz = 0) ∨ vget xts [q.2.2.1, q.2.2.2.1] = some (.int .i64 tz)) := by
    cases h : vget xts [q.2.2.1, q.2.2.2.1] with
    | none => exact ⟨0, Int.le_refl _, hb.1, .inl ⟨rfl, rfl⟩⟩
    | some v =>
      obtain ⟨l1, bb, l2, e, -⟩ := Jv h
      obtain ⟨z, h1, h2, h3⟩ := hxo.ts.z ([q.2.2.1, q.2.2.2.1], v, bb) (by show _ ∈ xts; rw [e]; simp)
      exact ⟨z, h2, h3, .inr (by rw [← h1])⟩
  have htL : ∀ e ∈ xts, e.1.length = 2 := hxo.ts.ok.len
  have hRZ : ∀ w, St B w0 (blk gf (.cells #[.int .i64 f.1, .int .i64 f.2.1, .int .i64 f.2.2.1, .int .i64 f.2.2.2.1, .int .i64 f.2.2.2.2.1, .int .i64 f.2.2.2.2.2] 68 (0, 0)) :: blk gl (.cells #[.int .i64 q.2.2.1, .int .i64 q.2.2.2.1] 263 (0, 0)) :: blk gc (.cells #[.int .i64 q.1, .int .i64 q.2.1, .int .i64 q.2.2.1, .int .i64 q.2.2.2.1, .int .i64 q.2.2.2.2] 40 (0, 0)) :: plS (some ⟨gA, 0, none⟩) c.l.length sc ss :: plT tA tc atts :: plD dA dc dels :: blk a1 (mobj (iE xes) xce) :: blk a2 (vobj xts xct) :: blk a3 (vobj (wE xak) xca) :: many ((ss.take i).map smQ ++ (ss.drop (i + 1)).map smQ) :: [Z]) w → St B w0 [Z] w := by
    exact zk
  obtain ⟨ab, hab⟩ : ∃ ab : Bool, (Zp xak [Yy q, toC q]).isSome = ab := ⟨_, rfl⟩
  obtain ⟨tv, htv⟩ : ∃ tv : Int, (vget (wE xak) [q.2.2.1, q.2.2.2.1] = some (.int .i64 tv) ∧ ab = true) ∨ (vget (wE xak) [q.2.2.1, q.2.2.2.1] = none ∧ ab = false ∧ ∀ w, (zeroValue 3).run Tryz.prog w = .ok (.int .i64 tv) w) := by
    cases hopt : Zp xak [Yy q, toC q] with
    | none => exact ⟨0, .inr ⟨hkA _ hopt, by rw [← hab, hopt]; rfl, J7⟩⟩
    | some t => exact ⟨t, .inl ⟨hkA _ hopt, by rw [← hab, hopt]; rfl⟩⟩
  have htn : ab = true → n ≤ tv := fun h => by
    rcases htv with ⟨h1, _⟩ | ⟨_, h1, _⟩
    · cases hopt : Zp xak [Yy q, toC q] with
      | none => rw [hkA _ hopt] at h1; cases h1
      | some t =>
        rw [hkA _ hopt] at h1
        injection h1 with h1
        injection h1 with _ h1
        rw [← h1]
        exact hck t hopt
    · rw [h] at h1; cases h1
  have htz2 : vget xts [q.2.2.1, q.2.2.2.1] = some (.int .i64 tz) ∨ (vget xts [q.2.2.1, q.2.2.2.1] = none ∧ ∀ w, (zeroValue 3).run Tryz.prog w = .ok (.int .i64 tz) w) := by
    rcases htz with ⟨h1, h2⟩ | h1
    · exact .inr ⟨h1, fun w => by rw [h2]; exact J7 w⟩
    · exact .inl h1
  iterate 32 (first | (apply Yu; exact rfl; exact rfl) | (apply XK (kt := 3) (et := 3); exact rfl; exact rfl; exact zm; kernel_rfl; exact rfl; exact hk1) | (apply Ydp (kt := 263) (et := 3) [q.2.2.1, q.2.2.2.1]; exact rfl; exact rfl; exact zm; kernel_rfl; exact rfl; exact hakL; exact rfl; exact htv) | apply (zs1 ?_) | apply (zs2 ?_) | (apply zg2; first | refine zs6 ?_ | refine zs58 ?_) | (apply zg3; first | refine zs7 ?_ | refine zs8 ?_ | refine zs59 ?_) | apply (zs13 ?_) | apply (zs66 ?_) | apply (zs68 ?_) | apply (zs69 ?_) | (apply zg28; refine zs83 ?_) | fail)
  refine Zb (fun _ : Unit => [(0, .pointer (some ⟨g, 0, none⟩)), (2, .int .i64 n), (4, .pointer (some ⟨gc, 0, none⟩)), (7, .pointer (some ⟨gf, 0, none⟩)), (8, sptr (some ⟨gA, 0, none⟩) (i * 5)), (9, .pointer (some ⟨gl, 0, none⟩)), (13, .bool ab)]) (fun _ => blk gf (.cells #[.int .i64 f.1, .int .i64 f.2.1, .int .i64 f.2.2.1, .int .i64 f.2.2.2.1, .int .i64 f.2.2.2.2.1, .int .i64 f.2.2.2.2.2] 68 (0, 0)) :: blk gl (.cells #[.int .i64 q.2.2.1, .int .i64 q.2.2.2.1] 263 (0, 0)) :: blk gc (.cells #[.int .i64 q.1, .int .i64 q.2.1, .int .i64 q.2.2.1, .int .i64 q.2.2.2.1, .int .i64 q.2.2.2.2] 40 (0, 0)) :: plB c g (some ⟨gA, 0, none⟩) c.l.length sc tA atts.length tc dA dels.length dc :: plS (some ⟨gA, 0, none⟩) c.l.length sc ss :: plT tA tc atts :: plD dA dc dels :: blk a1 (mobj (iE xes) xce) :: blk a2 (vobj xts xct) :: blk a3 (vobj (wE xak) xca) :: many ((ss.take i).map smQ ++ (ss.drop (i + 1)).map smQ) :: [Z]) ?_ ?_
  · intro K2 hK2
    cases ab with
    | false =>
      repeat' (first | apply (zs1 ?_) | (apply zg1; first | refine zs3 ?_ | refine zs4 ?_) | (apply zg2; refine zs6 ?_) | (apply zg3; refine zs7 ?_) | (apply zg6; refine zs12 ?_) | (apply zg7; (refine zs15 ?_ ?_ <;> intro _ <;> try (exfalso; omega))) | (apply (zs19 ?_ ?_) <;> intro _ <;> try (exfalso; omega)) | (apply zg20; refine zs47 ?_) | apply (zs65 ?_) | apply (zs68 ?_) | apply (zs69 ?_) | apply (zs70 ?_) | (apply zg27; refine zs72 ?_) | apply (zs76 ?_) | fail)
      apply hK2 ()
      · exact zu
      · exact zk
    | true =>
      have h9 := htn rfl
      repeat' (first | apply (zs1 ?_) | (apply zg1; refine zs4 ?_) | (apply zg2; refine zs6 ?_) | (apply zg3; refine zs7 ?_) | (apply zg6; first | refine zs11 ?_ | refine zs12 ?_) | (apply zg7; (refine zs15 ?_ ?_ <;> intro _ <;> try (exfalso; omega))) | (apply (zs17 ?_ ?_) <;> intro _ <;> try (exfalso; omega)) | (apply (zs19 ?_ ?_) <;> intro _ <;> try (exfalso; omega)) | (apply zg20; refine zs47 ?_) | apply (zs65 ?_) | apply (zs68 ?_) | apply (zs69 ?_) | apply (zs70 ?_) | (apply zg27; refine zs72 ?_) | apply (zs76 ?_) | fail)
      apply hK2 ()
      · exact zu
      · exact zk
  rintro ⟨⟩
  repeat' (first | apply (zs69 ?_) | fail)
  apply YZ [0, 1, 2, 3, 4, 5, 6, 7, 8, 9, 10, 11, 12, 13, 14, 15] [] [true, true, true, true, true, true, true, true, true, true, true, true]
  kernel_rfl
  kernel_rfl
  exact zy
  (simp only [Yj, nthO]; rfl)
  exact rfl
  repeat' (first | (apply Yu; exact rfl; exact rfl) | (apply Ydq (kt := 263) (et := 3) [q.2.2.1, q.2.2.2.1]; exact rfl; exact rfl; exact zm; kernel_rfl; exact rfl; exact htL; exact rfl; exact htz2) | apply (zs1 ?_) | (apply zg2; first | refine zs6 ?_ | refine zs58 ?_) | (apply zg3; first | refine zs7 ?_ | refine zs8 ?_ | refine zs59 ?_) | apply (zs87 ?_) | fail)
  apply Yo _ Yl1
  exact za
  exact rfl
  exact fun _ hw => (Yfv c _ _ _ _ _ htz0 hxl (blk gf (.cells #[.int .i64 f.1, .int .i64 f.2.1, .int .i64 f.2.2.1, .int .i64 f.2.2.2.1, .int .i64 f.2.2.2.2.1, .int .i64 f.2.2.2.2.2] 68 (0, 0)) :: blk gl (.cells #[.int .i64 q.2.2.1, .int .i64 q.2.2.2.1] 263 (0, 0)) :: blk gc (.cells #[.int .i64 q.1, .int .i64 q.2.1, .int .i64 q.2.2.1, .int .i64 q.2.2.2.1, .int .i64 q.2.2.2.2] 40 (0, 0)) :: plS (some ⟨gA, 0, none⟩) c.l.length sc ss :: plT tA tc atts :: plD dA dc dels :: blk a1 (mobj (iE xes) xce) :: blk a2 (vobj xts xct) :: blk a3 (vobj (wE xak) xca) :: many ((ss.take i).map smQ ++ (ss.drop (i + 1)).map smQ) :: [Z]) hRZ zk zk hx (hw))
  rintro _ _ ⟨⟨o, rfl⟩, hK0⟩
  rw [hK0]
  repeat' (first | apply (zs2 ?_) | apply (zs65 ?_) | (apply Ys; exact zp) | apply (zs68 ?_) | apply (zs69 ?_) | (apply Yk; (repeat (first | with_reducible exact Yh | (with_reducible apply Yg; (repeat (first | with_reducible exact Yf | with_reducible apply Ye)))))) | apply (zs93 ?_) | apply (zs94 ?_) | fail)
  have hts : TOk xts xct b := hxo.ts
  refine Zb (fun (_ : { z : YK × Nat // TOk z.1 z.2 (b + 1) }) => [(0, .pointer (some ⟨g, 0, none⟩)), (2, .int .i64 n), (4, .pointer (some ⟨gc, 0, none⟩)), (7, .pointer (some ⟨gf, 0, none⟩)), (8, sptr (some ⟨gA, 0, none⟩) (i * 5)), (9, .pointer (some ⟨gl, 0, none⟩)), (13, .bool ab), (14, .int .i64 o)]) (fun z => blk gf (.cells #[.int .i64 f.1, .int .i64 f.2.1, .int .i64 f.2.2.1, .int .i64 f.2.2.2.1, .int .i64 f.2.2.2.2.1, .int .i64 f.2.2.2.2.2] 68 (0, 0)) :: blk gl (.cells #[.int .i64 q.2.2.1, .int .i64 q.2.2.2.1] 263 (0, 0)) :: blk gc (.cells #[.int .i64 q.1, .int .i64 q.2.1, .int .i64 q.2.2.1, .int .i64 q.2.2.2.1, .int .i64 q.2.2.2.2] 40 (0, 0)) :: plB c g (some ⟨gA, 0, none⟩) c.l.length sc tA atts.length tc dA dels.length dc :: plS (some ⟨gA, 0, none⟩) c.l.length sc ss :: plT tA tc atts :: plD dA dc dels :: blk a1 (mobj (iE xes) xce) :: blk a2 (vobj z.1.1 z.1.2) :: blk a3 (vobj (wE xak) xca) :: many ((ss.take i).map smQ ++ (ss.drop (i + 1)).map smQ) :: [Z]) ?_ ?_
  · intro K2 hK2
    rcases htz with ⟨htz, rfl⟩ | htz
    · have hg2 : vget (xts ++ [([q.2.2.1, q.2.2.2.1], Value.int .i64 0, xct)]) [q.2.2.1, q.2.2.2.1] = some (.int .i64 0) := by
        unfold vget at htz ⊢
        rw [Option.map_eq_none_iff] at htz
        rw [List.find?_append, htz]
        simp
      have hL2 : ∀ e ∈ xts ++ [([q.2.2.1, q.2.2.2.1], Value.int .i64 0, xct)], e.1.length = 2 := (hts.ok.snoc rfl _).len
      have hbir : ∀ e ∈ xts, e.2.2 ≠ xct := fun e he => Nat.ne_of_lt (hts.ok.lt e he)
      have hnew : TOk (xts ++ ([q.2.2.1, q.2.2.2.1], Value.int .i64 (0 + 1), xct) :: []) (xct + 1) (b + 1) := ⟨hts.ok.snoc rfl _, fun e he => by
        rcases List.mem_append.1 he with he | he
        · obtain ⟨z, h1, h2, h3⟩ := hts.z e he
          exact ⟨z, h1, h2, by omega⟩
        · rw [List.mem_singleton.1 he]
          exact ⟨0 + 1, rfl, by omega, by omega⟩⟩
      apply Ydc (.p1 0 (.p1 1 (.p1 2 (.p1 3 (.p1 4 (.d2 5 (.p1 6 (.d1 7 (.p1 8 .done))) 7 (.p1 8 (.d1 5 (.p1 6 .done))))))))) [9] [false, true, false, false, true]
      kernel_rfl
      kernel_rfl
      exact zy
      (simp only [Yj, nthO]; rfl)
      repeat' (first | (apply Yu; exact rfl; exact rfl) | (apply ZM (kt := 263) (et := 3) [q.2.2.1, q.2.2.2.1]; exact rfl; exact rfl; exact zm; kernel_rfl; exact rfl; exact htL; exact rfl; exact htz; exact J7) | (apply Xy (kt := 263) (et := 3) [q.2.2.1, q.2.2.2.1]; exact rfl; exact rfl; exact zm; kernel_rfl; exact rfl; exact hL2; exact rfl; exact hg2) | (apply Qv (kt := 263) (et := 3) [q.2.2.1, q.2.2.2.1]; exact rfl; exact rfl; kernel_rfl; exact rfl; exact htL; exact rfl; exact zd; exact htz; exact J7) | (apply Ze (l1 := xts) (l2 := []) (k := [q.2.2.1, q.2.2.2.1]); exact rfl; exact rfl; exact rfl; exact zd; exact hbir) | (apply Ykw; (simp only [nthO]; rfl)) | (apply Yku; (simp only [nthO]; rfl); exact zp) | (apply Ykv; (simp only [nthO]; rfl); (simp only [nthO]; rfl); exact zp) | (apply Ydu; (repeat (first | with_reducible exact Yh | (with_reducible apply Yg; (repeat (first | with_reducible exact Yf | with_reducible apply Ye)))))) | (apply Ycr; exact zp) | apply (zs1 ?_) | (apply zg2; refine zs58 ?_) | (apply zg3; first | refine zs8 ?_ | refine zs59 ?_) | apply (zs13 ?_) | (apply zg13; refine zs30 ?_) | apply (zs65 ?_) | (apply Ys; exact zp) | apply (zs93 ?_) | apply (zs94 ?_) | fail)
      all_goals (
        apply hK2 ⟨(_, _), hnew⟩
        · exact zu
        · exact zk)
    · obtain ⟨l1, bb, l2, e, hne⟩ := Jv htz
      subst e
      have hbir := hts.ok.births
      have hL0 : ∀ e ∈ l1, e.1.length = 2 := fun e he => htL e (List.mem_append.2 (.inl he))
      have hnew : TOk (l1 ++ ([q.2.2.1, q.2.2.2.1], Value.int .i64 (tz + 1), bb) :: l2) xct (b + 1) := ⟨hts.ok.set _, fun e he => by
        rcases List.mem_append.1 he with he | he
        · obtain ⟨z, h1, h2, h3⟩ := hts.z e (List.mem_append.2 (.inl he))
          exact ⟨z, h1, h2, by omega⟩
        · rcases List.mem_cons.1 he with rfl | he
          · exact ⟨tz + 1, rfl, by omega, by omega⟩
          · obtain ⟨z, h1, h2, h3⟩ := hts.z e (List.mem_append.2 (.inr (List.mem_cons_of_mem _ he)))
            exact ⟨z, h1, h2, by omega⟩⟩
      apply Ydc (.p1 0 (.p1 1 (.p1 2 (.p1 3 (.p1 4 (.d2 5 (.p1 6 (.d1 7 (.p1 8 .done))) 7 (.p1 8 (.d1 5 (.p1 6 .done))))))))) [9] [false, true, false, false, true]
      kernel_rfl
      kernel_rfl
      exact zy
      (simp only [Yj, nthO]; rfl)
      repeat' (first | (apply Yu; exact rfl; exact rfl) | (apply Xy (kt := 263) (et := 3) [q.2.2.1, q.2.2.2.1]; exact rfl; exact rfl; exact zm; kernel_rfl; exact rfl; exact htL; exact rfl; exact htz) | (apply Qw (kt := 263) (et := 3) (l1 := l1) (l2 := l2) [q.2.2.1, q.2.2.2.1]; exact rfl; exact rfl; kernel_rfl; exact rfl; exact hL0; exact rfl; exact zd; exact hne) | (apply Ze (l1 := l1) (l2 := l2) (k := [q.2.2.1, q.2.2.2.1]); exact rfl; exact rfl; exact rfl; exact zd; exact hbir) | (apply Ykw; (simp only [nthO]; rfl)) | (apply Yku; (simp only [nthO]; rfl); exact zp) | (apply Ykv; (simp only [nthO]; rfl); (simp only [nthO]; rfl); exact zp) | (apply Ydu; (repeat (first | with_reducible exact Yh | (with_reducible apply Yg; (repeat (first | with_reducible exact Yf | with_reducible apply Ye)))))) | (apply Ycr; exact zp) | apply (zs1 ?_) | (apply zg2; refine zs58 ?_) | (apply zg3; first | refine zs8 ?_ | refine zs59 ?_) | apply (zs13 ?_) | (apply zg13; refine zs30 ?_) | apply (zs65 ?_) | (apply Ys; exact zp) | apply (zs93 ?_) | apply (zs94 ?_) | fail)
      all_goals (
        apply hK2 ⟨(_, _), hnew⟩
        · exact zu
        · exact zk)
  rintro ⟨⟨ts, ct⟩, hts2⟩
  dsimp only at hts2 ⊢
  repeat' (first | apply (zs69 ?_) | fail)
  refine Zb (fun (_ : Option Addr × Nat) => [(0, .pointer (some ⟨g, 0, none⟩)), (2, .int .i64 n), (4, .pointer (some ⟨gc, 0, none⟩)), (7, .pointer (some ⟨gf, 0, none⟩)), (8, sptr (some ⟨gA, 0, none⟩) (i * 5)), (9, .pointer (some ⟨gl, 0, none⟩)), (13, .bool ab), (14, .int .i64 o)]) (fun z => blk gf (.cells #[.int .i64 f.1, .int .i64 f.2.1, .int .i64 f.2.2.1, .int .i64 f.2.2.2.1, .int .i64 f.2.2.2.2.1, .int .i64 f.2.2.2.2.2] 68 (0, 0)) :: blk gl (.cells #[.int .i64 q.2.2.1, .int .i64 q.2.2.2.1] 263 (0, 0)) :: blk gc (.cells #[.int .i64 q.1, .int .i64 q.2.1, .int .i64 q.2.2.1, .int .i64 q.2.2.2.1, .int .i64 q.2.2.2.2] 40 (0, 0)) :: plB c g (some ⟨gA, 0, none⟩) c.l.length sc z.1 (atts.length + 1) z.2 dA dels.length dc :: plS (some ⟨gA, 0, none⟩) c.l.length sc ss :: sl 167 8 z.1 (atts.length + 1) z.2 ((atts ++ [(⟨n, xf, q, o⟩ : AttM)]).flatMap attF) :: plD dA dc dels :: blk a1 (mobj (iE xes) xce) :: blk a2 (vobj ts ct) :: blk a3 (vobj (wE xak) xca) :: many ((ss.take i).map smQ ++ (ss.drop (i + 1)).map smQ) :: [Z]) ?_ ?_
  · intro K2 hK2
    apply YZ [0, 1, 2, 3, 4, 5, 6, 7, 8, 9, 10, 11, 12, 13, 14, 15, 16, 17, 18] [19] [true, true, true, true, true]
    kernel_rfl
    kernel_rfl
    exact zy
    (simp only [Yj, nthO]; rfl)
    (simp only [Yj, nthO]; rfl)
    repeat' (first | (apply Yu; exact rfl; exact rfl) | apply (zs1 ?_) | apply (zs5 ?_) | (apply zg2; first | refine zs6 ?_ | refine zs58 ?_) | (apply zg3; first | refine zs7 ?_ | refine zs8 ?_ | refine zs59 ?_) | (apply zg21; (refine zs49 ?_; intro _ _)) | (apply zg22; refine zs50 ?_) | (apply zg25; refine zs55 ?_) | (apply zg26; (refine zs56 ?_; intro _)) | apply (zs65 ?_) | (apply Ys; exact zp) | apply (zs87 ?_) | (apply Yk; (repeat (first | with_reducible exact Yh | (with_reducible apply Yg; (repeat (first | with_reducible exact Yf | with_reducible apply Ye)))))) | apply (zs93 ?_) | apply (zs94 ?_) | fail)
    rename_i tA' tc'
    have e5 := Yip tA' tc' (atts.length + 1) atts n xf q o
    apply hK2 (tA', tc')
    · exact zu
    · dsimp only
      rw [← e5]
      exact zk
  rintro ⟨uA, uc⟩
  dsimp only
  apply Zx
  refine Zb (fun (_ : { z : List (KL × Int × Nat) × Nat // z.1 = if o = 1 ∧ Zp xak [Yy q, toC q] = none then xak ++ [([Yy q, toC q], n, xca)] else xak }) => [(0, .pointer (some ⟨g, 0, none⟩)), (2, .int .i64 n), (4, .pointer (some ⟨gc, 0, none⟩)), (7, .pointer (some ⟨gf, 0, none⟩)), (8, sptr (some ⟨gA, 0, none⟩) (i * 5)), (9, .pointer (some ⟨gl, 0, none⟩)), (13, .bool ab), (14, .int .i64 o)]) (fun z => blk gf (.cells #[.int .i64 f.1, .int .i64 f.2.1, .int .i64 f.2.2.1, .int .i64 f.2.2.2.1, .int .i64 f.2.2.2.2.1, .int .i64 f.2.2.2.2.2] 68 (0, 0)) :: blk gl (.cells #[.int .i64 q.2.2.1, .int .i64 q.2.2.2.1] 263 (0, 0)) :: blk gc (.cells #[.int .i64 q.1, .int .i64 q.2.1, .int .i64 q.2.2.1, .int .i64 q.2.2.2.1, .int .i64 q.2.2.2.2] 40 (0, 0)) :: plB c g (some ⟨gA, 0, none⟩) c.l.length sc uA (atts.length + 1) uc dA dels.length dc :: plS (some ⟨gA, 0, none⟩) c.l.length sc ss :: sl 167 8 uA (atts.length + 1) uc ((atts ++ [(⟨n, xf, q, o⟩ : AttM)]).flatMap attF) :: plD dA dc dels :: blk a1 (mobj (iE xes) xce) :: blk a2 (vobj ts ct) :: blk a3 (vobj (wE z.1.1) z.1.2) :: many ((ss.take i).map smQ ++ (ss.drop (i + 1)).map smQ) :: [Z]) ?_ ?_
  · intro K2 hK2
    have e9 : wE (xak ++ [([Yy q, toC q], n, xca)]) = wE xak ++ [([q.2.2.1, q.2.2.2.1], Value.int .i64 n, xca)] := by unfold wE; rw [List.map_append]; rfl
    by_cases ho : o = 1
    · cases hopt : Zp xak [Yy q, toC q] with
      | none =>
        have hb0 : ab = false := by rw [← hab, hopt]; rfl
        have hk2 := hkA _ hopt
        subst hb0
        repeat' (first | apply (zs1 ?_) | (apply zg1; refine zs4 ?_) | (apply zg6; refine zs11 ?_) | (apply zg7; (refine zs15 ?_ ?_ <;> intro _ <;> try (exfalso; omega))) | (apply zg20; refine zs48 ?_) | apply (zs65 ?_) | apply (zs68 ?_) | apply (zs69 ?_) | apply (zs70 ?_) | (apply zg27; refine zs71 ?_) | fail)
        apply YZ [0, 1, 2, 3, 4, 5] [6] [false, true, false, false, true]
        kernel_rfl
        kernel_rfl
        exact zy
        (simp only [Yj, nthO]; rfl)
        (simp only [Yj, nthO]; rfl)
        repeat' (first | (apply Yu; exact rfl; exact rfl) | (apply UT (kt := 263) (et := 3) [q.2.2.1, q.2.2.2.1]; exact rfl; exact rfl; exact rfl; kernel_rfl; exact rfl; exact hakL; exact zd; exact hk2) | apply (zs1 ?_) | (apply zg2; refine zs58 ?_) | (apply zg3; first | refine zs8 ?_ | refine zs59 ?_) | apply (zs65 ?_) | (apply Ys; exact zp) | apply (zs93 ?_) | apply (zs94 ?_) | fail)
        apply hK2 ⟨(xak ++ [([Yy q, toC q], n, xca)], xca + 1), by rw [if_pos ⟨ho, hopt⟩]⟩
        · exact zu
        · dsimp only
          rw [e9]
          exact zk
      | some t =>
        have hb0 : ab = true := by rw [← hab, hopt]; rfl
        subst hb0
        repeat' (first | (apply Yu; exact rfl; exact rfl) | apply (zs1 ?_) | (apply zg1; refine zs4 ?_) | (apply zg6; refine zs11 ?_) | (apply zg7; (refine zs15 ?_ ?_ <;> intro _ <;> try (exfalso; omega))) | (apply zg20; refine zs47 ?_) | apply (zs65 ?_) | apply (zs68 ?_) | apply (zs69 ?_) | apply (zs70 ?_) | (apply zg27; refine zs72 ?_) | apply (zs76 ?_) | fail)
        apply hK2 ⟨(xak, xca), by rw [if_neg (fun h => by rw [hopt] at h; cases h.2)]⟩
        · exact zu
        · exact zk
    · skip
      repeat' (first | (apply Yu; exact rfl; exact rfl) | apply (zs1 ?_) | (apply zg1; refine zs3 ?_) | (apply zg6; refine zs12 ?_) | (apply zg7; (refine zs15 ?_ ?_ <;> intro _ <;> try (exfalso; omega))) | apply (zs65 ?_) | apply (zs68 ?_) | apply (zs69 ?_) | apply (zs70 ?_) | (apply zg27; refine zs72 ?_) | apply (zs76 ?_) | fail)
      apply hK2 ⟨(xak, xca), by rw [if_neg (fun h => ho h.1)]⟩
      · exact zu
      · exact zk
  rintro ⟨⟨ak, ca⟩, hak⟩
  dsimp only at hak ⊢
  by_cases ho3 : o = 3
  · repeat' (first | apply (zs1 ?_) | (apply zg7; (refine zs15 ?_ ?_ <;> intro _ <;> try (exfalso; omega))) | apply (zs65 ?_) | apply (zs68 ?_) | apply (zs69 ?_) | apply (zs70 ?_) | (apply zg27; refine zs71 ?_) | apply (zs74 ?_) | apply (zs77 ?_) | fail)
    apply Yi (plL c g (some ⟨gA, 0, none⟩) sc (ss.set i (SM.mk xf (some (a1, a2, a3)) xes xce ts ct ak ca xd)) uA uc (atts ++ [(⟨n, xf, q, o⟩ : AttM)]) dA dc dels [Z])
    · intro w hw
      refine Wj (x' := SM.mk xf (some (a1, a2, a3)) xes xce ts ct ak ca xd) hxs rfl (e := ss) (nt := atts.length + 1) (nd := dels.length) (Eq.symm (flat_set hxs rfl)) (by simp) rfl w ?_
      revert w
      exact zk
    apply XU; exact rfl
    exact ⟨_, _, _, _, _, _, _, rfl, Qa hf hxs hfi hc hxo.ak hts2 hak (if_pos (Or.inl ho3)).symm (by rw [ho3]; simp) (by unfold delS; rw [if_neg (fun h => h.1 ho3), List.append_nil]), rfl⟩
  iterate 11 (first | apply (zs1 ?_) | (apply zg7; (refine zs15 ?_ ?_ <;> intro _ <;> try (exfalso; omega))) | apply (zs65 ?_) | apply (zs68 ?_) | apply (zs69 ?_) | apply (zs70 ?_) | (apply zg27; refine zs72 ?_) | apply (zs76 ?_) | fail)
  refine Zb (fun (_ : { z : List (Int × Int × Nat) × Nat // z.1 = if o = 3 ∨ (X8 xes (toC q)).isSome = true then xes else xes ++ [(toC q, n + 1, xce)] }) => [(0, .pointer (some ⟨g, 0, none⟩)), (2, .int .i64 n), (4, .pointer (some ⟨gc, 0, none⟩)), (7, .pointer (some ⟨gf, 0, none⟩)), (8, sptr (some ⟨gA, 0, none⟩) (i * 5)), (9, .pointer (some ⟨gl, 0, none⟩)), (13, .bool ab), (14, .int .i64 o)]) (fun z => blk gf (.cells #[.int .i64 f.1, .int .i64 f.2.1, .int .i64 f.2.2.1, .int .i64 f.2.2.2.1, .int .i64 f.2.2.2.2.1, .int .i64 f.2.2.2.2.2] 68 (0, 0)) :: blk gl (.cells #[.int .i64 q.2.2.1, .int .i64 q.2.2.2.1] 263 (0, 0)) :: blk gc (.cells #[.int .i64 q.1, .int .i64 q.2.1, .int .i64 q.2.2.1, .int .i64 q.2.2.2.1, .int .i64 q.2.2.2.2] 40 (0, 0)) :: plB c g (some ⟨gA, 0, none⟩) c.l.length sc uA (atts.length + 1) uc dA dels.length dc :: plS (some ⟨gA, 0, none⟩) c.l.length sc ss :: sl 167 8 uA (atts.length + 1) uc ((atts ++ [(⟨n, xf, q, o⟩ : AttM)]).flatMap attF) :: plD dA dc dels :: blk a1 (mobj (iE z.1.1) z.1.2) :: blk a2 (vobj ts ct) :: blk a3 (vobj (wE ak) ca) :: many ((ss.take i).map smQ ++ (ss.drop (i + 1)).map smQ) :: [Z]) ?_ ?_
  · intro K2 hK2
    have e9 : iE (xes ++ [(toC q, n + 1, xce)]) = iE xes ++ [(q.2.2.2.1, Value.int .i64 (n + 1), xce)] := by unfold iE; rw [List.map_append]; rfl
    have hkT : ∀ t, X8 xes (toC q) = t → mget (iE xes) q.2.2.2.1 = t.map (Value.int .i64) := fun t h => by rw [Ygr, ← h]; rfl
    cases hto : X8 xes (toC q) with
    | none =>
      have hk3 := hkT _ hto
      repeat' (first | (apply Yu; exact rfl; exact rfl) | (apply Zc (kt := 3) (et := 3); exact rfl; exact rfl; exact zm; kernel_rfl; exact rfl; exact hk3; exact J7) | apply (zs1 ?_) | apply (zs2 ?_) | (apply zg2; first | refine zs6 ?_ | refine zs58 ?_) | (apply zg3; first | refine zs7 ?_ | refine zs59 ?_) | apply (zs13 ?_) | (apply zg20; refine zs48 ?_) | apply (zs65 ?_) | apply (zs66 ?_) | apply (zs68 ?_) | apply (zs69 ?_) | apply (zs70 ?_) | (apply zg27; refine zs71 ?_) | (apply zg28; refine zs83 ?_) | fail)
      apply YZ [0, 1, 2, 3, 4, 5, 6, 7] [8] [false, false, true, false, true]
      kernel_rfl
      kernel_rfl
      exact zy
      (simp only [Yj, nthO]; rfl)
      (simp only [Yj, nthO]; rfl)
      repeat' (first | (apply Yu; exact rfl; exact rfl) | (apply YgI (kt := 3) (et := 3); exact rfl; exact rfl; exact rfl; kernel_rfl; exact zd; exact hk3) | apply (zs1 ?_) | (apply zg2; first | refine zs6 ?_ | refine zs58 ?_) | (apply zg3; first | refine zs7 ?_ | refine zs59 ?_) | (apply zg13; refine zs30 ?_) | apply (zs65 ?_) | (apply Ys; exact zp) | apply (zs93 ?_) | apply (zs94 ?_) | fail)
      apply hK2 ⟨(xes ++ [(toC q, n + 1, xce)], xce + 1), by rw [if_neg (fun h => by rw [hto] at h; rcases h with h | h; exact ho3 h; cases h)]⟩
      · exact zu
      · dsimp only
        rw [e9]
        exact zk
    | some t =>
      have hk3 := hkT _ hto
      repeat' (first | (apply Yu; exact rfl; exact rfl) | (apply XK (kt := 3) (et := 3); exact rfl; exact rfl; exact zm; kernel_rfl; exact rfl; exact hk3) | apply (zs1 ?_) | apply (zs2 ?_) | (apply zg2; first | refine zs6 ?_ | refine zs58 ?_) | (apply zg3; first | refine zs7 ?_ | refine zs59 ?_) | apply (zs13 ?_) | (apply zg20; refine zs47 ?_) | apply (zs65 ?_) | apply (zs66 ?_) | apply (zs68 ?_) | apply (zs69 ?_) | apply (zs70 ?_) | (apply zg27; refine zs72 ?_) | apply (zs76 ?_) | (apply zg28; refine zs83 ?_) | fail)
      apply hK2 ⟨(xes, xce), by rw [if_pos (.inr (by rw [hto]; rfl))]⟩
      · exact zu
      · exact zk
  rintro ⟨⟨es, ce⟩, hes⟩
  dsimp only at hes ⊢
  have hdq : (toC q = dstF f) = (q.2.2.2.1 = f.2.2.1) := rfl
  by_cases hds : q.2.2.2.1 = f.2.2.1
  rotate_left
  · skip
    repeat' (first | (apply Yu; exact rfl; exact rfl) | apply (zs1 ?_) | (apply zg1; refine zs3 ?_) | (apply zg2; refine zs6 ?_) | (apply zg3; refine zs7 ?_) | (apply zg6; refine zs12 ?_) | (apply zg7; (refine zs15 ?_ ?_ <;> intro _ <;> try (exfalso; omega))) | apply (zs65 ?_) | apply (zs68 ?_) | apply (zs69 ?_) | apply (zs70 ?_) | (apply zg27; refine zs72 ?_) | apply (zs76 ?_) | fail)
    apply Yi (plL c g (some ⟨gA, 0, none⟩) sc (ss.set i (SM.mk xf (some (a1, a2, a3)) es ce ts ct ak ca xd)) uA uc (atts ++ [(⟨n, xf, q, o⟩ : AttM)]) dA dc dels [Z])
    · intro w hw
      refine Wj (x' := SM.mk xf (some (a1, a2, a3)) es ce ts ct ak ca xd) hxs rfl (e := ss) (nt := atts.length + 1) (nd := dels.length) (Eq.symm (flat_set hxs rfl)) (by simp) (rfl) w ?_
      revert w
      exact zk
    apply Xq; exact rfl
    exact ⟨_, _, _, _, _, _, _, rfl, Qa hf hxs hfi hc hxo.ak hts2 hak hes (by rw [show decide (toC q = dstF f) = false from decide_eq_false hds, Bool.and_false, Bool.or_false]) (by unfold delS; rw [if_neg (fun h => hds h.2.1), List.append_nil]), rfl⟩
  cases xd with
  | true =>
    repeat' (first | (apply Yu; exact rfl; exact rfl) | apply (zs1 ?_) | (apply zg1; refine zs4 ?_) | (apply zg2; first | refine zs6 ?_ | refine zs58 ?_) | (apply zg3; first | refine zs7 ?_ | refine zs59 ?_) | (apply zg6; refine zs11 ?_) | (apply zg7; (refine zs15 ?_ ?_ <;> intro _ <;> try (exfalso; omega))) | (apply zg20; refine zs47 ?_) | apply (zs65 ?_) | apply (zs68 ?_) | apply (zs69 ?_) | apply (zs70 ?_) | (apply zg27; refine zs72 ?_) | apply (zs76 ?_) | fail)
    apply Yi (plL c g (some ⟨gA, 0, none⟩) sc (ss.set i (SM.mk xf (some (a1, a2, a3)) es ce ts ct ak ca true)) uA uc (atts ++ [(⟨n, xf, q, o⟩ : AttM)]) dA dc dels [Z])
    · intro w hw
      refine Wj (x' := SM.mk xf (some (a1, a2, a3)) es ce ts ct ak ca true) hxs rfl (e := ss) (nt := atts.length + 1) (nd := dels.length) (Eq.symm (flat_set hxs rfl)) (by simp) (rfl) w ?_
      revert w
      exact zk
    apply Xq; exact rfl
    exact ⟨_, _, _, _, _, _, _, rfl, Qa hf hxs hfi hc hxo.ak hts2 hak hes (by rw [Bool.true_or]) (by unfold delS; rw [if_neg (fun h => by cases h.2.2), List.append_nil]), rfl⟩
  | false =>
  repeat' (first | (apply Yu; exact rfl; exact rfl) | apply (zs1 ?_) | (apply zg1; refine zs4 ?_) | (apply zg2; first | refine zs6 ?_ | refine zs58 ?_) | (apply zg3; first | refine zs7 ?_ | refine zs59 ?_) | (apply zg6; refine zs11 ?_) | (apply zg7; (refine zs15 ?_ ?_ <;> intro _ <;> try (exfalso; omega))) | (apply zg20; refine zs48 ?_) | apply (zs65 ?_) | apply (zs68 ?_) | apply (zs69 ?_) | apply (zs70 ?_) | (apply zg27; refine zs71 ?_) | fail)
  apply Xx T (f := smF) (l := ss) (i := i) (q := 5) (o := 4) (b := (SM.mk xf (some (a1, a2, a3)) xes xce xts xct xak xca false)) (b' := (SM.mk xf (some (a1, a2, a3)) xes xce xts xct xak xca true)); exact rfl; exact rfl; exact rfl; exact zd; exact hxs; (simp [smF]); exact fun _ => rfl; exact rfl; exact rfl
  have hil2 := (List.getElem?_eq_some_iff.1 hxs).1
  have hsl2 : (ss.set i (SM.mk xf (some (a1, a2, a3)) xes xce xts xct xak xca true)).length = c.l.length := by rw [List.length_set]; exact hss
  have hset : (ss.set i (SM.mk xf (some (a1, a2, a3)) xes xce xts xct xak xca true))[i]? = some (SM.mk xf (some (a1, a2, a3)) xes xce xts xct xak xca true) := List.getElem?_set_self hil2
  repeat' (first | (apply Yu; exact rfl; exact rfl) | apply (zs65 ?_) | apply (zs68 ?_) | fail)
  apply YZ [0, 1, 2, 3, 4, 5, 6, 7, 8, 9, 10, 11, 12, 13, 14, 15, 16, 17, 18] [19] [true, true, true, true, true]
  kernel_rfl
  kernel_rfl
  exact zy
  (simp only [Yj, nthO]; rfl)
  (simp only [Yj, nthO]; rfl)
  repeat' (first | (apply Yu; exact rfl; exact rfl) | apply (zs1 ?_) | apply (zs5 ?_) | (apply zg2; first | refine zs6 ?_ | refine zs58 ?_) | (apply zg3; first | refine zs7 ?_ | refine zs59 ?_) | (apply zg21; (refine zs49 ?_; intro _ _)) | (apply zg22; refine zs50 ?_) | (apply zg25; refine zs55 ?_) | (apply zg26; (refine zs56 ?_; intro _)) | apply (zs65 ?_) | (apply Ys; exact zp) | apply (zs87 ?_) | (apply Yk; (repeat (first | with_reducible exact Yh | (with_reducible apply Yg; (repeat (first | with_reducible exact Yf | with_reducible apply Ye)))))) | apply (zs93 ?_) | apply (zs94 ?_) | fail)
  rename_i dA' dc'
  have e6 := Yiv dA' dc' (dels.length + 1) dels f.1 xf n
  apply Yi (plL c g (some ⟨gA, 0, none⟩) sc (ss.set i (SM.mk xf (some (a1, a2, a3)) es ce ts ct ak ca true)) uA uc (atts ++ [(⟨n, xf, q, o⟩ : AttM)]) dA' dc' (dels ++ [(f.1, xf, n)]) [Z])
  · intro w hw
    refine Wj (x' := SM.mk xf (some (a1, a2, a3)) es ce ts ct ak ca true) hxs rfl (e := ss.set i (SM.mk xf (some (a1, a2, a3)) xes xce xts xct xak xca true)) (nt := atts.length + 1) (nd := dels.length + 1) (YgZ hil2 rfl) (by simp) (by simp) w ?_
    rw [← e6]
    revert w
    exact zk
  apply Xq; exact rfl
  exact ⟨_, _, _, _, _, _, _, rfl, Qa hf hxs hfi hc hxo.ak hts2 hak hes (by rw [decide_eq_true ho3, decide_eq_true (by rw [hdq]; exact hds)]; rfl) (by unfold delS; rw [if_pos ⟨ho3, hds, rfl⟩]; rfl), rfl⟩
open Go.RowKit Go.Eng Go.Nw Go.Rt
structure PInv (c : PlC) (n : Int) (J : Nat) (ss : List SM) (atts : List AttM) (dels : List (Int × Int × Int)) : Prop where
  pl : Pl c.l c.s.sch n J ⟨ss.map SM.st, atts, dels⟩
  len : ss.length = c.l.length
  ok : ∀ x ∈ ss, x.Ok (atts.length : Nat)
  dl : dels.length ≤ atts.length
theorem Yk8 (s : Sch) (n : Int) : (atE s n).length ≤ s.cells.length := by
  unfold atE
  split
  · exact Nat.zero_le _
  · exact List.length_filter_le _ _
theorem PInv.start (c : PlC) : PInv c 0 0 (List.replicate c.l.length Xc) [] [] := by
  refine ⟨?_, List.length_replicate, fun x hx => ?_, Nat.le_refl _⟩
  · have h : (List.replicate c.l.length Xc).map SM.st = c.l.map fun _ => YfP := by
      rw [List.map_replicate, List.map_const']
      rfl
    rw [h]
    exact .start
  · rw [List.eq_of_mem_replicate hx]
    exact ⟨fun h => absurd h (by decide), ⟨VOk.nil, fun e (h : e ∈ ([] : YK)) => absurd h (List.not_mem_nil)⟩, fun e (h : e ∈ ([] : List (KL × Int × Nat))) => absurd h (List.not_mem_nil)⟩
theorem PInv.rel {c : PlC} {n : Int} {ss ss' : List SM} {atts : List AttM} {dels : List (Int × Int × Int)} (h : PInv c n 0 ss atts dels) (hr : RelS c.l n (atts.length : Nat) ss ss' c.l.length) : PInv c n 1 ss' atts dels := by
  obtain ⟨h1, h2⟩ := hr
  refine ⟨.rel (ss'.map SM.st) h.pl (by rw [List.length_map]; exact h1) fun i f x a1 a2 => ?_, h1, fun y hy => ?_, h.dl⟩
  · rw [List.getElem?_map] at a2
    cases hx : ss[i]? with
    | none => rw [hx] at a2; cases a2
    | some z =>
      rw [hx] at a2
      obtain ⟨x', b1, _, b3⟩ := h2 i f z a1 hx
      rw [if_pos (List.getElem?_eq_some_iff.1 a1).1] at b3
      rw [List.getElem?_map, b1, ← Option.some.inj a2]
      exact congrArg some b3
  · obtain ⟨i, hi⟩ := List.mem_iff_getElem?.1 hy
    have hil := (List.getElem?_eq_some_iff.1 hi).1
    obtain ⟨f, hf⟩ : ∃ f, c.l[i]? = some f := ⟨_, List.getElem?_eq_getElem (by omega)⟩
    obtain ⟨z, hz⟩ : ∃ z, ss[i]? = some z := ⟨_, List.getElem?_eq_getElem (by rw [h.len]; omega)⟩
    obtain ⟨x', b1, b2, _⟩ := h2 i f z hf hz
    rw [hi] at b1
    rw [Option.some.inj b1]
    exact b2
theorem PInv.att {c : PlC} {n : Int} {j : Nat} {q : Cel} {ss ss' : List SM} {atts atts' : List AttM} {dels dels' : List (Int × Int × Int)} (h : PInv c n (j + 1) ss atts dels) (hq : (atE c.s.sch n)[j]? = some q) (ha : AttR c.l n (atts.length : Nat) q ss atts dels ss' atts' dels') :
    PInv c n (j + 2) ss' atts' dels' ∧ atts'.length ≤ atts.length + 1 ∧ dels.length ≤ dels'.length := by
  rcases ha with ⟨rfl, rfl, rfl, hn⟩ | ⟨i, f, x, o, x', hf, hx, hfi, hc, rfl, hst, hxo, rfl, rfl⟩
  · refine ⟨⟨.skip h.pl hq fun i f x a1 a2 a3 => ?_, h.len, h.ok, h.dl⟩, Nat.le_succ _, Nat.le_refl _⟩
    have a2 : (ss'.map SM.st)[i]? = some x := a2
    rw [List.getElem?_map] at a2
    cases hx : ss'[i]? with
    | none => rw [hx] at a2; cases a2
    | some z =>
      rw [hx] at a2
      rw [← Option.some.inj a2]
      exact hn i f z a1 hx a3
  · have hm : (ss.set i x').map SM.st = (ss.map SM.st).set i (ZS f x.st q n o) := by rw [List.map_set, hst]
    have hd : (delS f x.st q n o).length ≤ 1 := by unfold delS; split <;> simp
    refine ⟨⟨?_, by rw [List.length_set]; exact h.len, fun y hy => ?_, ?_⟩, by simp, by simp⟩
    · rw [hm]
      exact .att o h.pl hq hf (by show (ss.map SM.st)[i]? = _; rw [List.getElem?_map, hx]; rfl) hfi hc
    · rw [List.length_append, List.length_singleton]
      rcases List.mem_or_eq_of_mem_set hy with hy | rfl
      · exact (h.ok y hy).mono (by omega)
      · exact hxo.mono (by omega)
    · rw [List.length_append, List.length_append, List.length_singleton]
      have := h.dl
      omega
theorem PInv.next {c : PlC} {n : Int} {ss : List SM} {atts : List AttM} {dels ds : List (Int × Int × Int)} (h : PInv c n ((atE c.s.sch n).length + 1) ss atts dels) (hp : ds.Perm dels) : PInv c (n + 1) 0 ss atts ds :=
  ⟨.next ds h.pl hp, h.len, h.ok, by rw [hp.length_eq]; exact h.dl⟩
theorem Yer (c : PlC) (n b : Int) (hn : 0 ≤ n ∧ n ≤ 1000000) (hl : c.l.length ≤ 1000) (hf : ∀ f ∈ c.l, YW 32 f = 0) {g : Nat} {sA : Option Addr} {sc : Nat} {ss : List SM} (hss : ss.length = c.l.length) (hok : ∀ x ∈ ss, x.Ok b) {tA : Option Addr} {tc : Nat} {atts : List AttM} {dA : Option Addr} {dc : Nat} {dels : List (Int × Int × Int)}
    {B : Nat} {w0 : World} {Z : HP} {w : World} (hr : Rd B w0 [Z] c.fA (c.l.flatMap flwF)) (hw : St B w0 (plL c g sA sc ss tA tc atts dA dc dels [Z]) w) :
    Calls Tryz.prog 151 [.pointer (some ⟨g, 0, none⟩), .int .i64 n].toArray w (Post B w0 fun v K => ∃ ss', v = .tuple #[] ∧ RelS c.l n b ss ss' c.l.length ∧ K = plL c g sA sc ss' tA tc atts dA dc dels [Z]) := by
  have hZ : ∀ w, St B w0 [many (plT tA tc atts :: plD dA dc dels :: [Z])] w → St B w0 [Z] w := fun w h => ((h.perm (.openT _)).tail).tail
  have h0 : ∀ w, St B w0 (plL c g sA sc ss tA tc atts dA dc dels [Z]) w → St B w0 (plB c g sA c.l.length sc tA atts.length tc dA dels.length dc :: plS sA c.l.length sc ss :: many (ss.map smQ) :: plT tA tc atts :: plD dA dc dels :: [Z]) w := by
    exact zk
  have h1 := h0 w hw
  refine (Ybb (Z := many (plT tA tc atts :: plD dA dc dels :: [Z])) c n b hn hl hf hss hok (hr.mono hZ) (h1.perm (.cons _ (.cons _ (.cons _ (.closeT _)))))).mono ?_
  rintro e w' ⟨v, K, h1, hst, ss', h2, h3, rfl⟩
  refine ⟨v, _, h1, ?_, ss', h2, h3, rfl⟩
  have h4 : St B w0 (plB c g sA c.l.length sc tA atts.length tc dA dels.length dc :: plS sA c.l.length sc ss' :: many (ss'.map smQ) :: plT tA tc atts :: plD dA dc dels :: [Z]) w' := hst.perm (.cons _ (.cons _ (.cons _ (.openT _))))
  clear hst h1
  revert w'
  exact zk
theorem Ye1 (c : PlC) (q : Cel) (n b : Int) (hn : 0 ≤ n ∧ n ≤ 1000000) (hb : 0 ≤ b ∧ b ≤ 100000000) (hl : c.l.length ≤ 1000) (hid : c.l.Pairwise fun a b => a.1 ≠ b.1) (hxl : c.xs.length ≤ 1000000) {g : Nat} {sA : Option Addr} {sc : Nat} {ss : List SM} (hss : ss.length = c.l.length) (hok : ∀ x ∈ ss, x.Ok b)
    {tA : Option Addr} {tc : Nat} {atts : List AttM} {dA : Option Addr} {dc : Nat} {dels : List (Int × Int × Int)} (hat : atts.length ≤ 100000000) (hdl : dels.length ≤ 100000000) {B : Nat} {w0 : World} {Z : HP} {w : World} (hr : Rd B w0 [Z] c.fA (c.l.flatMap flwF)) (hx : XIn B w0 [Z] c.xA c.xs) {H : List HP} (R : List HP) (hR : ∀ w, St B w0 R w → St B w0 [Z] w) (hin : ∀ w, St B w0 H w → St B w0 (plL c g sA sc ss tA tc atts dA dc dels R) w) (hw : St B w0 H w) :
    Calls Tryz.prog 152 [.pointer (some ⟨g, 0, none⟩), celV q, .int .i64 n].toArray w (Post B w0 fun v K => ∃ ss' tA' tc' atts' dA' dc' dels', v = .tuple #[] ∧ AttR c.l n b q ss atts dels ss' atts' dels' ∧ K = plL c g sA sc ss' tA' tc' atts' dA' dc' dels' R) := by
  have hZ : ∀ w, St B w0 [many R] w → St B w0 [Z] w := fun w h => hR w (h.perm (.openT R))
  refine (Ycu (Z := many R) c q n b hn hb hl hid hxl hss hok hat hdl (hr.mono hZ) (hx.mono hZ) ((hin w hw).perm (.cons _ (.cons _ (.cons _ (.cons _ (.cons _ (.closeT R)))))))).mono ?_
  rintro e w' ⟨v, K, h1, hst, ss', tA', tc', atts', dA', dc', dels', h2, h3, rfl⟩
  exact ⟨v, _, h1, hst.perm (.cons _ (.cons _ (.cons _ (.cons _ (.cons _ (.openT R)))))), ss', tA', tc', atts', dA', dc', dels', h2, h3, rfl⟩
open Go.RowKit Go.Eng Go.Nw Go.Rt
set_option maxRecDepth 10000 in
set_option maxHeartbeats 4000000 in
theorem YhC (c : PlC) (n : Int) (hn : 0 ≤ n ∧ n ≤ 1000000) (hl : c.l.length ≤ 1000) (hid : c.l.Pairwise fun a b => a.1 ≠ b.1) (hf : ∀ f ∈ c.l, YW 32 f = 0) (hxl : c.xs.length ≤ 1000000) (hsl : c.s.cells.length ≤ 1000) {g : Nat} {sA : Option Addr} {sc : Nat} {ss : List SM}
    {tA : Option Addr} {tc : Nat} {atts : List AttM} {dA : Option Addr} {dc : Nat} {dels : List (Int × Int × Int)} (hp : PInv c n 0 ss atts dels) (hat : atts.length ≤ 50000000) {B : Nat} {w0 : World} {Z : HP} {w : World} (hr : Rd B w0 [Z] c.fA (c.l.flatMap flwF)) (hs : Rd B w0 [Z] c.s.A (c.s.cells.flatMap celF)) (hx : XIn B w0 [Z] c.xA c.xs) (hw : St B w0 (plL c g sA sc ss tA tc atts dA dc dels [Z]) w) :
    Calls Tryz.prog 94 [.pointer (some ⟨g, 0, none⟩), .int .i64 n].toArray w (Post B w0 fun v K => ∃ ss' tA' tc' atts' dA' dc' dels', v = .tuple #[] ∧ PInv c (n + 1) 0 ss' atts' dels' ∧ atts'.length ≤ atts.length + 1000 ∧ K = plL c g sA sc ss' tA' tc' atts' dA' dc' dels' [Z]) := by
  refine Yc Tryz.func94 Tryz.ntmps94 rfl rfl hw ?_
  have hdl := hp.dl
  have hcl := Yk8 c.s.sch n
  have hcs : c.s.sch.cells = c.s.cells := rfl
  rw [hcs] at hcl
  repeat' (first | refine zga ?_ | fail)
  apply Yo _ YlM
  exact za
  exact rfl
  exact fun _ hw => (Yer c n (atts.length : Nat) hn hl hf hp.len hp.ok hr (hw))
  rintro _ _ ⟨s1, rfl, hR1, rfl⟩
  have hp1 := hp.rel hR1
  have p2 := fun {H' : List HP} {w : World} (hr : Rd B w0 H' c.s.A (c.s.cells.flatMap celF)) (hw : St B w0 H' w) => YjP c.s n hr (by omega) hw
  unfold SchM.val at p2
  repeat' (first | (apply YV T; exact rfl; exact zm; exact rfl; exact zv; exact rfl; exact rfl) | refine zgd ?_ | fail)
  apply Yo _ en14
  exact za
  exact rfl
  exact fun _ hw => (p2 (hs.mono zk) (hw))
  rintro _ _ ⟨lA, lcap, rfl, rfl⟩
  obtain ⟨L, hL⟩ : ∃ L, atE c.s.sch n = L := ⟨_, rfl⟩
  rw [hL] at hcl ⊢
  repeat' (first | refine zgb ?_ | fail)
  refine Yl (fun (z : Nat × List SM × Option Addr × Nat × List AttM × Option Addr × Nat × List (Int × Int × Int)) => [(23, .int .i64 (z.1 : Nat)), (22, .int .i64 L.length), (21, .slice lA L.length lcap), (4, .int .i64 dels.length), (0, .pointer (some ⟨g, 0, none⟩)), (1, .int .i64 n)])
    (fun (j, s, uA, uc, u, vA, vc, v) => cels lA lcap L :: plL c g sA sc s uA uc u vA vc v [Z]) (fun (j, s, uA, uc, u, vA, vc, v) => j ≤ L.length ∧ PInv c n (j + 1) s u v ∧ u.length ≤ atts.length + j ∧ dels.length ≤ v.length) (fun z => L.length - z.1) (0, s1, tA, tc, atts, dA, dc, dels) ⟨Nat.zero_le _, hp1, Nat.le_refl _, Nat.le_refl _⟩ ?_ ?_ ?_
  · exact zu
  · intro w hw; exact hw
  rintro ⟨j, s2, uA, uc, u, vA, vc, v⟩ ⟨hj, hpj, hu, hv⟩ K hK
  dsimp only at hj hpj hu hv ⊢
  have hud := hpj.dl
  by_cases hlt : j < L.length
  rotate_left
  · obtain rfl : j = L.length := by omega
    clear hK
    have hsub : v.length - (dels.length : Int).toNat = v.length - dels.length := by rw [Int.toNat_natCast]
    repeat' (first | (apply Jz T; exact rfl; exact rfl; exact rfl; exact rfl; omega; exact rfl) | refine zgd ?_ | (refine zge ?_ ?_ <;> intro _ <;> try (exfalso; omega)) | fail)
    apply Yo _ YlO
    exact za
    exact rfl
    exact fun _ hw => (Yc0 v dels.length hv (by omega) (A := vA) (cap := vc) (H := cels lA lcap L :: plB c g sA c.l.length sc uA u.length uc vA v.length vc :: plS sA c.l.length sc s2 :: plT uA uc u :: many (s2.map smQ) :: [Z]) zk (hw))
    rintro _ _ ⟨rfl, v', hv', rfl⟩
    repeat' (first | refine zga ?_ | fail)
    apply Yi (plL c g sA sc s2 uA uc u vA vc v' [Z])
    · intro w hw
      have hvl := hv'.length_eq
      unfold plL
      rw [hvl]
      revert w
      clear hvl
      exact zk
    apply Xq; exact rfl
    subst hL
    exact ⟨_, _, _, _, _, _, _, rfl, hpj.next hv', by omega, rfl⟩
  obtain ⟨q, hq⟩ : ∃ q, L[j]? = some q := ⟨_, List.getElem?_eq_getElem hlt⟩
  have p3 := fun {H' : List HP} {w : World} (hin : ∀ w, St B w0 H' w → St B w0 (plL c g sA sc s2 uA uc u vA vc v (cels lA lcap L :: [Z])) w) (hw : St B w0 H' w) => Ye1 c q n (u.length : Nat) hn (by omega) hl hid hxl hpj.len hpj.ok (by omega) (by omega) hr hx (cels lA lcap L :: [Z]) (fun w hw => hw.tail) hin hw
  unfold celV at p3
  have hrL : Rd B w0 (cels lA lcap L :: plL c g sA sc s2 uA uc u vA vc v [Z]) lA (L.flatMap celF) := Rd.sl List.mem_cons_self
  repeat' (first | refine zgd ?_ | (refine zge ?_ ?_ <;> intro _ <;> try (exfalso; omega)) | (refine zgh ?_; intro _) | fail)
  apply Yo _ YlN
  exact za
  exact rfl
  exact fun _ hw => (p3 zk (hw))
  rintro _ _ ⟨s3, uA', uc', u', vA', vc', v', rfl, ha, rfl⟩
  obtain ⟨hp3, hu3, hv3⟩ := hpj.att (by rw [hL]; exact hq) ha
  repeat' (first | refine zgc ?_ | fail)
  apply hK (j + 1, s3, uA', uc', u', vA', vc', v')
  · exact ⟨by omega, hp3, by omega, by omega⟩
  · dsimp only; omega
  · exact zu
  · exact zk
open Go.RowKit Go.Eng Go.Nw Go.Rt
theorem YiZ {s : Sch} : (ZY s).2 = if Y6 s = true then 0 else 1 := by
  unfold ZY
  cases h : Y6 s <;> simp
set_option maxRecDepth 10000 in
set_option maxHeartbeats 2000000 in
theorem Yfy (c : PlC) (slots : Int) (hl : c.l.length ≤ 1000000) (hsl : c.s.cells.length ≤ 1000000) (hxl : c.xs.length ≤ 1000000) {B : Nat} {w0 : World} {H : List HP} {w : World} (ht : TabsB B w0) (hr : Rd B w0 H c.fA (c.l.flatMap flwF)) (hs : Rd B w0 H c.s.A (c.s.cells.flatMap celF)) (hx : XIn B w0 H c.xA c.xs) (hw : St B w0 H w) :
    Calls Tryz.prog 92 [.slice c.fA c.l.length c.fc, c.s.val, .slice c.xA c.xs.length c.xc, .int .i64 slots].toArray w (Post B w0 fun v K => (∃ e : Int, v = .int .i64 e ∧ (e = 0 → (YO 32 c.l).2 = 0 ∧ Y6 c.s.sch = true ∧ 0 ≤ slots ∧ slots ≤ 4096)) ∧ K = H) := by
  refine Yc Tryz.func92 Tryz.ntmps92 rfl rfl hw ?_
  obtain ⟨⟨f1, f2⟩, hfe⟩ : ∃ z, YO 32 c.l = z := ⟨_, rfl⟩
  have hfe2 : (YO 32 c.l).2 = f2 := by rw [hfe]
  have p1 := fun {H' : List HP} {w : World} (hr : Rd B w0 H' c.fA (c.l.flatMap flwF)) (hw : St B w0 H' w) => YT 32 c.l (by omega) (cap := c.fc) hr hw
  rw [hfe] at p1
  dsimp only at p1
  have p2 := fun {H' : List HP} {w : World} (hr : Rd B w0 H' c.s.A (c.s.cells.flatMap celF)) (hw : St B w0 H' w) => Yaw c.s ht hr (by omega) hw
  obtain ⟨⟨t1, t2⟩, hte⟩ : ∃ z, ZY c.s.sch = z := ⟨_, rfl⟩
  have hte2 : t2 = if Y6 c.s.sch = true then 0 else 1 := by have := @YiZ c.s.sch; rw [hte] at this; exact this
  rw [hte] at p2
  dsimp only at p2
  have p3 := fun {H' : List HP} {w : World} (hx : XIn B w0 H' c.xA c.xs) (hw : St B w0 H' w) => YeS c.xs hxl (cap := c.xc) hx hw
  unfold SchM.val at p2 ⊢
  repeat' (first | refine zga ?_ | (refine zgh ?_; intro _) | fail)
  first | apply Ya en51 | apply Yb en51
  exact za
  exact rfl
  exact fun _ hw => (p1 (hr.mono zk) hw)
  by_cases h1 : f2 = 0
  rotate_left
  · repeat' (first | refine zgd ?_ | (refine zge ?_ ?_ <;> intro _ <;> try (exfalso; omega)) | fail)
    apply Yi H
    · exact zk
    apply Yd; exact rfl; exact rfl; exact ⟨⟨1, rfl, fun h => absurd h (by decide)⟩, rfl⟩
  repeat' (first | refine zgd ?_ | (refine zge ?_ ?_ <;> intro _ <;> try (exfalso; omega)) | fail)
  first | apply Ya en47 | apply Yb en47
  exact za
  exact rfl
  exact fun _ hw => (p2 (hs.mono zk) hw)
  cases hfm : Y6 c.s.sch with
  | false =>
    rw [hfm, if_neg (by decide)] at hte2
    subst hte2
    repeat' (first | refine zgd ?_ | (refine zge ?_ ?_ <;> intro _ <;> try (exfalso; omega)) | fail)
    apply Yi H
    · exact zk
    apply Yd; exact rfl; exact rfl; exact ⟨⟨1, rfl, fun h => absurd h (by decide)⟩, rfl⟩
  | true =>
  rw [hfm, if_pos rfl] at hte2
  subst hte2
  repeat' (first | refine zgd ?_ | (refine zge ?_ ?_ <;> intro _ <;> try (exfalso; omega)) | fail)
  apply Yo _ YlL
  exact za
  exact rfl
  exact fun _ hw => (p3 (hx.mono zk) (hw))
  rintro _ _ ⟨⟨xi, xe, rfl⟩, hK0⟩
  rw [hK0]
  by_cases h3 : xe = 0
  rotate_left
  · repeat' (first | refine zgd ?_ | (refine zge ?_ ?_ <;> intro _ <;> try (exfalso; omega)) | fail)
    apply Yi H
    · exact zk
    apply Yd; exact rfl; exact rfl; exact ⟨⟨1, rfl, fun h => absurd h (by decide)⟩, rfl⟩
  repeat' (first | refine zgd ?_ | (refine zge ?_ ?_ <;> intro _ <;> try (exfalso; omega)) | fail)
  all_goals (
    apply Yi H
    · exact zk
    apply Yd; exact rfl; exact rfl
    refine ⟨⟨_, rfl, fun h => ?_⟩, rfl⟩
    first
      | exact absurd h (by decide)
      | exact ⟨by rw [hfe2]; exact h1, rfl, by omega, by omega⟩)
theorem UX {nodes : Int} {l : List Flw} (h : (YO nodes l).2 = 0) : (∀ f ∈ l, YW nodes f = 0) ∧ l.Pairwise fun a b => a.1 ≠ b.1 := by
  have hstep : ∀ j, j < l.length → YW nodes (XA l j) = 0 ∧ (0 < j → (XA l (j - 1)).1 < (XA l j).1) := fun j hj => by
    unfold YO at h
    split at h
    · cases h
    split at h
    · cases h
    have := Y2.1 h j (Nat.zero_le _) (by omega)
    unfold Y3 at this
    split at this
    · contradiction
    rename_i h2
    refine ⟨Decidable.not_not.1 h2, fun h0 => ?_⟩
    split at this
    · cases this
    · omega
  have hlt : ∀ {i j : Nat}, i < j → j < l.length → (XA l i).1 < (XA l j).1 := by
    intro i j hij hj
    induction j with
    | zero => omega
    | succ j ih =>
      have h1 := (hstep (j + 1) hj).2 (by omega)
      rw [Nat.add_sub_cancel] at h1
      rcases Nat.lt_or_ge i j with h2 | h2
      · have := ih h2 (by omega); omega
      · obtain rfl : i = j := by omega
        exact h1
  have hat : ∀ {i : Nat} (hi : i < l.length), XA l i = l[i] := fun hi => by unfold XA; rw [List.getD_eq_getElem?_getD, List.getElem?_eq_getElem hi]; rfl
  refine ⟨fun f hf => ?_, List.pairwise_iff_getElem.2 fun i j hi hj hij e => ?_⟩
  · obtain ⟨i, hi, rfl⟩ := List.mem_iff_getElem.1 hf
    rw [← hat hi]
    exact (hstep i hi).1
  · have := hlt hij hj
    rw [hat hi, hat hj, e] at this
    omega
theorem Ykj (c : PlC) (n : Int) (hn : 0 ≤ n ∧ n ≤ 1000000) (hl : c.l.length ≤ 1000) (hid : c.l.Pairwise fun a b => a.1 ≠ b.1) (hf : ∀ f ∈ c.l, YW 32 f = 0) (hxl : c.xs.length ≤ 1000000) (hsl : c.s.cells.length ≤ 1000) {g : Nat} {sA : Option Addr} {sc : Nat} {ss : List SM}
    {tA : Option Addr} {tc : Nat} {atts : List AttM} {dA : Option Addr} {dc : Nat} {dels : List (Int × Int × Int)} (hp : PInv c n 0 ss atts dels) (hat : atts.length ≤ 50000000) {B : Nat} {w0 : World} {Z : HP} {w : World} (hr : Rd B w0 [Z] c.fA (c.l.flatMap flwF)) (hs : Rd B w0 [Z] c.s.A (c.s.cells.flatMap celF)) (hx : XIn B w0 [Z] c.xA c.xs) {H : List HP} (R : List HP) (hR : ∀ w, St B w0 R w → St B w0 [Z] w) (hin : ∀ w, St B w0 H w → St B w0 (plL c g sA sc ss tA tc atts dA dc dels R) w) (hw : St B w0 H w) :
    Calls Tryz.prog 94 [.pointer (some ⟨g, 0, none⟩), .int .i64 n].toArray w (Post B w0 fun v K => ∃ ss' tA' tc' atts' dA' dc' dels', v = .tuple #[] ∧ PInv c (n + 1) 0 ss' atts' dels' ∧ atts'.length ≤ atts.length + 1000 ∧ K = plL c g sA sc ss' tA' tc' atts' dA' dc' dels' R) := by
  have hZ : ∀ w, St B w0 [many R] w → St B w0 [Z] w := fun w h => hR w (h.perm (.openT R))
  refine (YhC (Z := many R) c n hn hl hid hf hxl hsl hp hat (hr.mono hZ) (hs.mono hZ) (hx.mono hZ) ((hin w hw).perm (.cons _ (.cons _ (.cons _ (.cons _ (.cons _ (.closeT R)))))))).mono ?_
  rintro e w' ⟨v, K, h1, hst, ss', tA', tc', atts', dA', dc', dels', h2, h3, h4, rfl⟩
  exact ⟨v, _, h1, hst.perm (.cons _ (.cons _ (.cons _ (.cons _ (.cons _ (.openT R)))))), ss', tA', tc', atts', dA', dc', dels', h2, h3, h4, rfl⟩
structure RunO (c : PlC) (slots : Int) (H : List HP) (v : Value) (K : List HP) : Prop where
  go : (∃ e : Int, e ≠ 0 ∧ v = .tuple #[.agg #[.slice none 0 0, .slice none 0 0], .int .i64 e] ∧ K = H) ∨
    ∃ ss tA tc atts dA dc dels, v = .tuple #[.agg #[.slice tA (atts : List AttM).length tc, .slice dA (dels : List (Int × Int × Int)).length dc], .int .i64 0] ∧ PInv c slots 0 ss atts dels ∧ atts.length ≤ 50000000 ∧ (YO 32 c.l).2 = 0 ∧ Y6 c.s.sch = true ∧ 0 ≤ slots ∧ K = plT tA tc atts :: plD dA dc dels :: H
set_option maxRecDepth 10000 in
set_option maxHeartbeats 4000000 in
theorem Yhp (c : PlC) (slots : Int) (hl : c.l.length ≤ 1000) (hsl : c.s.cells.length ≤ 1000) (hxl : c.xs.length ≤ 1000000) {B : Nat} {w0 : World} {H : List HP} {w : World} (ht : TabsB B w0) (hr : Rd B w0 H c.fA (c.l.flatMap flwF)) (hs : Rd B w0 H c.s.A (c.s.cells.flatMap celF)) (hx : XIn B w0 H c.xA c.xs) (hw : St B w0 H w) :
    Calls Tryz.prog 38 [.slice c.fA c.l.length c.fc, c.s.val, .slice c.xA c.xs.length c.xc, .int .i64 slots].toArray w (Post B w0 (RunO c slots H)) := by
  refine Yc Tryz.func38 Tryz.ntmps38 rfl rfl hw ?_
  have hop : ∀ w, St B w0 [many H] w → St B w0 H w := fun w hw => hw.perm (.openT H)
  have hr := hr.mono hop
  have hs := hs.mono hop
  have hx := hx.mono hop
  refine VR [many H] (fun w hw => hw.perm (.closeT H)) ?_
  have p1 := fun {H' : List HP} {w : World} (hr : Rd B w0 H' c.fA (c.l.flatMap flwF)) (hs : Rd B w0 H' c.s.A (c.s.cells.flatMap celF)) (hx : XIn B w0 H' c.xA c.xs) (hw : St B w0 H' w) => Yfy c slots (by omega) (by omega) hxl ht hr hs hx hw
  have p2 := fun {H' : List HP} {w : World} (hw : St B w0 H' w) => Yaq c hl hw
  unfold SchM.val at p1 p2 ⊢
  repeat' (first | refine zgc ?_ | (refine zgh ?_; intro _) | fail)
  apply Yo _ en92
  exact za
  exact rfl
  exact fun _ hw => (p1 (hr.mono zk) (hs.mono zk) (hx.mono zk) (hw))
  rintro _ _ ⟨⟨e, rfl, he⟩, hK0⟩
  rw [hK0]
  by_cases he0 : e = 0
  rotate_left
  · repeat' (first | refine zgd ?_ | (refine zge ?_ ?_ <;> intro _ <;> try (exfalso; omega)) | fail)
    refine Wf T (H2 := H) rfl rfl rfl zm rfl rfl (fun w hw => hop w ?_) ⟨.inl ⟨e, he0, rfl, rfl⟩⟩
    revert w
    exact zk
  obtain ⟨hfe, hfm, hs0, hs1⟩ := he he0
  obtain ⟨hfl, hid⟩ := UX hfe
  rename Nat => gr
  repeat' (first | refine zgc ?_ | (refine zge ?_ ?_ <;> intro _ <;> try (exfalso; omega)) | fail)
  apply Yo _ en93
  exact za
  exact rfl
  exact fun _ hw => (p2 (hw))
  rintro _ _ ⟨g, sA, sc, rfl, rfl⟩
  repeat' (first | refine zgb ?_ | fail)
  refine Yl (fun (z : Nat × List SM × Option Addr × Nat × List AttM × Option Addr × Nat × List (Int × Int × Int)) => [(27, .int .i64 (z.1 : Nat)), (26, .int .i64 slots), (11, .pointer (some ⟨g, 0, none⟩)), (9, .int .i64 0), (8, .pointer (some ⟨gr, 0, none⟩))])
    (fun (j, s, uA, uc, u, vA, vc, v) => plL c g sA sc s uA uc u vA vc v [blk gr (.cells (Value.agg #[.slice none 0 0, .slice none 0 0]).cells 84 (0, 0)), many H]) (fun (j, s, uA, uc, u, vA, vc, v) => (j : Int) ≤ slots ∧ PInv c (j : Nat) 0 s u v ∧ u.length ≤ 1000 * j) (fun z => slots.toNat - z.1) (0, List.replicate c.l.length Xc, none, 0, [], none, 0, []) ⟨hs0, PInv.start c, Nat.le_refl _⟩ ?_ ?_ ?_
  · exact zu
  · exact zk
  rintro ⟨j, s, uA, uc, u, vA, vc, v⟩ ⟨hj, hp, hu⟩ K hK
  dsimp only at hj hp hu ⊢
  have hul : u.length ≤ 50000000 := by omega
  by_cases hlt : (j : Int) < slots
  rotate_left
  · obtain rfl : slots = (j : Nat) := by omega
    clear hK
    repeat' (first | (apply YV T; exact rfl; exact zm; exact rfl; exact zv; exact rfl; exact rfl) | refine zgd ?_ | (refine zge ?_ ?_ <;> intro _ <;> try (exfalso; omega)) | fail)
    refine Wf T (H2 := plT uA uc u :: plD vA vc v :: H) rfl rfl rfl zm rfl rfl (fun w hw => ?_) ⟨.inr ⟨s, uA, uc, u, vA, vc, v, rfl, hp, hul, hfe, hfm, hs0, rfl⟩⟩
    have h5 : St B w0 (plT uA uc u :: plD vA vc v :: [many H]) w := by
      revert w
      exact zk
    exact h5.perm (.cons _ (.cons _ (.openT H)))
  have p3 := fun {H' : List HP} {w : World} (hin : ∀ w, St B w0 H' w → St B w0 (plL c g sA sc s uA uc u vA vc v [blk gr (.cells (Value.agg #[.slice none 0 0, .slice none 0 0]).cells 84 (0, 0)), many H]) w) (hw : St B w0 H' w) => Ykj c (j : Nat) (by omega) hl hid hfl hxl hsl hp hul hr hs hx [blk gr (.cells (Value.agg #[.slice none 0 0, .slice none 0 0]).cells 84 (0, 0)), many H] (fun w hw => hw.tail) hin hw
  repeat' (first | refine zgb ?_ | (refine zge ?_ ?_ <;> intro _ <;> try (exfalso; omega)) | fail)
  apply Yo _ en94
  exact za
  exact rfl
  exact fun _ hw => (p3 zk (hw))
  rintro _ _ ⟨s3, uA', uc', u', vA', vc', v', rfl, hp3, hu3, rfl⟩
  repeat' (first | refine zgc ?_ | fail)
  apply hK (j + 1, s3, uA', uc', u', vA', vc', v')
  · exact ⟨by push_cast; omega, by rw [show ((j + 1 : Nat) : Int) = (j : Int) + 1 by omega]; exact hp3, by omega⟩
  · dsimp only; omega
  · exact zu
  · exact zk
open Go.RowKit Go.Eng Go.Nw Go.Rt
def YhT (c : PlC) (slots : Int) (atts : List AttM) (dels : List (Int × Int × Int)) (e : Int) : Prop := e = 0 → (∃ ss, PInv c slots 0 ss atts dels) ∧ atts.length ≤ 50000000 ∧ (YO 32 c.l).2 = 0 ∧ Y6 c.s.sch = true ∧ 0 ≤ slots
theorem Yfx (c : PlC) (slots : Int) (hl : c.l.length ≤ 1000) (hsl : c.s.cells.length ≤ 1000) (hxl : c.xs.length ≤ 1000000) {B : Nat} {w0 : World} {H : List HP} {w : World} (ht : TabsB B w0) (hr : Rd B w0 H c.fA (c.l.flatMap flwF)) (hs : Rd B w0 H c.s.A (c.s.cells.flatMap celF)) (hx : XIn B w0 H c.xA c.xs) (hw : St B w0 H w) :
    Calls Tryz.prog 38 [.slice c.fA c.l.length c.fc, c.s.val, .slice c.xA c.xs.length c.xc, .int .i64 slots].toArray w (Post B w0 fun v K => ∃ tA tc atts dA dc dels e, v = .tuple #[.agg #[.slice tA (atts : List AttM).length tc, .slice dA (dels : List (Int × Int × Int)).length dc], .int .i64 e] ∧ YhT c slots atts dels e ∧ K = plT tA tc atts :: plD dA dc dels :: H) := by
  refine (Yhp c slots hl hsl hxl ht hr hs hx hw).mono ?_
  rintro e w' ⟨v, K, rfl, hst, ⟨h⟩⟩
  rcases h with ⟨e, he, rfl, rfl⟩ | ⟨ss, tA, tc, atts, dA, dc, dels, rfl, h1, h2, h3, h4, h5, rfl⟩
  · exact ⟨_, _, rfl, (hst.nilSlice 181 3).nilSlice 167 8, none, 0, [], none, 0, [], e, rfl, fun h => absurd h he, rfl⟩
  · exact ⟨_, _, rfl, hst, tA, tc, atts, dA, dc, dels, 0, rfl, fun _ => ⟨⟨ss, h1⟩, h2, h3, h4, h5⟩, rfl⟩
open Go.RowKit Go.Eng Go.Nw Go.Rt
def Wn (id k : Int) (d : Int × Int × Int) : Bool := decide (d.1 = id ∧ d.2.1 = k)
def delT (dels : List (Int × Int × Int)) (id k : Int) : Option Int := (dels.find? (Wn id k)).map (·.2.2)
set_option maxRecDepth 10000 in
set_option maxHeartbeats 2000000 in
theorem QQ (dels : List (Int × Int × Int)) (id k : Int) (hlen : dels.length ≤ 1000000000) (tA : Option Addr) (nt tc : Nat) {dA : Option Addr} {dc B : Nat} {w0 : World} {H : List HP} {w : World} (hr : Rd B w0 H dA (dels.flatMap delF)) (hw : St B w0 H w) :
    Calls Tryz.prog 42 [.agg #[.slice tA nt tc, .slice dA dels.length dc], .int .i64 id, .int .i64 k].toArray w (Post B w0 fun v K => v = .tuple #[.int .i64 ((delT dels id k).getD 0), .bool (delT dels id k).isSome] ∧ K = H) := by
  refine Yc Tryz.func42 Tryz.ntmps42 rfl rfl hw ?_
  obtain ⟨r, hr0⟩ : ∃ r, delT dels id k = r := ⟨_, rfl⟩
  rw [hr0]
  unfold delT at hr0
  repeat' (first | refine zgb ?_ | (refine zgh ?_; intro _) | fail)
  refine Yl (fun j : Nat => [(13, .int .i64 (j : Nat)), (12, .int .i64 dels.length), (11, .slice dA dels.length dc), (1, .int .i64 id), (2, .int .i64 k)]) (fun _ => H) (fun j => j ≤ dels.length ∧ dels.find? (Wn id k) = (dels.drop j).find? (Wn id k)) (fun j => dels.length - j) 0 ⟨Nat.zero_le _, by rw [List.drop_zero]⟩ ?_ ?_ ?_
  · exact zu
  · exact zk
  rintro j ⟨hj, hf⟩ K hK
  by_cases hlt : j < dels.length
  rotate_left
  · rw [List.drop_eq_nil_of_le (by omega)] at hf
    rw [hf] at hr0
    subst hr0
    clear hK
    repeat' (first | refine zgc ?_ | (refine zge ?_ ?_ <;> intro _ <;> try (exfalso; omega)) | fail)
    apply Yr; exact rfl; exact rfl; exact rfl; exact ⟨rfl, rfl⟩
  obtain ⟨d, hd⟩ : ∃ d, dels[j]? = some d := ⟨_, List.getElem?_eq_getElem hlt⟩
  have hdr : dels.drop j = d :: dels.drop (j + 1) := by
    obtain ⟨h1, h2⟩ := List.getElem?_eq_some_iff.1 hd
    rw [List.drop_eq_getElem_cons h1, h2]
  rw [hdr, List.find?_cons] at hf
  by_cases h1 : d.1 = id
  · by_cases h2 : d.2.1 = k
    · have hy : Wn id k d = true := decide_eq_true ⟨h1, h2⟩
      rw [hy] at hf
      rw [hf] at hr0
      subst hr0
      clear hK
      repeat' (first | refine zgd ?_ | (refine zgf ?_ ?_ <;> intro _ <;> try (exfalso; omega)) | (refine zgh ?_; intro _) | fail)
      apply Yi H
      · exact zk
      apply Yr; exact rfl; exact rfl; exact rfl; exact ⟨rfl, rfl⟩
    · have hy : Wn id k d = false := decide_eq_false fun h => h2 h.2
      rw [hy] at hf
      repeat' (first | refine zgd ?_ | (refine zgf ?_ ?_ <;> intro _ <;> try (exfalso; omega)) | (refine zgh ?_; intro _) | fail)
      apply hK (j + 1)
      · exact ⟨by omega, hf⟩
      · omega
      · exact zu
      · exact zk
  · have hy : Wn id k d = false := decide_eq_false fun h => h1 h.1
    rw [hy] at hf
    repeat' (first | refine zgd ?_ | (refine zgf ?_ ?_ <;> intro _ <;> try (exfalso; omega)) | (refine zgh ?_; intro _) | fail)
    apply hK (j + 1)
    · exact ⟨by omega, hf⟩
    · omega
    · exact zu
    · exact zk
def frIx (f : Flw) (t : Int) : Int := (max (t - phaF f) 0 + perF f - 1) / perF f
theorem YcJ (f : Flw) (t : Int) (g : Nat) (hf : YW 32 f = 0) (ht : 0 ≤ t ∧ t ≤ 1000000) {B : Nat} {w0 : World} {H : List HP} {w : World} (hm : blk g (.cells #[.int .i64 f.1, .int .i64 f.2.1, .int .i64 f.2.2.1, .int .i64 f.2.2.2.1, .int .i64 f.2.2.2.2.1, .int .i64 f.2.2.2.2.2] 68 (0, 0)) ∈ H) (hw : St B w0 H w) :
    Calls Tryz.prog 101 [.int .i64 t, .pointer (some ⟨g, 0, none⟩)].toArray w (Post B w0 fun v K => v = .int .i64 (frIx f t) ∧ K = H) := by
  refine Yc Tryz.func101 Tryz.ntmps101 rfl rfl hw ?_
  obtain ⟨h1, h2, -, -⟩ := Xm hf
  unfold frIx phaF perF
  by_cases hlt : t - f.2.2.2.2.1 ≤ 0
  · rw [show max (t - f.2.2.2.2.1) 0 = 0 by omega]
    repeat' (first | refine zgd ?_ | (refine zgf ?_ ?_ <;> intro _ <;> try (exfalso; omega)) | fail)
    all_goals (
      apply Yd; exact rfl; exact rfl; refine ⟨congrArg (Value.int .i64) ?_, rfl⟩
      first
        | rfl
        | (congr 1; omega))
  · rw [show max (t - f.2.2.2.2.1) 0 = t - f.2.2.2.2.1 by omega]
    repeat' (first | refine zgd ?_ | (refine zgf ?_ ?_ <;> intro _ <;> try (exfalso; omega)) | fail)
    all_goals (apply Yd; exact rfl; exact rfl; exact ⟨rfl, rfl⟩)
def frsL (f : Flw) (a b : Int) : List Int := (List.range (frIx f b - frIx f a).toNat).map fun i : Nat => frIx f a + i
theorem Vi {f : Flw} (hf : YW 32 f = 0) {t : Int} (ht : 0 ≤ t) : 0 ≤ frIx f t ∧ frIx f t ≤ t := by
  obtain ⟨h1, h2, -, -⟩ := Xm hf
  unfold frIx phaF perF
  generalize f.2.2.2.1 = p at *
  generalize f.2.2.2.2.1 = a at *
  have h3 : 0 ≤ max (t - a) 0 ∧ max (t - a) 0 ≤ t := by omega
  generalize max (t - a) 0 = z at *
  refine ⟨Int.ediv_nonneg (by omega) (by omega), Int.le_trans ?_ h3.2⟩
  apply Int.le_of_lt_add_one
  apply Int.ediv_lt_of_lt_mul (by omega)
  have := Int.mul_le_mul_of_nonneg_left h1.1 h3.1
  rw [Int.add_mul]
  omega
theorem Ygl {f : Flw} (hf : YW 32 f = 0) {b k : Int} (_hb : 0 ≤ b) (hk : k ∈ frsL f 0 b) : 0 ≤ k ∧ Yx f k < b := by
  obtain ⟨h1, h2, -, -⟩ := Xm hf
  unfold frsL at hk
  obtain ⟨i, hi, rfl⟩ := List.mem_map.1 hk
  have hi := List.mem_range.1 hi
  have h0 := Vi hf (t := 0) (Int.le_refl _)
  have h00 : frIx f 0 = 0 := by omega
  rw [h00] at hi ⊢
  refine ⟨by omega, ?_⟩
  have hlt : (i : Int) + 1 ≤ frIx f b := by omega
  unfold frIx phaF perF at hlt
  unfold Yx phaF perF
  generalize f.2.2.2.1 = p at *
  generalize f.2.2.2.2.1 = a at *
  have h5 := Int.mul_le_of_le_ediv (show 0 < p by omega) hlt
  rw [Int.add_mul] at h5
  rw [show (0 : Int) + i = i by omega]
  have h6 : (0 : Int) ≤ (i : Int) * p := Int.mul_nonneg (by omega) (by omega)
  omega
set_option maxRecDepth 10000 in
set_option maxHeartbeats 2000000 in
theorem Yd3 (f : Flw) (a b : Int) (hf : YW 32 f = 0) (ha : 0 ≤ a ∧ a ≤ b) (hb : b ≤ 1000) (hab : frIx f a ≤ frIx f b) {B : Nat} {w0 : World} {H : List HP} {w : World} (hw : St B w0 H w) :
    Calls Tryz.prog 40 [flwV f, .int .i64 a, .int .i64 b].toArray w (Post B w0 fun v K => ∃ A cap, v = .tuple #[.slice A (frsL f a b).length cap, .int .i64 0] ∧ K = nrs A cap (frsL f a b) :: H) := by
  refine Yc Tryz.func40 Tryz.ntmps40 rfl rfl hw ?_
  have p1 := fun {H' : List HP} {w : World} (hw : St B w0 H' w) => V5 f hf hw
  have h1 := Vi hf (t := a) (by omega)
  have h2 := Vi hf (t := b) (by omega)
  unfold flwV at p1 ⊢
  have p2 := fun (t : Int) (ht : 0 ≤ t ∧ t ≤ 1000000) (g : Nat) {H' : List HP} {w : World} (hm : blk g (.cells #[.int .i64 f.1, .int .i64 f.2.1, .int .i64 f.2.2.1, .int .i64 f.2.2.2.1, .int .i64 f.2.2.2.2.1, .int .i64 f.2.2.2.2.2] 68 (0, 0)) ∈ H') (hw : St B w0 H' w) => YcJ f t g hf ht hm hw
  repeat' (first | ((first | apply Ya Ow | apply Yb Ow); exact za; exact rfl; exact fun _ hw => (p1 hw)) | (apply zg29; (apply Yq; exact za ; exact rfl)) | refine zgc ?_ | (refine zge ?_ ?_ <;> intro _ <;> try (exfalso; omega)) | (refine zgh ?_; intro _) | fail)
  rename Nat => gf
  repeat' (first | ((first | apply YC (cs := [.pointer (some ⟨gf, 0, none⟩)]) | apply Y1 (cs := [.pointer (some ⟨gf, 0, none⟩)])); exact rfl; exact YlG; exact za; exact rfl; exact fun _ hw => (p2 _ (by omega) gf zm hw)) | refine zgd ?_ | (refine zge ?_ ?_ <;> intro _ <;> try (exfalso; omega)) | fail)
  have hm : frIx f b - frIx f a ≤ 1000 := by omega
  obtain ⟨u, hu⟩ : ∃ u, frIx f a = u := ⟨_, rfl⟩
  obtain ⟨v, hv⟩ : ∃ v, frIx f b = v := ⟨_, rfl⟩
  rw [hu] at h1 hab hm ⊢
  rw [hv] at h2 hab hm ⊢
  refine Yl (fun (z : Nat × Option Addr × Nat) => [(39, .int .i64 (z.1 : Nat)), (38, .int .i64 (v - u)), (11, .slice z.2.1 z.1 z.2.2), (9, .int .i64 u)]) (fun z => sl 3 1 z.2.1 z.1 z.2.2 (((List.range z.1).map fun i : Nat => u + i).flatMap numF) :: H) (fun z => z.1 ≤ (v - u).toNat) (fun z => (v - u).toNat - z.1) (0, none, 0) (Nat.zero_le _) ?_ ?_ ?_
  · exact zu
  · intro w hw
    have h5 : St B w0 H w := by
      revert w
      exact zk
    exact h5.nilSlice _ _
  rintro ⟨k, A, cap⟩ hk K hK
  dsimp only at hk ⊢
  by_cases hlt : (k : Int) < v - u
  rotate_left
  · obtain rfl : k = (v - u).toNat := by omega
    clear hK
    have hL : frsL f a b = (List.range (v - u).toNat).map fun i : Nat => u + i := by unfold frsL; rw [hu, hv]
    have hl : (frsL f a b).length = (v - u).toNat := by rw [hL]; simp
    repeat' (first | refine zgc ?_ | (refine zge ?_ ?_ <;> intro _ <;> try (exfalso; omega)) | fail)
    apply Yi (nrs A cap (frsL f a b) :: H)
    · unfold nrs
      rw [hl, hL]
      exact zk
    apply Yr; exact rfl; exact rfl; exact rfl
    exact ⟨A, cap, by rw [hl], rfl⟩
  repeat' (first | refine zgc ?_ | (refine zge ?_ ?_ <;> intro _ <;> try (exfalso; omega)) | (refine zgh ?_; intro _) | (refine zgi ?_; intro _ _) | fail)
  rename_i A' cap'
  have e5 : sl 3 1 A' (k + 1) cap' (((List.range k).map fun i : Nat => u + i).flatMap numF ++ #[Value.int .i64 (u + k)].toList) = sl 3 1 A' (k + 1) cap' (((List.range (k + 1)).map fun i : Nat => u + i).flatMap numF) := by
    rw [List.range_succ, List.map_append, List.flatMap_append]; rfl
  rw [e5]
  apply hK (k + 1, A', cap')
  · show k + 1 ≤ _; omega
  · dsimp only; omega
  · exact zu
  · exact zk
open Go.RowKit Go.Eng Go.Nw Go.Rt
theorem V4 (l m : List Int) (hlen : l.length ≤ 9223372036854775807) (_hlen2 : m.length ≤ 9223372036854775807) {A A2 : Option Addr} {cap cap2 B : Nat} {w0 : World} {H : List HP} {w : World} (hr : Rd B w0 H A (l.flatMap numF)) (hr2 : Rd B w0 H A2 (m.flatMap numF)) (hw : St B w0 H w) :
    Calls Tryz.prog 132 [.slice A l.length cap, .slice A2 m.length cap2].toArray w (Post B w0 fun u K => u = .bool (decide (l = m)) ∧ K = H) := by
  refine Yc Tryz.func132 Tryz.ntmps132 rfl rfl hw ?_
  by_cases hll : l.length = m.length
  rotate_left
  · repeat' (first | refine zgb ?_ | (refine zge ?_ ?_ <;> intro _ <;> try (exfalso; omega)) | fail)
    apply Yd; exact rfl; exact rfl
    exact ⟨by rw [decide_eq_false fun e => hll (by rw [e])], rfl⟩
  repeat' (first | refine zgb ?_ | (refine zge ?_ ?_ <;> intro _ <;> try (exfalso; omega)) | fail)
  refine Yl (fun (k : Nat) => [(13, .int .i64 k), (12, .int .i64 l.length), (0, .slice A l.length cap), (1, .slice A2 m.length cap2)]) (fun _ => H) (fun k => k ≤ l.length ∧ l.take k = m.take k) (fun k => l.length - k) 0 ⟨Nat.zero_le _, by simp⟩ ?_ (fun w hw => hw) ?_
  · exact zu
  rintro k ⟨hk, hi⟩ K hK
  by_cases hlt : k < l.length
  · obtain ⟨a, ha⟩ : ∃ a, l[k]? = some a := ⟨_, List.getElem?_eq_getElem hlt⟩
    obtain ⟨b, hb⟩ : ∃ b, m[k]? = some b := ⟨_, List.getElem?_eq_getElem (by omega)⟩
    repeat' (first | refine zgd ?_ | (refine zge ?_ ?_ <;> intro _ <;> try (exfalso; omega)) | fail)
    · rename_i h
      apply Yd; exact rfl; exact rfl
      exact ⟨by rw [decide_eq_false fun e => by rw [e, hb] at ha; exact h (Option.some.inj ha).symm], rfl⟩
    · rename_i h
      apply hK (k + 1)
      · exact ⟨by omega, by rw [Jd ha, Jd hb, hi, h]⟩
      · omega
      · exact zu
      · exact fun w hw => hw
  · repeat' (first | refine zgc ?_ | (refine zge ?_ ?_ <;> intro _ <;> try (exfalso; omega)) | fail)
    apply Yd; exact rfl; exact rfl
    rw [List.take_of_length_le (by omega), List.take_of_length_le (by omega)] at hi
    exact ⟨by rw [decide_eq_true hi], rfl⟩
theorem YaH (a b : RowM) {B : Nat} {w0 : World} {H : List HP} {w : World} (hl : a.xs.length ≤ 1000000000000 ∧ b.xs.length ≤ 1000000000000) (hr : Rd B w0 H a.A (a.xs.flatMap numF)) (hr2 : Rd B w0 H b.A (b.xs.flatMap numF)) (hw : St B w0 H w) :
    Calls Tryz.prog 130 [.slice a.A a.xs.length a.cap, .slice b.A b.xs.length b.cap].toArray w (Post B w0 fun u K => u = .bool (decide (a.xs = b.xs)) ∧ K = H) := by
  refine Yc Tryz.func130 Tryz.ntmps130 rfl rfl hw ?_
  repeat' (first | ((first | apply Ya en33 | apply Yb en33); exact za; exact rfl; exact fun _ hw => (OA a.xs b.xs (by omega) (by omega) hr hr2 hw)) | refine zga ?_ | fail)
  apply Yd; exact rfl; exact rfl; exact ⟨rfl, rfl⟩
set_option maxHeartbeats 1000000 in
theorem WT (l m : List RowM) (hlen : l.length ≤ 1000000000000) (_hlen2 : m.length ≤ 1000000000000) (hl2 : ∀ r ∈ l, r.xs.length ≤ 1000000000000) (hm2 : ∀ r ∈ m, r.xs.length ≤ 1000000000000) {A A2 : Option Addr} {cap cap2 B : Nat} {w0 : World} {H : List HP} {w : World} (hr : Rd B w0 H A (l.flatMap rowF)) (hr2 : Rd B w0 H A2 (m.flatMap rowF)) (hrl : ∀ r ∈ l, Rd B w0 H r.A (r.xs.flatMap numF)) (hrm : ∀ r ∈ m, Rd B w0 H r.A (r.xs.flatMap numF)) (hw : St B w0 H w) :
    Calls Tryz.prog 133 [.slice A l.length cap, .slice A2 m.length cap2, .func (.func 130) #[] #[]].toArray w (Post B w0 fun u K => u = .bool (decide (l.map (·.xs) = m.map (·.xs))) ∧ K = H) := by
  refine Yc Tryz.func133 Tryz.ntmps133 rfl rfl hw ?_
  by_cases hll : l.length = m.length
  rotate_left
  · repeat' (first | refine zgb ?_ | (refine zge ?_ ?_ <;> intro _ <;> try (exfalso; omega)) | fail)
    apply Yd; exact rfl; exact rfl
    exact ⟨by rw [decide_eq_false fun e => hll (by have := congrArg List.length e; simpa using this)], rfl⟩
  repeat' (first | refine zgb ?_ | (refine zge ?_ ?_ <;> intro _ <;> try (exfalso; omega)) | fail)
  refine Yl (fun (k : Nat) => [(17, .int .i64 k), (16, .int .i64 l.length), (15, .slice A l.length cap), (0, .slice A l.length cap), (1, .slice A2 m.length cap2), (2, .func (.func 130) #[] #[])]) (fun _ => H) (fun k => k ≤ l.length ∧ (l.take k).map (·.xs) = (m.take k).map (·.xs)) (fun k => l.length - k) 0 ⟨Nat.zero_le _, by simp⟩ ?_ (fun w hw => hw) ?_
  · exact zu
  rintro k ⟨hk, hi⟩ K hK
  by_cases hlt : k < l.length
  · obtain ⟨a, ha⟩ : ∃ a, l[k]? = some a := ⟨_, List.getElem?_eq_getElem hlt⟩
    obtain ⟨b, hb⟩ : ∃ b, m[k]? = some b := ⟨_, List.getElem?_eq_getElem (by omega)⟩
    have ham := List.mem_of_getElem? ha
    have hbm := List.mem_of_getElem? hb
    have hss := fun {w : World} (hw : St B w0 H w) => YaH a b ⟨hl2 a ham, hm2 b hbm⟩ (hrl a ham) (hrm b hbm) hw
    by_cases hab : a.xs = b.xs
    · rw [decide_eq_true hab] at hss
      repeat' (first | ((first | apply YC (cs := []) | apply Y1 (cs := [])); exact rfl; exact YkC; exact za; exact rfl; exact fun _ hw => (hss hw)) | refine zgd ?_ | (refine zge ?_ ?_ <;> intro _ <;> try (exfalso; omega)) | fail)
      apply hK (k + 1)
      · exact ⟨by omega, by rw [List.take_add_one, List.take_add_one, ha, hb, List.map_append, List.map_append, hi]; simp [hab]⟩
      · omega
      · exact zu
      · exact fun w hw => hw
    · rw [decide_eq_false hab] at hss
      repeat' (first | ((first | apply YC (cs := []) | apply Y1 (cs := [])); exact rfl; exact YkC; exact za; exact rfl; exact fun _ hw => (hss hw)) | refine zgd ?_ | (refine zge ?_ ?_ <;> intro _ <;> try (exfalso; omega)) | fail)
      apply Yd; exact rfl; exact rfl
      have hne : ¬ (l.map (·.xs) = m.map (·.xs)) := fun e => by
        have h1 : (l.map (·.xs))[k]? = (m.map (·.xs))[k]? := by rw [e]
        rw [List.getElem?_map, List.getElem?_map, ha, hb] at h1
        exact hab (Option.some.inj h1)
      exact ⟨by rw [decide_eq_false hne], rfl⟩
  · repeat' (first | refine zgc ?_ | (refine zge ?_ ?_ <;> intro _ <;> try (exfalso; omega)) | fail)
    apply Yd; exact rfl; exact rfl
    rw [List.take_of_length_le (by omega), List.take_of_length_le (by omega)] at hi
    exact ⟨by rw [decide_eq_true hi], rfl⟩
theorem Ybe (a b : RowM) {B : Nat} {w0 : World} {H : List HP} {w : World} (hl : a.xs.length ≤ 1000000000000 ∧ b.xs.length ≤ 1000000000000) (hr : Rd B w0 H a.A (a.xs.flatMap numF)) (hr2 : Rd B w0 H b.A (b.xs.flatMap numF)) (hw : St B w0 H w) :
    Calls Tryz.prog 131 [.slice a.A a.xs.length a.cap, .slice b.A b.xs.length b.cap].toArray w (Post B w0 fun u K => u = .bool (decide (a.xs = b.xs)) ∧ K = H) := by
  refine Yc Tryz.func131 Tryz.ntmps131 rfl rfl hw ?_
  repeat' (first | ((first | apply Ya VJ | apply Yb VJ); exact za; exact rfl; exact fun _ hw => (V4 a.xs b.xs (by omega) (by omega) hr hr2 hw)) | refine zga ?_ | fail)
  apply Yd; exact rfl; exact rfl; exact ⟨rfl, rfl⟩
set_option maxHeartbeats 1000000 in
theorem O5 (l m : List RowM) (hlen : l.length ≤ 1000000000000) (_hlen2 : m.length ≤ 1000000000000) (hl2 : ∀ r ∈ l, r.xs.length ≤ 1000000000000) (hm2 : ∀ r ∈ m, r.xs.length ≤ 1000000000000) {A A2 : Option Addr} {cap cap2 B : Nat} {w0 : World} {H : List HP} {w : World} (hr : Rd B w0 H A (l.flatMap rowF)) (hr2 : Rd B w0 H A2 (m.flatMap rowF)) (hrl : ∀ r ∈ l, Rd B w0 H r.A (r.xs.flatMap numF)) (hrm : ∀ r ∈ m, Rd B w0 H r.A (r.xs.flatMap numF)) (hw : St B w0 H w) :
    Calls Tryz.prog 134 [.slice A l.length cap, .slice A2 m.length cap2, .func (.func 131) #[] #[]].toArray w (Post B w0 fun u K => u = .bool (decide (l.map (·.xs) = m.map (·.xs))) ∧ K = H) := by
  refine Yc Tryz.func134 Tryz.ntmps134 rfl rfl hw ?_
  by_cases hll : l.length = m.length
  rotate_left
  · repeat' (first | refine zgb ?_ | (refine zge ?_ ?_ <;> intro _ <;> try (exfalso; omega)) | fail)
    apply Yd; exact rfl; exact rfl
    exact ⟨by rw [decide_eq_false fun e => hll (by have := congrArg List.length e; simpa using this)], rfl⟩
  repeat' (first | refine zgb ?_ | (refine zge ?_ ?_ <;> intro _ <;> try (exfalso; omega)) | fail)
  refine Yl (fun (k : Nat) => [(17, .int .i64 k), (16, .int .i64 l.length), (15, .slice A l.length cap), (0, .slice A l.length cap), (1, .slice A2 m.length cap2), (2, .func (.func 131) #[] #[])]) (fun _ => H) (fun k => k ≤ l.length ∧ (l.take k).map (·.xs) = (m.take k).map (·.xs)) (fun k => l.length - k) 0 ⟨Nat.zero_le _, by simp⟩ ?_ (fun w hw => hw) ?_
  · exact zu
  rintro k ⟨hk, hi⟩ K hK
  by_cases hlt : k < l.length
  · obtain ⟨a, ha⟩ : ∃ a, l[k]? = some a := ⟨_, List.getElem?_eq_getElem hlt⟩
    obtain ⟨b, hb⟩ : ∃ b, m[k]? = some b := ⟨_, List.getElem?_eq_getElem (by omega)⟩
    have ham := List.mem_of_getElem? ha
    have hbm := List.mem_of_getElem? hb
    have hss := fun {w : World} (hw : St B w0 H w) => Ybe a b ⟨hl2 a ham, hm2 b hbm⟩ (hrl a ham) (hrm b hbm) hw
    by_cases hab : a.xs = b.xs
    · rw [decide_eq_true hab] at hss
      repeat' (first | ((first | apply YC (cs := []) | apply Y1 (cs := [])); exact rfl; exact YkD; exact za; exact rfl; exact fun _ hw => (hss hw)) | refine zgd ?_ | (refine zge ?_ ?_ <;> intro _ <;> try (exfalso; omega)) | fail)
      apply hK (k + 1)
      · exact ⟨by omega, by rw [List.take_add_one, List.take_add_one, ha, hb, List.map_append, List.map_append, hi]; simp [hab]⟩
      · omega
      · exact zu
      · exact fun w hw => hw
    · rw [decide_eq_false hab] at hss
      repeat' (first | ((first | apply YC (cs := []) | apply Y1 (cs := [])); exact rfl; exact YkD; exact za; exact rfl; exact fun _ hw => (hss hw)) | refine zgd ?_ | (refine zge ?_ ?_ <;> intro _ <;> try (exfalso; omega)) | fail)
      apply Yd; exact rfl; exact rfl
      have hne : ¬ (l.map (·.xs) = m.map (·.xs)) := fun e => by
        have h1 : (l.map (·.xs))[k]? = (m.map (·.xs))[k]? := by rw [e]
        rw [List.getElem?_map, List.getElem?_map, ha, hb] at h1
        exact hab (Option.some.inj h1)
      exact ⟨by rw [decide_eq_false hne], rfl⟩
  · repeat' (first | refine zgc ?_ | (refine zge ?_ ?_ <;> intro _ <;> try (exfalso; omega)) | fail)
    apply Yd; exact rfl; exact rfl
    rw [List.take_of_length_le (by omega), List.take_of_length_le (by omega)] at hi
    exact ⟨by rw [decide_eq_true hi], rfl⟩
theorem Yir {c d : ClM} : c.clm = d.clm ↔ c.flow = d.flow ∧ c.rs.map (·.xs) = d.rs.map (·.xs) ∧ c.bs = d.bs ∧ c.ws = d.ws ∧ c.ss.map (·.xs) = d.ss.map (·.xs) := by
  unfold ClM.clm
  constructor
  · intro h
    injection h with h1 h2 h3 h4 h5
    exact ⟨h1, h2, h3, h4, h5⟩
  · rintro ⟨h1, h2, h3, h4, h5⟩
    rw [h1, h2, h3, h4, h5]
set_option maxRecDepth 10000 in
set_option maxHeartbeats 4000000 in
theorem YfF (c d : ClM) {B : Nat} {w0 : World} {H : List HP} {w : World} (hc : c.In B w0 H) (hd : d.In B w0 H) (hw : St B w0 H w) :
    Calls Tryz.prog 74 [clV c, clV d].toArray w (Post B w0 fun u K => u = .bool (decide (c.clm = d.clm)) ∧ K = H) := by
  refine Yc Tryz.func74 Tryz.ntmps74 rfl rfl hw ?_
  have hcl := hc.ln
  have hdl := hd.ln
  have p1 := fun {H' : List HP} {w : World} (hc : c.In B w0 H') (hd : d.In B w0 H') (hw : St B w0 H' w) => WT c.rs d.rs (cap := c.rcap) (cap2 := d.rcap) hcl.1 hdl.1 hc.rl hd.rl hc.rt hd.rt hc.rw_ hd.rw_ hw
  have p2 := fun {H' : List HP} {w : World} (hc : c.In B w0 H') (hd : d.In B w0 H') (hw : St B w0 H' w) => V4 c.bs d.bs (cap := c.bcap) (cap2 := d.bcap) (by omega) (by omega) hc.bd hd.bd hw
  have p3 := fun {H' : List HP} {w : World} (hc : c.In B w0 H') (hd : d.In B w0 H') (hw : St B w0 H' w) => V4 c.ws d.ws (cap := c.wcap) (cap2 := d.wcap) (by omega) (by omega) hc.ws hd.ws hw
  have p4 := fun {H' : List HP} {w : World} (hc : c.In B w0 H') (hd : d.In B w0 H') (hw : St B w0 H' w) => O5 c.ss d.ss (cap := c.scap) (cap2 := d.scap) hcl.2.2.2 hdl.2.2.2 hc.sl hd.sl hc.st hd.st hc.sw hd.sw hw
  have hce := @Yir c d
  unfold clV
  by_cases h1 : c.flow = d.flow
  rotate_left
  · rw [decide_eq_false (fun h => h1 (hce.1 h).1)]
    repeat' (first | refine zgc ?_ | (refine zgf ?_ ?_ <;> intro _ <;> try (exfalso; omega)) | (refine zgh ?_; intro _) | fail)
    apply Yi H
    · exact zk
    apply Yd; exact rfl; exact rfl; exact ⟨rfl, rfl⟩
  by_cases h2 : c.rs.map (·.xs) = d.rs.map (·.xs)
  rotate_left
  · rw [decide_eq_false (fun h => h2 (hce.1 h).2.1)]
    rw [decide_eq_false h2] at p1
    repeat' (first | refine zgb ?_ | (refine zgf ?_ ?_ <;> intro _ <;> try (exfalso; omega)) | (refine zgh ?_; intro _) | fail)
    first | apply Ya Ox | apply Yb Ox
    exact za
    exact rfl
    exact fun _ hw => (p1 (hc.mono zk) (hd.mono zk) hw)
    repeat' (first | refine zgc ?_ | fail)
    apply Yi H
    · exact zk
    apply Yd; exact rfl; exact rfl; exact ⟨rfl, rfl⟩
  rw [decide_eq_true h2] at p1
  by_cases h3 : c.bs = d.bs
  rotate_left
  · rw [decide_eq_false (fun h => h3 (hce.1 h).2.2.1)]
    rw [decide_eq_false h3] at p2
    repeat' (first | refine zgb ?_ | (refine zgf ?_ ?_ <;> intro _ <;> try (exfalso; omega)) | (refine zgh ?_; intro _) | fail)
    first | apply Ya Ox | apply Yb Ox
    exact za
    exact rfl
    exact fun _ hw => (p1 (hc.mono zk) (hd.mono zk) hw)
    repeat' (first | refine zgc ?_ | fail)
    first | apply Ya VJ | apply Yb VJ
    exact za
    exact rfl
    exact fun _ hw => (p2 (hc.mono zk) (hd.mono zk) hw)
    repeat' (first | refine zgc ?_ | fail)
    apply Yi H
    · exact zk
    apply Yd; exact rfl; exact rfl; exact ⟨rfl, rfl⟩
  rw [decide_eq_true h3] at p2
  by_cases h4 : c.ws = d.ws
  rotate_left
  · rw [decide_eq_false (fun h => h4 (hce.1 h).2.2.2.1)]
    rw [decide_eq_false h4] at p3
    repeat' (first | refine zgb ?_ | (refine zgf ?_ ?_ <;> intro _ <;> try (exfalso; omega)) | (refine zgh ?_; intro _) | fail)
    first | apply Ya Ox | apply Yb Ox
    exact za
    exact rfl
    exact fun _ hw => (p1 (hc.mono zk) (hd.mono zk) hw)
    repeat' (first | refine zgc ?_ | fail)
    first | apply Ya VJ | apply Yb VJ
    exact za
    exact rfl
    exact fun _ hw => (p2 (hc.mono zk) (hd.mono zk) hw)
    repeat' (first | refine zgc ?_ | fail)
    first | apply Ya VJ | apply Yb VJ
    exact za
    exact rfl
    exact fun _ hw => (p3 (hc.mono zk) (hd.mono zk) hw)
    repeat' (first | refine zgc ?_ | fail)
    apply Yi H
    · exact zk
    apply Yd; exact rfl; exact rfl; exact ⟨rfl, rfl⟩
  rw [decide_eq_true h4] at p3
  have h5 : decide (c.clm = d.clm) = decide (c.ss.map (·.xs) = d.ss.map (·.xs)) := decide_eq_decide.2 ⟨fun h => (hce.1 h).2.2.2.2, fun h => hce.2 ⟨h1, h2, h3, h4, h⟩⟩
  rw [h5]
  repeat' (first | refine zgb ?_ | (refine zgf ?_ ?_ <;> intro _ <;> try (exfalso; omega)) | (refine zgh ?_; intro _) | fail)
  first | apply Ya Ox | apply Yb Ox
  exact za
  exact rfl
  exact fun _ hw => (p1 (hc.mono zk) (hd.mono zk) hw)
  repeat' (first | refine zgc ?_ | fail)
  first | apply Ya VJ | apply Yb VJ
  exact za
  exact rfl
  exact fun _ hw => (p2 (hc.mono zk) (hd.mono zk) hw)
  repeat' (first | refine zgc ?_ | fail)
  first | apply Ya VJ | apply Yb VJ
  exact za
  exact rfl
  exact fun _ hw => (p3 (hc.mono zk) (hd.mono zk) hw)
  repeat' (first | refine zgc ?_ | fail)
  first | apply Ya YkE | apply Yb YkE
  exact za
  exact rfl
  exact fun _ hw => (p4 (hc.mono zk) (hd.mono zk) hw)
  repeat' (first | refine zgc ?_ | fail)
  apply Yi H
  · exact zk
  apply Yd; exact rfl; exact rfl; exact ⟨rfl, rfl⟩
open Go.RowKit Go.Eng Go.Nw Go.Rt
theorem Jb {c : List ClM} {i : Nat} {x : ClM} (h : c[i]? = some x) : Jj (c.map ClM.clm) i = x.clm := by
  have h2 : (c.map ClM.clm)[i]? = some x.clm := by rw [List.getElem?_map, h]; rfl
  unfold Jj
  rw [List.getD_eq_getElem?_getD, h2]; rfl
theorem W6 {C : List ClM} {c : ClM} {B : Nat} {w0 : World} {H : List HP} (hm : many (C.map clQ) ∈ H) (hc : c ∈ C) (hl : c.lens) : c.In B w0 H := by
  have hb : ∀ w, St B w0 H w → St B w0 (C.map clQ) w := fun w hw => hw.inM hm
  refine ClM.In.mono (H := C.map clQ) (Yla (List.mem_map_of_mem hc) ⟨⟨?_, ?_, ?_, ?_⟩, ?_, ?_⟩) hb
  · have := hl.1.1; omega
  · have := hl.1.2.1; omega
  · have := hl.1.2.2.1; omega
  · have := hl.1.2.2.2; omega
  · exact fun r hr => Nat.le_trans (hl.2.1 r hr) (by decide)
  · exact fun r hr => Nat.le_trans (hl.2.2 r hr) (by decide)
set_option maxRecDepth 10000 in
set_option maxHeartbeats 8000000 in
theorem Ycx (n : NetM) (q : List RqM) (s : SchM) (c : List ClM) {A A1 : Option Addr} {cap cap1 B : Nat} {w0 : World} {H : List HP} {w : World} (ht : TabsB B w0) (hin : n.In B w0 H) (hq : QIn B w0 H A q) (hrs : Rd B w0 H s.A (s.cells.flatMap celF)) (hsl : s.cells.length ≤ 1000000000000) (hc : CIn B w0 H A1 c) (hw : St B w0 H w) :
    Calls Tryz.prog 23 [n.val, .slice A q.length cap, s.val, .slice A1 c.length cap1].toArray w (Post B w0 fun v K => v = .tuple #[.int .i64 (chkE n.net (q.map RqM.rq) s.sch (c.map ClM.clm)).1, .int .i64 (chkE n.net (q.map RqM.rq) s.sch (c.map ClM.clm)).2] ∧ K = H) := by
  refine Yc Tryz.func23 Tryz.ntmps23 rfl rfl hw ?_
  have hcl := hc.ln
  have hcr := hc.rd
  have p1 := fun {H' : List HP} {w : World} (hin : n.In B w0 H') (hq : QIn B w0 H' A q) (hrs : Rd B w0 H' s.A (s.cells.flatMap celF)) (hw : St B w0 H' w) => W4 n q s (cap := cap) ht hin hq hrs hsl hw
  obtain ⟨⟨RC, ri, re⟩, hR⟩ : ∃ R, Zt n.net (q.map RqM.rq) s.sch = R := ⟨_, rfl⟩
  unfold chkE
  rw [List.length_map]
  rw [hR] at p1 ⊢
  unfold OutC at p1
  dsimp only at p1 ⊢
  unfold NetM.val SchM.val
  by_cases h0 : re = 0
  rotate_left
  · rw [if_pos h0]
    repeat' (first | refine zgc ?_ | (refine zgh ?_; intro _) | fail)
    apply Yo _ en19
    exact za
    exact rfl
    exact fun _ hw => (p1 (hin.mono zk) (hq.mono zk) (hrs.mono zk) (hw))
    rintro _ _ ⟨A2, cap2, C, rfl, hC, hCl, rfl⟩
    repeat' (first | refine zgd ?_ | (refine zge ?_ ?_ <;> intro _ <;> try (exfalso; omega)) | fail)
    apply Yi H
    · exact zk
    apply Yr; exact rfl; exact rfl; exact rfl; exact ⟨rfl, rfl⟩
  subst h0
  rw [if_neg (fun e => e rfl)]
  repeat' (first | refine zgc ?_ | (refine zgh ?_; intro _) | fail)
  apply Yo _ en19
  exact za
  exact rfl
  exact fun _ hw => (p1 (hin.mono zk) (hq.mono zk) (hrs.mono zk) (hw))
  rintro _ _ ⟨A2, cap2, C, rfl, hC, hCl, rfl⟩
  subst hC
  rw [List.length_map]
  by_cases h1 : c.length = C.length
  rotate_left
  · rw [if_pos h1]
    repeat' (first | refine zgd ?_ | (refine zge ?_ ?_ <;> intro _ <;> try (exfalso; omega)) | fail)
    apply Yi H
    · exact zk
    apply Yr; exact rfl; exact rfl; exact rfl; exact ⟨rfl, rfl⟩
  rw [if_neg (fun e => e h1)]
  obtain ⟨F, hF⟩ : ∃ F : Nat → Int, (fun i => if Jj (c.map ClM.clm) i = Jj (C.map ClM.clm) i then (0 : Int) else 20) = F := ⟨_, rfl⟩
  rw [hF]
  have hFv : ∀ {k : Nat} {x y : ClM}, c[k]? = some x → C[k]? = some y → F k = if x.clm = y.clm then 0 else 20 := fun hx hy => by rw [← hF]; show (if _ = _ then _ else _) = _; rw [Jb hx, Jb hy]
  repeat' (first | refine zgd ?_ | (refine zge ?_ ?_ <;> intro _ <;> try (exfalso; omega)) | fail)
  refine Yl (fun k : Nat => [(33, .int .i64 (k : Nat)), (32, .int .i64 C.length), (10, .slice A2 C.length cap2), (3, .slice A1 c.length cap1)]) (fun _ => clsP A2 cap2 C :: many (C.map clQ) :: H) (fun k => k ≤ C.length ∧ ∀ j, 0 ≤ j → j < k → F j = 0) (fun k => C.length - k) 0 ⟨Nat.zero_le _, fun j _ h => absurd h (Nat.not_lt_zero _)⟩ ?_ ?_ ?_
  · exact zu
  · exact zk
  rintro k ⟨hk, hz⟩ K hK
  have hcr' : Rd B w0 (clsP A2 cap2 C :: many (C.map clQ) :: H) A1 (c.flatMap clF) := hcr.cons.cons
  have hCr' : Rd B w0 (clsP A2 cap2 C :: many (C.map clQ) :: H) A2 (C.flatMap clF) := .sl (.head _)
  by_cases hlt : k < C.length
  · obtain ⟨x, hx⟩ : ∃ x, c[k]? = some x := ⟨_, List.getElem?_eq_getElem (by omega)⟩
    obtain ⟨y, hy⟩ : ∃ y, C[k]? = some y := ⟨_, List.getElem?_eq_getElem hlt⟩
    have hym := List.mem_of_getElem? hy
    have hFk := hFv hx hy
    have hxi := hc.x x (List.mem_of_getElem? hx)
    have p2 := fun {H' : List HP} {w : World} (hx : x.In B w0 H') (hy : y.In B w0 H') (hw : St B w0 H' w) => YfF x y hx hy hw
    by_cases he : x.clm = y.clm
    · rw [if_pos he] at hFk
      rw [decide_eq_true he] at p2
      repeat' (first | refine zgb ?_ | (refine zge ?_ ?_ <;> intro _ <;> try (exfalso; omega)) | fail)
      apply YL [0, 1, 2, 3, 4, 5, 6, 7, 8, 9] []
      kernel_rfl
      kernel_rfl
      (simp only [Yj, nthO]; rfl)
      exact rfl
      repeat' (first | refine zgd ?_ | fail)
      first | apply Ya en74 | apply Yb en74
      exact za
      exact rfl
      exact fun _ hw => (p2 (hxi.mono zk) (W6 zm hym (hCl y hym)) hw)
      repeat' (first | (apply Yk; (repeat (first | with_reducible exact Yh | (with_reducible apply Yg; (repeat (first | with_reducible exact Yf | with_reducible apply Ye)))))) | refine zgd ?_ | fail)
      · show Perm H (H ++ [])
        rw [List.append_nil]; exact Perm.refl _
      repeat' (first | fail)
      apply hK (k + 1)
      · exact ⟨by omega, fun j h1 h2 => by
          rcases Nat.lt_succ_iff_lt_or_eq.1 h2 with h | rfl
          · exact hz j h1 h
          · exact hFk⟩
      · omega
      · exact zu
      · exact zk
    · rw [if_neg he] at hFk
      rw [decide_eq_false he] at p2
      have hfe := Xu (f := F) (r := c.length) (i0 := 0) (i := k) (fun j h1 h2 => hz j h1 h2) (Nat.zero_le _) (by omega) (by rw [hFk]; decide)
      rw [hfe, hFk]
      clear hK
      repeat' (first | refine zgb ?_ | (refine zge ?_ ?_ <;> intro _ <;> try (exfalso; omega)) | fail)
      apply YL [0, 1, 2, 3, 4, 5, 6, 7, 8, 9] []
      kernel_rfl
      kernel_rfl
      (simp only [Yj, nthO]; rfl)
      exact rfl
      repeat' (first | refine zgd ?_ | fail)
      first | apply Ya en74 | apply Yb en74
      exact za
      exact rfl
      exact fun _ hw => (p2 (hxi.mono zk) (W6 zm hym (hCl y hym)) hw)
      repeat' (first | (apply Yk; (repeat (first | with_reducible exact Yh | (with_reducible apply Yg; (repeat (first | with_reducible exact Yf | with_reducible apply Ye)))))) | refine zgd ?_ | fail)
      · show Perm H (H ++ [])
        rw [List.append_nil]; exact Perm.refl _
      repeat' (first | fail)
      apply Yi H
      · exact zk
      apply Yr; exact rfl; exact rfl; exact rfl; exact ⟨rfl, rfl⟩
  · obtain rfl : k = C.length := by omega
    have hfe := X7 (f := F) (r := c.length) (i0 := 0) fun j h1 h2 => hz j h1 (by omega)
    rw [hfe]
    clear hK
    repeat' (first | refine zgc ?_ | (refine zge ?_ ?_ <;> intro _ <;> try (exfalso; omega)) | fail)
    apply Yi H
    · exact zk
    apply Yr; exact rfl; exact rfl; exact rfl; exact ⟨rfl, rfl⟩
open Go.RowKit Go.Eng Go.Nw Go.Rt
def wordF : List UInt8 := [102, 108, 111, 119]
def wordR : List UInt8 := [114, 111, 117, 116, 101]
def wordB : List UInt8 := [98, 111, 117, 110, 100]
def wordL : List UInt8 := [115, 108, 111, 116, 115]
def XO (k : Nat) : List UInt8 := if k = 0 then wordF else if k = 1 then wordR else if k = 2 then wordB else wordL
def JM (k : Nat) : Nat := if k = 1 ∨ k = 2 then 2 else 1
def Ug (k : Nat) : Nat := if k = 0 then 1 else if k = 1 then 9 else if k = 2 then 2 else 64
def Xd (k : Nat) : Nat := if k = 0 then 3 else k - 1
def inL (l : List Int) (a b : Int) : Bool := l.all fun x => decide (a ≤ x ∧ x ≤ b)
def rtOk (r l : List Int) : Bool := decide (2 ≤ r.length ∧ r.length ≤ 9) && inL r 0 31 && decide (1 ≤ l.length ∧ l.length ≤ 64) && inL l 0 511
def JE (c : Clm) : Bool := decide (0 ≤ c.flow ∧ c.flow ≤ 255 ∧ 1 ≤ c.routes.length ∧ c.routes.length ≤ 2 ∧ c.bounds.length = c.routes.length ∧ c.worst.length = c.routes.length ∧ c.slots.length = c.routes.length) &&
  inL c.bounds 1 512 && inL c.worst 0 511 && (List.range c.routes.length).all fun i => rtOk (rtAt c.routes i) (rtAt c.slots i)
def Yf3 (c : List Clm) (i : Nat) : Bool := JE (Jj c i) && (decide (i = 0) || decide ((Jj c (i - 1)).flow < (Jj c i).flow))
def VK (c : List Clm) : Bool := decide (c.length ≤ 16) && (List.range c.length).all (Yf3 c)
def Yex (c : Clm) (i : Nat) : List (List UInt8) :=
  YM wordR (rtAt c.routes i) :: ((if i < c.bounds.length then [YM wordB [c.bounds.getD i 0, c.worst.getD i 0]] else []) ++ (if i < c.slots.length then [YM wordL (rtAt c.slots i)] else []))
def Zw (c : Clm) : List (List UInt8) := YM wordF [c.flow] :: (List.range c.routes.length).flatMap (Yex c)
def OQ (c : List Clm) : List UInt8 := (c.flatMap Zw).flatMap fun p => p ++ [10]
def Uk (c : List Clm) : List UInt8 × Int := if VK c = false then ([], 1) else (OQ c, 0)
structure Pst where
  c : List Clm
  last : Nat
def OG (c : List Clm) : Clm := Jj c (c.length - 1)
def Z3 (p : Pst) (k : Nat) : Bool := decide (p.last = Xd k) || (decide (k = 1) && decide (p.last = 3) && decide (0 < p.c.length) && decide ((OG p.c).routes.length < 2))
def YY (k : Nat) (l : List Int) (x : Clm) : Clm :=
  if k = 1 then ⟨x.flow, x.routes ++ [l], x.bounds, x.worst, x.slots⟩ else if k = 2 then ⟨x.flow, x.routes, x.bounds ++ [l.getD 0 0], x.worst ++ [l.getD 1 0], x.slots⟩ else ⟨x.flow, x.routes, x.bounds, x.worst, x.slots ++ [l]⟩
def Ql (c : List Clm) (x : Clm) : List Clm := c.take (c.length - 1) ++ [x]
def ZU (k : Nat) (l : List Int) (c : List Clm) : List Clm := if k = 0 then c ++ [⟨l.getD 0 0, [], [], [], []⟩] else Ql c (YY k l (OG c))
def Yal (p : Pst) (line : List UInt8) (k : Nat) : Option Pst :=
  match J3 (cutC 32 line).tail with
  | none => none
  | some l => if JM k ≤ l.length ∧ l.length ≤ Ug k ∧ Z3 p k = true then some ⟨ZU k l p.c, k⟩ else none
def Vm (w : List UInt8) : Option Nat := if w = wordF then some 0 else if w = wordR then some 1 else if w = wordB then some 2 else if w = wordL then some 3 else none
def Zj (p : Pst) (line : List UInt8) : Option Pst :=
  match Vm ((cutC 32 line).headD []) with
  | none => none
  | some k => Yal p line k
def runL : List (List UInt8) → Pst → Option Pst
  | [], p => some p
  | l :: ls, p => match Zj p l with | none => none | some p' => runL ls p'
def startP : Pst := ⟨[], 3⟩
def JI (ls : List (List UInt8)) (k : Nat) : Option Pst := runL (ls.take k) startP
def badL (ls : List (List UInt8)) (i : Nat) : Int := if (JI ls (i + 1)).isNone = true then 3 else 0
def Wz (ls : List (List UInt8)) (k : Nat) : Pst := (JI ls k).getD startP
def Wy (ls : List (List UInt8)) : List Clm × (Int × Int) :=
  if (YF (badL ls) (ls.length - 1) 0).2 ≠ 0 then ([], YF (badL ls) (ls.length - 1) 0)
  else if XB ls (ls.length - 1) ≠ [] ∨ (Wz ls (ls.length - 1)).last ≠ 3 then ([], (((ls.length - 1 : Nat) : Int), 3))
  else if VK (Wz ls (ls.length - 1)).c = false then ([], (-1, 1)) else ((Wz ls (ls.length - 1)).c, (-1, 0))
def W7 (text : List UInt8) : List Clm × (Int × Int) := Wy (cutC 10 text)
theorem J4 : ∀ (l m : List (List UInt8)) (p : Pst), runL (l ++ m) p = (runL l p).bind (runL m)
  | [], m, p => rfl
  | x :: l, m, p => by
    rw [List.cons_append]
    unfold runL
    cases Zj p x with
    | none => rfl
    | some p' => exact J4 l m p'
theorem Yi3 {ls : List (List UInt8)} {k : Nat} {p : Pst} (hk : k < ls.length) (h : JI ls k = some p) : JI ls (k + 1) = Zj p (XB ls k) := by
  unfold JI at h ⊢
  rw [Yea hk, J4, h]
  show runL [XB ls k] p = _
  unfold runL
  cases Zj p (XB ls k) <;> rfl
theorem YaU {k : Nat} (hk : k < 4) : Vm (XO k) = some k ∧ (32 : UInt8) ∉ XO k ∧ (10 : UInt8) ∉ XO k := by
  match k, hk with
  | 0, _ => decide
  | 1, _ => decide
  | 2, _ => decide
  | 3, _ => decide
theorem UB {p : Pst} {k : Nat} {l : List Int} (hk : k < 4) (hl : ∀ n ∈ l, 0 ≤ n ∧ n < 10000) (h1 : JM k ≤ l.length ∧ l.length ≤ Ug k) (hf : Z3 p k = true) : Zj p (YM (XO k) l) = some ⟨ZU k l p.c, k⟩ := by
  obtain ⟨w1, w2, _⟩ := YaU hk
  have hr := Yhq w2 hl
  unfold Yay at hr
  split at hr
  · cases hr
  rename_i h
  have hh : (cutC 32 (YM (XO k) l)).headD [] = XO k := Decidable.byContradiction fun e => h (.inr e)
  unfold Zj
  rw [hh, w1]
  show Yal p _ k = _
  unfold Yal
  rw [hr]
  show (if _ then _ else _) = _
  rw [if_pos ⟨h1.1, h1.2, hf⟩]
structure VG (c : Clm) : Prop where
  f : 0 ≤ c.flow ∧ c.flow ≤ 255
  n : 1 ≤ c.routes.length ∧ c.routes.length ≤ 2
  b : c.bounds.length = c.routes.length
  w : c.worst.length = c.routes.length
  s : c.slots.length = c.routes.length
  bs : ∀ x ∈ c.bounds, 1 ≤ x ∧ x ≤ 512
  ws : ∀ x ∈ c.worst, 0 ≤ x ∧ x ≤ 511
  rs : ∀ i, i < c.routes.length → 2 ≤ (rtAt c.routes i).length ∧ (rtAt c.routes i).length ≤ 9 ∧ ∀ x ∈ rtAt c.routes i, 0 ≤ x ∧ x ≤ 31
  ls : ∀ i, i < c.routes.length → 1 ≤ (rtAt c.slots i).length ∧ (rtAt c.slots i).length ≤ 64 ∧ ∀ x ∈ rtAt c.slots i, 0 ≤ x ∧ x ≤ 511
theorem Qd {l : List Int} {a b : Int} : inL l a b = true ↔ ∀ x ∈ l, a ≤ x ∧ x ≤ b := by
  unfold inL; rw [List.all_eq_true]; simp
theorem Yfk {c : Clm} : JE c = true ↔ VG c := by
  unfold JE
  simp only [Bool.and_eq_true, decide_eq_true_eq, Qd, List.all_eq_true, List.mem_range]
  constructor
  · rintro ⟨⟨⟨⟨h1, h2, h3, h4, h5, h6, h7⟩, h8⟩, h9⟩, h10⟩
    have hr : ∀ i, i < c.routes.length → _ := fun i hi => h10 i hi
    refine ⟨⟨h1, h2⟩, ⟨h3, h4⟩, h5, h6, h7, h8, h9, fun i hi => ?_, fun i hi => ?_⟩
    · have := hr i hi
      unfold rtOk at this
      simp only [Bool.and_eq_true, decide_eq_true_eq, Qd] at this
      exact ⟨this.1.1.1.1, this.1.1.1.2, this.1.1.2⟩
    · have := hr i hi
      unfold rtOk at this
      simp only [Bool.and_eq_true, decide_eq_true_eq, Qd] at this
      exact ⟨this.1.2.1, this.1.2.2, this.2⟩
  · intro h
    refine ⟨⟨⟨⟨h.f.1, h.f.2, h.n.1, h.n.2, h.b, h.w, h.s⟩, h.bs⟩, h.ws⟩, fun i hi => ?_⟩
    have h1 := h.rs i hi
    have h2 := h.ls i hi
    unfold rtOk
    simp only [Bool.and_eq_true, decide_eq_true_eq, Qd]
    exact ⟨⟨⟨⟨h1.1, h1.2.1⟩, h1.2.2⟩, h2.1, h2.2.1⟩, h2.2.2⟩
theorem Y5 (c : List Clm) (x : Clm) : OG (c ++ [x]) = x ∧ ∀ y, Ql (c ++ [x]) y = c ++ [y] := by
  unfold OG Ql Jj
  rw [List.length_append, List.length_singleton, Nat.add_sub_cancel]
  exact ⟨by rw [List.getD_eq_getElem?_getD, List.getElem?_append_right (Nat.le_refl _)]; simp, fun y => by rw [List.take_left' rfl]⟩
theorem YaF {cs : List Clm} {x : Clm} {last : Nat} {r sl : List Int} {b w : Int} (hlast : last = 0 ∨ (last = 3 ∧ x.routes.length < 2)) (hr : 2 ≤ r.length ∧ r.length ≤ 9 ∧ ∀ z ∈ r, 0 ≤ z ∧ z ≤ 31) (hs : 1 ≤ sl.length ∧ sl.length ≤ 64 ∧ ∀ z ∈ sl, 0 ≤ z ∧ z ≤ 511)
    (hb : 1 ≤ b ∧ b ≤ 512) (hw : 0 ≤ w ∧ w ≤ 511) : runL [YM wordR r, YM wordB [b, w], YM wordL sl] ⟨cs ++ [x], last⟩ = some ⟨cs ++ [⟨x.flow, x.routes ++ [r], x.bounds ++ [b], x.worst ++ [w], x.slots ++ [sl]⟩], 3⟩ := by
  have h1 : Zj ⟨cs ++ [x], last⟩ (YM wordR r) = some ⟨cs ++ [YY 1 r x], 1⟩ := by
    have := UB (p := ⟨cs ++ [x], last⟩) (k := 1) (l := r) (by omega) (fun n hn => by have := hr.2.2 n hn; omega) ⟨by show 2 ≤ _; exact hr.1, by show _ ≤ 9; exact hr.2.1⟩ (by
      unfold Z3 Xd
      simp only [(Y5 cs x).1]
      rcases hlast with rfl | ⟨rfl, h⟩
      · rfl
      · simp [h])
    rw [show XO 1 = wordR from rfl] at this
    rw [this]
    unfold ZU
    rw [if_neg (by decide), (Y5 cs x).1, (Y5 cs x).2]
  have h2 : ∀ y, Zj ⟨cs ++ [y], 1⟩ (YM wordB [b, w]) = some ⟨cs ++ [YY 2 [b, w] y], 2⟩ := fun y => by
    have := UB (p := ⟨cs ++ [y], 1⟩) (k := 2) (l := [b, w]) (by omega) (fun n hn => by
      simp only [List.mem_cons, List.not_mem_nil, or_false] at hn
      rcases hn with rfl | rfl <;> omega) ⟨Nat.le_refl 2, Nat.le_refl 2⟩ rfl
    rw [show XO 2 = wordB from rfl] at this
    rw [this]
    unfold ZU
    rw [if_neg (by decide), (Y5 cs y).1, (Y5 cs y).2]
  have h3 : ∀ y, Zj ⟨cs ++ [y], 2⟩ (YM wordL sl) = some ⟨cs ++ [YY 3 sl y], 3⟩ := fun y => by
    have := UB (p := ⟨cs ++ [y], 2⟩) (k := 3) (l := sl) (by omega) (fun n hn => by have := hs.2.2 n hn; omega) ⟨by show 1 ≤ _; exact hs.1, by show _ ≤ 64; exact hs.2.1⟩ rfl
    rw [show XO 3 = wordL from rfl] at this
    rw [this]
    unfold ZU
    rw [if_neg (by decide), (Y5 cs y).1, (Y5 cs y).2]
  unfold runL; rw [h1]; dsimp only
  unfold runL; rw [h2]; dsimp only
  unfold runL; rw [h3]; dsimp only
  unfold runL
  rfl
theorem Yhv {c : Clm} (h : VG c) (cs : List Clm) : runL (Zw c) ⟨cs, 3⟩ = some ⟨cs ++ [c], 3⟩ := by
  obtain ⟨fl, rs, bs, ws, ls⟩ := c
  have hf := h.f; have hn := h.n; have hb := h.b; have hw := h.w; have hs := h.s; have hbs := h.bs; have hws := h.ws; have hrs := h.rs; have hls := h.ls
  dsimp only at hf hn hb hw hs hbs hws hrs hls
  have h0 : Zj ⟨cs, 3⟩ (YM wordF [fl]) = some ⟨cs ++ [⟨fl, [], [], [], []⟩], 0⟩ := by
    have := UB (p := ⟨cs, 3⟩) (k := 0) (l := [fl]) (by omega) (fun n hn => by obtain rfl := List.mem_singleton.1 hn; omega) ⟨Nat.le_refl 1, Nat.le_refl 1⟩ rfl
    rw [show XO 0 = wordF from rfl] at this
    rw [this]; rfl
  unfold Zw
  unfold runL
  rw [h0]
  dsimp only
  match rs, bs, ws, ls, hn, hb, hw, hs, hbs, hws, hrs, hls with
  | [r], [b], [w], [sl], _, _, _, _, hbs, hws, hrs, hls =>
    exact YaF (x := ⟨fl, [], [], [], []⟩) (.inl rfl) (hrs 0 (by simp)) (hls 0 (by simp)) (hbs b (by simp)) (hws w (by simp))
  | [r, r2], [b, b2], [w, w2], [sl, sl2], _, _, _, _, hbs, hws, hrs, hls =>
    show runL ([YM wordR r, YM wordB [b, w], YM wordL sl] ++ [YM wordR r2, YM wordB [b2, w2], YM wordL sl2]) _ = _
    have h1 := YaF (cs := cs) (x := ⟨fl, [], [], [], []⟩) (r := r) (sl := sl) (.inl rfl) (hrs 0 (by simp)) (hls 0 (by simp)) (hbs b (by simp)) (hws w (by simp))
    rw [J4, h1]
    exact YaF (x := ⟨fl, [r], [b], [w], [sl]⟩) (.inr ⟨rfl, by simp⟩) (hrs 1 (by simp)) (hls 1 (by simp)) (hbs b2 (by simp)) (hws w2 (by simp))
theorem YaE : ∀ (l cs : List Clm), (∀ c ∈ l, VG c) → runL (l.flatMap Zw) ⟨cs, 3⟩ = some ⟨cs ++ l, 3⟩
  | [], cs, _ => by simp [runL]
  | c :: l, cs, h => by
    rw [List.flatMap_cons, J4, Yhv (h c (by simp)) cs]
    show runL _ _ = _
    rw [YaE l _ fun x hx => h x (by simp [hx])]
    simp
theorem Ye8 {c : List Clm} {i : Nat} (h : i < c.length) : c[i]? = some (Jj c i) := by
  unfold Jj; rw [List.getD_eq_getElem?_getD, List.getElem?_eq_getElem h]; rfl
theorem Yd2 {c : List Clm} (h : VK c = true) : c.length ≤ 16 ∧ ∀ x ∈ c, VG x := by
  unfold VK at h
  rw [Bool.and_eq_true, decide_eq_true_eq] at h
  refine ⟨h.1, fun x hx => ?_⟩
  obtain ⟨i, hi⟩ := List.mem_iff_getElem?.1 hx
  have hl := (List.getElem?_eq_some_iff.1 hi).1
  have := List.all_eq_true.1 h.2 i (List.mem_range.2 hl)
  unfold Yf3 at this
  rw [Bool.and_eq_true] at this
  have e : Jj c i = x := Option.some.inj ((Ye8 hl).symm.trans hi)
  rw [e] at this
  exact Yfk.1 this.1
theorem Ux {l : List Int} {i : Nat} (h : i < l.length) : l.getD i 0 ∈ l := by
  rw [List.getD_eq_getElem?_getD, List.getElem?_eq_getElem h]; exact List.getElem_mem h
theorem Yhs {c : Clm} (h : VG c) : ∀ p ∈ Zw c, (10 : UInt8) ∉ p := by
  intro p hp
  unfold Zw at hp
  rcases List.mem_cons.1 hp with rfl | hp
  · exact Uv (by decide) fun n hn => by obtain rfl := List.mem_singleton.1 hn; exact h.f.1
  · obtain ⟨i, hi, hp⟩ := List.mem_flatMap.1 hp
    have hi := List.mem_range.1 hi
    unfold Yex at hp
    rcases List.mem_cons.1 hp with rfl | hp
    · exact Uv (by decide) fun n hn => ((h.rs i hi).2.2 n hn).1
    rcases List.mem_append.1 hp with hp | hp
    · rw [if_pos (by rw [h.b]; exact hi)] at hp
      obtain rfl := List.mem_singleton.1 hp
      refine Uv (by decide) fun n hn => ?_
      simp only [List.mem_cons, List.not_mem_nil, or_false] at hn
      rcases hn with rfl | rfl
      · have := h.bs _ (Ux (l := c.bounds) (i := i) (by rw [h.b]; exact hi)); omega
      · exact (h.ws _ (Ux (l := c.worst) (i := i) (by rw [h.w]; exact hi))).1
    · rw [if_pos (by rw [h.s]; exact hi)] at hp
      obtain rfl := List.mem_singleton.1 hp
      exact Uv (by decide) fun n hn => ((h.ls i hi).2.2 n hn).1
theorem YgT {c : List Clm} (h : ∀ x ∈ c, VG x) : cutC 10 (OQ c) = c.flatMap Zw ++ [[]] := by
  unfold OQ
  rw [← Yag]
  refine QP (by simp) fun p hp => ?_
  rcases List.mem_append.1 hp with hp | hp
  · obtain ⟨x, hx, hp⟩ := List.mem_flatMap.1 hp
    exact Yhs (h x hx) p hp
  · obtain rfl := List.mem_singleton.1 hp
    exact List.not_mem_nil
theorem YcR {c : List Clm} (h : VK c = true) : W7 (OQ c) = (c, (-1, 0)) := by
  obtain ⟨h1, h2⟩ := Yd2 h
  obtain ⟨ls, hls⟩ : ∃ ls, c.flatMap Zw = ls := ⟨_, rfl⟩
  have hrun : runL ls startP = some ⟨c, 3⟩ := by rw [← hls]; exact YaE c [] h2
  have hl : (ls ++ [[]]).length - 1 = ls.length := by simp
  have hat : JI (ls ++ [[]]) ls.length = some ⟨c, 3⟩ := by unfold JI; rw [List.take_left' rfl]; exact hrun
  have hbad : (YF (badL (ls ++ [[]])) ls.length 0).2 = 0 := Y2.2 fun k _ hk => by
    unfold badL JI
    have h4 : runL (ls.take (k + 1)) startP ≠ none := fun e => by
      have : runL (ls.take (k + 1) ++ ls.drop (k + 1)) startP = some ⟨c, 3⟩ := by rw [List.take_append_drop]; exact hrun
      rw [J4, e] at this
      cases this
    rw [List.take_append_of_le_length (by omega)]
    cases hr : runL (ls.take (k + 1)) startP with
    | none => exact absurd hr h4
    | some p => rfl
  have hlast : XB (ls ++ [[]]) ls.length = [] := by
    unfold XB
    rw [List.getD_eq_getElem?_getD, List.getElem?_append_right (Nat.le_refl _)]
    simp
  unfold W7 Wy
  rw [YgT h2, hls, hl, if_neg (fun e => e hbad), hlast]
  unfold Wz
  rw [hat, if_neg (by rintro (e | e) <;> exact e rfl), Option.getD_some, if_neg (by rw [h]; decide)]
structure Rdr (p : Pst) : Prop where
  full : ∀ i x, p.c[i]? = some x → i + 1 < p.c.length → x.bounds.length = x.routes.length ∧ x.worst.length = x.routes.length ∧ x.slots.length = x.routes.length ∧ 1 ≤ x.routes.length ∧ x.routes.length ≤ 2
  some_ : p.c = [] → p.last = 3
  at_ : ∀ cs x, p.c = cs ++ [x] →
    (p.last = 0 ∧ x.routes = [] ∧ x.bounds = [] ∧ x.worst = [] ∧ x.slots = []) ∨
    (p.last = 1 ∧ 1 ≤ x.routes.length ∧ x.routes.length ≤ 2 ∧ x.bounds.length + 1 = x.routes.length ∧ x.worst.length + 1 = x.routes.length ∧ x.slots.length + 1 = x.routes.length) ∨
    (p.last = 2 ∧ 1 ≤ x.routes.length ∧ x.routes.length ≤ 2 ∧ x.bounds.length = x.routes.length ∧ x.worst.length = x.routes.length ∧ x.slots.length + 1 = x.routes.length) ∨
    (p.last = 3 ∧ 1 ≤ x.routes.length ∧ x.routes.length ≤ 2 ∧ x.bounds.length = x.routes.length ∧ x.worst.length = x.routes.length ∧ x.slots.length = x.routes.length)
theorem Yhc {w : List UInt8} {k : Nat} (h : Vm w = some k) : k < 4 ∧ w = XO k := by
  unfold Vm at h
  split at h
  · rename_i e; cases h; exact ⟨by omega, e⟩
  split at h
  · rename_i e; cases h; exact ⟨by omega, e⟩
  split at h
  · rename_i e; cases h; exact ⟨by omega, e⟩
  split at h
  · rename_i e; cases h; exact ⟨by omega, e⟩
  cases h
theorem YbY {p p' : Pst} {line : List UInt8} (h : Zj p line = some p') : ∃ k l, k < 4 ∧ line = YM (XO k) l ∧ JM k ≤ l.length ∧ l.length ≤ Ug k ∧ Z3 p k = true ∧ p' = ⟨ZU k l p.c, k⟩ := by
  unfold Zj at h
  split at h
  · cases h
  rename_i k hk
  obtain ⟨hk4, hw⟩ := Yhc hk
  unfold Yal at h
  split at h
  · cases h
  rename_i l hl
  split at h
  · rename_i hc
    refine ⟨k, l, hk4, ?_, hc.1, hc.2.1, hc.2.2, (Option.some.inj h).symm⟩
    have hll : l.length = (cutC 32 line).length - 1 := by
      unfold J3 at hl
      split at hl
      · cases hl
      · have := Option.some.inj hl
        rw [← this, List.length_map, List.length_tail]
    have hne := WR 32 line
    have hpos : 1 ≤ (cutC 32 line).length := by
      cases hx : cutC 32 line with
      | nil => exact absurd hx hne
      | cons _ _ => simp
    have hr : Yay line (XO k) l.length = some l := by
      unfold Yay
      rw [if_neg (by rintro (e | e) <;> first | exact absurd hw e | omega)]
      exact hl
    exact (Yhr hr).1
  · cases h
theorem WG {α : Type} {l : List α} (h : l ≠ []) : ∃ cs x, l = cs ++ [x] := ⟨l.dropLast, l.getLast h, (List.dropLast_concat_getLast h).symm⟩
theorem Rdr.start : Rdr startP := ⟨fun i x h => by simp [startP] at h, fun _ => rfl, fun cs x h => by simp [startP] at h⟩
theorem Yg3 {cs : List Clm} {x y : Clm} {P : Clm → Prop} (h : ∀ i z, (cs ++ [x])[i]? = some z → i + 1 < (cs ++ [x]).length → P z) : ∀ i z, (cs ++ [y])[i]? = some z → i + 1 < (cs ++ [y]).length → P z := fun i z hz hi => by
  rw [List.length_append, List.length_singleton] at hi
  rw [List.getElem?_append_left (by omega)] at hz
  exact h i z (by rw [List.getElem?_append_left (by omega)]; exact hz) (by rw [List.length_append, List.length_singleton]; omega)
theorem le12 : 1 ≤ 2 := by decide
theorem Yi5 {p p' : Pst} {line : List UInt8} (h : Rdr p) (hl : Zj p line = some p') : Rdr p' ∧ p'.c.flatMap Zw = p.c.flatMap Zw ++ [line] := by
  obtain ⟨k, l, hk, rfl, hl1, hl2, hf, rfl⟩ := YbY hl
  obtain ⟨c, last⟩ := p
  have hfull := h.full; have hsome := h.some_; have hat := h.at_
  dsimp only at hfull hsome hat hf ⊢
  have hone : ∀ {cs cs' : List Clm} {x x' : Clm}, cs ++ [x] = cs' ++ [x'] → x = x' := fun e => by
    have := (List.append_inj' e rfl).2; simpa using this
  match k, hk with
  | 0, _ =>
    have hl3 : last = 3 := by
      unfold Z3 at hf
      simpa [Xd] using hf
    subst hl3
    match l, hl1, hl2 with
    | [f], _, _ =>
      have e : ZU 0 [f] c = c ++ [⟨f, [], [], [], []⟩] := rfl
      rw [e]
      refine ⟨⟨fun i x hx hi => ?_, fun e => by simp at e, fun cs x he => ?_⟩, by rw [List.flatMap_append]; simp [Zw, XO]⟩
      · dsimp only at hx hi
        rw [List.length_append, List.length_singleton] at hi
        rw [List.getElem?_append_left (by omega)] at hx
        by_cases hi2 : i + 1 < c.length
        · exact hfull i x hx hi2
        · obtain ⟨cs, y, hc⟩ := WG (l := c) (fun e => by rw [e] at hi; simp at hi)
          have hcl : c.length = cs.length + 1 := by rw [hc]; simp
          rw [hc, List.getElem?_append_right (by omega), show i - cs.length = 0 by omega] at hx
          obtain rfl := Option.some.inj hx
          rcases hat cs y hc with h | h | h | h
          · omega
          · omega
          · omega
          · exact ⟨h.2.2.2.1, h.2.2.2.2.1, h.2.2.2.2.2, h.2.1, h.2.2.1⟩
      · dsimp only at he
        obtain rfl := hone he
        exact .inl ⟨rfl, rfl, rfl, rfl, rfl⟩
  | k + 1, hk =>
    have hne : c ≠ [] := fun e => by
      have h3 := hsome e
      subst h3; subst e
      unfold Z3 Xd at hf
      simp at hf
      omega
    obtain ⟨cs, x, rfl⟩ := WG hne
    have e : ZU (k + 1) l (cs ++ [x]) = cs ++ [YY (k + 1) l x] := by
      unfold ZU
      rw [if_neg (by omega), (Y5 cs x).1, (Y5 cs x).2]
    rw [e]
    have hx := hat cs x rfl
    have key : (∀ cs' x', cs ++ [YY (k + 1) l x] = cs' ++ [x'] → x' = YY (k + 1) l x) := fun cs' x' he => (hone he).symm
    suffices hs : Zw (YY (k + 1) l x) = Zw x ++ [YM (XO (k + 1)) l] ∧
        ((k + 1 = 1 ∧ 1 ≤ (YY (k + 1) l x).routes.length ∧ (YY (k + 1) l x).routes.length ≤ 2 ∧ (YY (k + 1) l x).bounds.length + 1 = (YY (k + 1) l x).routes.length ∧ (YY (k + 1) l x).worst.length + 1 = (YY (k + 1) l x).routes.length ∧ (YY (k + 1) l x).slots.length + 1 = (YY (k + 1) l x).routes.length) ∨
        (k + 1 = 2 ∧ 1 ≤ (YY (k + 1) l x).routes.length ∧ (YY (k + 1) l x).routes.length ≤ 2 ∧ (YY (k + 1) l x).bounds.length = (YY (k + 1) l x).routes.length ∧ (YY (k + 1) l x).worst.length = (YY (k + 1) l x).routes.length ∧ (YY (k + 1) l x).slots.length + 1 = (YY (k + 1) l x).routes.length) ∨
        (k + 1 = 3 ∧ 1 ≤ (YY (k + 1) l x).routes.length ∧ (YY (k + 1) l x).routes.length ≤ 2 ∧ (YY (k + 1) l x).bounds.length = (YY (k + 1) l x).routes.length ∧ (YY (k + 1) l x).worst.length = (YY (k + 1) l x).routes.length ∧ (YY (k + 1) l x).slots.length = (YY (k + 1) l x).routes.length)) by
      refine ⟨⟨Yg3 hfull, fun e => by simp at e, fun cs' x' he => .inr ?_⟩, ?_⟩
      · rw [key cs' x' he]; exact hs.2
      · rw [List.flatMap_append, List.flatMap_append, List.append_assoc]
        simp [hs.1]
    obtain ⟨fl, rs, bs, ws, ss⟩ := x
    dsimp only at hx
    match k, hk with
    | 0, _ =>
      have hc : (last = 0 ∧ rs = [] ∧ bs = [] ∧ ws = [] ∧ ss = []) ∨ (last = 3 ∧ rs.length = 1 ∧ bs.length = 1 ∧ ws.length = 1 ∧ ss.length = 1) := by
        unfold Z3 Xd at hf
        simp only [(Y5 cs _).1] at hf
        simp at hf
        rcases hx with h | h | h | h
        · exact .inl h
        · omega
        · omega
        · exact .inr (by omega)
      rcases hc with ⟨_, rfl, rfl, rfl, rfl⟩ | ⟨_, h1, h2, h3, h4⟩
      · exact ⟨rfl, .inl ⟨rfl, Nat.le_refl 1, le12, rfl, rfl, rfl⟩⟩
      · match rs, bs, ws, ss, h1, h2, h3, h4 with
        | [r], [b], [w], [s], _, _, _, _ => exact ⟨rfl, .inl ⟨rfl, le12, Nat.le_refl 2, rfl, rfl, rfl⟩⟩
    | 1, _ =>
      have hc : last = 1 := by
        unfold Z3 Xd at hf
        simpa using hf
      have hx : 1 ≤ rs.length ∧ rs.length ≤ 2 ∧ bs.length + 1 = rs.length ∧ ws.length + 1 = rs.length ∧ ss.length + 1 = rs.length := by
        rcases hx with h | h | h | h <;> first | exact h.2 | omega
      match l, hl1, hl2 with
      | [b, w], _, _ =>
        match rs, bs, ws, ss, hx with
        | [r], [], [], [], _ => exact ⟨rfl, .inr (.inl ⟨rfl, Nat.le_refl 1, le12, rfl, rfl, rfl⟩)⟩
        | [r, r2], [b0], [w0], [s0], _ => exact ⟨rfl, .inr (.inl ⟨rfl, le12, Nat.le_refl 2, rfl, rfl, rfl⟩)⟩
    | 2, _ =>
      have hc : last = 2 := by
        unfold Z3 Xd at hf
        simpa using hf
      have hx : 1 ≤ rs.length ∧ rs.length ≤ 2 ∧ bs.length = rs.length ∧ ws.length = rs.length ∧ ss.length + 1 = rs.length := by
        rcases hx with h | h | h | h <;> first | exact h.2 | omega
      match rs, bs, ws, ss, hx with
      | [r], [b], [w], [], _ => exact ⟨rfl, .inr (.inr ⟨rfl, Nat.le_refl 1, le12, rfl, rfl, rfl⟩)⟩
      | [r, r2], [b, b2], [w, w2], [s0], _ => exact ⟨rfl, .inr (.inr ⟨rfl, le12, Nat.le_refl 2, rfl, rfl, rfl⟩)⟩
theorem Ygu : ∀ (ls : List (List UInt8)) {p p' : Pst}, Rdr p → runL ls p = some p' → Rdr p' ∧ p'.c.flatMap Zw = p.c.flatMap Zw ++ ls
  | [], p, p', h, hr => by
    cases hr
    exact ⟨h, by simp⟩
  | l :: ls, p, p', h, hr => by
    unfold runL at hr
    cases hl : Zj p l with
    | none => rw [hl] at hr; cases hr
    | some q =>
      rw [hl] at hr
      obtain ⟨h1, h2⟩ := Yi5 h hl
      obtain ⟨h3, h4⟩ := Ygu ls h1 hr
      exact ⟨h3, by rw [h4, h2]; simp⟩
open Go.RowKit Go.Eng Go.Nw Go.Rt
theorem Ya6 (z a b : Int) (ga gb : Nat) {B : Nat} {w0 : World} {H : List HP} {w : World} (h1 : blk ga (.cells #[.int .i64 a] 3 (0, 0)) ∈ H) (h2 : blk gb (.cells #[.int .i64 b] 3 (0, 0)) ∈ H) (hw : St B w0 H w) :
    Calls Tryz.prog 238 [.int .i64 z, .pointer (some ⟨ga, 0, none⟩), .pointer (some ⟨gb, 0, none⟩)].toArray w (Post B w0 fun v K => v = .bool (!decide (a ≤ z ∧ z ≤ b)) ∧ K = H) := by
  refine Yc Tryz.func238 Tryz.ntmps238 rfl rfl hw ?_
  by_cases h : a ≤ z ∧ z ≤ b
  · rw [decide_eq_true h]
    repeat' (first | refine zgc ?_ | (refine zge ?_ ?_ <;> intro _ <;> try (exfalso; omega)) | fail)
    apply Yd; exact rfl; exact rfl; exact ⟨rfl, rfl⟩
  · rw [decide_eq_false h]
    repeat' (first | refine zgc ?_ | (refine zge ?_ ?_ <;> intro _ <;> try (exfalso; omega)) | fail)
    all_goals (apply Yd; exact rfl; exact rfl; exact ⟨rfl, rfl⟩)
theorem Z6 (l : List Int) (a b : Int) (hl : l.length ≤ 1000000000000) {A : Option Addr} {cap B : Nat} {w0 : World} {H : List HP} {w : World} (hr : Rd B w0 H A (l.flatMap numF)) (hw : St B w0 H w) :
    Calls Tryz.prog 195 [.slice A l.length cap, .int .i64 a, .int .i64 b].toArray w (Post B w0 fun v K => v = .bool (inL l a b) ∧ K = H) := by
  refine Yc Tryz.func195 Tryz.ntmps195 rfl rfl hw ?_
  have e1 : inL l a b = !(l.any fun z => !decide (a ≤ z ∧ z ≤ b)) := by
    unfold inL
    rw [List.not_any_eq_all_not]
    exact congrArg _ (funext fun z => (Bool.not_not _).symm)
  rw [e1]
  obtain ⟨o, ho⟩ : ∃ o, (l.any fun z => !decide (a ≤ z ∧ z ≤ b)) = o := ⟨_, rfl⟩
  rw [ho]
  repeat' (first | (apply zg29; (apply Yq; exact za ; exact rfl)) | refine zga ?_ | (refine zgh ?_; intro _) | fail)
  rename_i ga gb
  have p1 : ∀ w, St B w0 (blk gb (.cells #[.int .i64 b] 3 (0, 0)) :: blk ga (.cells #[.int .i64 a] 3 (0, 0)) :: H) w → Calls Tryz.prog 164 [.slice A l.length cap, .func (.func 238) #[] [Value.pointer (some ⟨ga, 0, none⟩), Value.pointer (some ⟨gb, 0, none⟩)].toArray].toArray w (Post B w0 fun v K => v = .bool o ∧ K = blk gb (.cells #[.int .i64 b] 3 (0, 0)) :: blk ga (.cells #[.int .i64 a] 3 (0, 0)) :: H) := fun w hw => by
    have h := ZC (fun z => Value.int .i64 z) (fun z => !decide (a ≤ z ∧ z ≤ b)) l 238 [.pointer (some ⟨ga, 0, none⟩), .pointer (some ⟨gb, 0, none⟩)] Yl3 (by omega) (cap := cap) (show Rd B w0 _ A (l.flatMap numF) from hr.cons.cons) (fun z _ w hw => Ya6 z a b ga gb (.tail _ (.head _)) (.head _) hw) hw
    rw [ho] at h
    exact h
  cases o <;> (
    first | apply Ya YbB | apply Yb YbB
    exact za
    exact rfl
    exact fun _ hw => (p1 _ hw)
    repeat' (first | refine zgd ?_ | fail)
    apply Yi H
    · exact zk
    apply Yd; exact rfl; exact rfl; exact ⟨rfl, rfl⟩)
theorem UE {rs : List RowM} {k : Nat} {r : RowM} (h : rs[k]? = some r) : rtAt (rs.map (·.xs)) k = r.xs := by
  have h2 : (rs.map (·.xs))[k]? = some r.xs := by rw [List.getElem?_map, h]; rfl
  exact Option.some.inj ((Ob (List.getElem?_eq_some_iff.1 h2).1).symm.trans h2)
set_option maxRecDepth 10000 in
set_option maxHeartbeats 8000000 in
theorem Ycw (c : ClM) {B : Nat} {w0 : World} {H : List HP} {w : World} (hc : c.In B w0 H) (hw : St B w0 H w) :
    Calls Tryz.prog 135 [clV c].toArray w (Post B w0 fun v K => v = .bool (JE c.clm) ∧ K = H) := by
  refine Yc Tryz.func135 Tryz.ntmps135 rfl rfl hw ?_
  obtain ⟨hl1, hl2, hl3, hl4⟩ := hc.ln
  have q1 := fun {H' : List HP} {w : World} (hc : c.In B w0 H') (hw : St B w0 H' w) => Z6 c.bs 1 512 hl2 (cap := c.bcap) hc.bd hw
  have q2 := fun {H' : List HP} {w : World} (hc : c.In B w0 H') (hw : St B w0 H' w) => Z6 c.ws 0 511 hl3 (cap := c.wcap) hc.ws hw
  obtain ⟨F, hF⟩ : ∃ F, JE c.clm = F := ⟨_, rfl⟩
  have hFe : F = (decide (0 ≤ c.flow ∧ c.flow ≤ 255 ∧ 1 ≤ c.rs.length ∧ c.rs.length ≤ 2 ∧ c.bs.length = c.rs.length ∧ c.ws.length = c.rs.length ∧ c.ss.length = c.rs.length) && inL c.bs 1 512 && inL c.ws 0 511 && (List.range c.rs.length).all fun i => rtOk (rtAt (c.rs.map (·.xs)) i) (rtAt (c.ss.map (·.xs)) i)) := by
    rw [← hF]
    unfold JE ClM.clm
    simp only [List.length_map]
  rw [hF]
  unfold clV
  obtain ⟨b1, hb1⟩ : ∃ b, inL c.bs 1 512 = b := ⟨_, rfl⟩
  obtain ⟨b2, hb2⟩ : ∃ b, inL c.ws 0 511 = b := ⟨_, rfl⟩
  rw [hb1] at q1 hFe
  rw [hb2] at q2 hFe
  by_cases hP : 0 ≤ c.flow ∧ c.flow ≤ 255 ∧ 1 ≤ c.rs.length ∧ c.rs.length ≤ 2 ∧ c.bs.length = c.rs.length ∧ c.ws.length = c.rs.length ∧ c.ss.length = c.rs.length
  rotate_left
  · rw [decide_eq_false hP] at hFe
    simp only [Bool.false_and] at hFe
    subst hFe
    repeat' (first | refine zgc ?_ | (refine zge ?_ ?_ <;> intro _ <;> try (exfalso; omega)) | (refine zgh ?_; intro _) | fail)
    all_goals (
      apply Yi H
      · exact zk
      apply Yd; exact rfl; exact rfl; exact ⟨rfl, rfl⟩)
  rw [decide_eq_true hP, Bool.true_and] at hFe
  obtain ⟨f0, f1, n1, n2, e1, e2, e3⟩ := hP
  cases b1 with
  | false =>
    simp only [Bool.false_and] at hFe
    subst hFe
    repeat' (first | refine zgc ?_ | (refine zge ?_ ?_ <;> intro _ <;> try (exfalso; omega)) | (refine zgh ?_; intro _) | fail)
    first | apply Ya XN | apply Yb XN
    exact za
    exact rfl
    exact fun _ hw => (q1 (hc.mono zk) hw)
    repeat' (first | refine zgd ?_ | fail)
    apply Yi H
    · exact zk
    apply Yd; exact rfl; exact rfl; exact ⟨rfl, rfl⟩
  | true =>
  cases b2 with
  | false =>
    simp only [Bool.false_and, Bool.and_false] at hFe
    subst hFe
    repeat' (first | refine zgc ?_ | (refine zge ?_ ?_ <;> intro _ <;> try (exfalso; omega)) | (refine zgh ?_; intro _) | fail)
    first | apply Ya XN | apply Yb XN
    exact za
    exact rfl
    exact fun _ hw => (q1 (hc.mono zk) hw)
    repeat' (first | refine zgc ?_ | fail)
    first | apply Ya XN | apply Yb XN
    exact za
    exact rfl
    exact fun _ hw => (q2 (hc.mono zk) hw)
    repeat' (first | refine zgd ?_ | fail)
    apply Yi H
    · exact zk
    apply Yd; exact rfl; exact rfl; exact ⟨rfl, rfl⟩
  | true =>
  simp only [Bool.true_and] at hFe
  repeat' (first | refine zgc ?_ | (refine zge ?_ ?_ <;> intro _ <;> try (exfalso; omega)) | (refine zgh ?_; intro _) | fail)
  rename_i g _ _ _ _ _ _ _
  first | apply Ya XN | apply Yb XN
  exact za
  exact rfl
  exact fun _ hw => (q1 (hc.mono zk) hw)
  repeat' (first | refine zgc ?_ | fail)
  first | apply Ya XN | apply Yb XN
  exact za
  exact rfl
  exact fun _ hw => (q2 (hc.mono zk) hw)
  repeat' (first | refine zgc ?_ | fail)
  obtain ⟨ok, hok⟩ : ∃ ok : Nat → Bool, (fun i => rtOk (rtAt (c.rs.map (·.xs)) i) (rtAt (c.ss.map (·.xs)) i)) = ok := ⟨_, rfl⟩
  rw [hok] at hFe
  refine Yl (fun k : Nat => [(61, .int .i64 (k : Nat)), (60, .int .i64 c.rs.length), (59, .slice c.rA c.rs.length c.rcap), (1, .pointer (some ⟨g, 0, none⟩))]) (fun _ => clA g c :: H) (fun k => k ≤ c.rs.length ∧ ∀ j, j < k → ok j = true) (fun k => c.rs.length - k) 0 ⟨Nat.zero_le _, fun j h => absurd h (Nat.not_lt_zero _)⟩ ?_ (fun w hw => hw) ?_
  · exact zu
  rintro k ⟨hk, hz⟩ K hK
  have hcr : Rd B w0 (clA g c :: H) c.rA (c.rs.flatMap rowF) := hc.rt.cons
  have hcs : Rd B w0 (clA g c :: H) c.sA (c.ss.flatMap rowF) := hc.st.cons
  by_cases hlt : k < c.rs.length
  rotate_left
  · obtain rfl : k = c.rs.length := by omega
    have hFt : F = true := by
      rw [hFe, List.all_eq_true]
      exact fun j hj => hz j (List.mem_range.1 hj)
    subst hFt
    clear hK
    repeat' (first | refine zgc ?_ | (refine zge ?_ ?_ <;> intro _ <;> try (exfalso; omega)) | fail)
    apply Yi H
    · exact zk
    apply Yd; exact rfl; exact rfl; exact ⟨rfl, rfl⟩
  obtain ⟨r, hr⟩ : ∃ r, c.rs[k]? = some r := ⟨_, List.getElem?_eq_getElem hlt⟩
  obtain ⟨z, hzz⟩ : ∃ z, c.ss[k]? = some z := ⟨_, List.getElem?_eq_getElem (by omega)⟩
  have hrm := List.mem_of_getElem? hr
  have hzm := List.mem_of_getElem? hzz
  have hkk : ok k = rtOk r.xs z.xs := by rw [← hok]; show rtOk (rtAt _ _) (rtAt _ _) = _; rw [UE hr, UE hzz]
  unfold rtOk at hkk
  have hrl := hc.rl r hrm
  have hzl := hc.sl z hzm
  have q3 := fun {H' : List HP} {w : World} (hc : c.In B w0 H') (hw : St B w0 H' w) => Z6 r.xs 0 31 hrl (cap := r.cap) (hc.rw_ r hrm) hw
  have q4 := fun {H' : List HP} {w : World} (hc : c.In B w0 H') (hw : St B w0 H' w) => Z6 z.xs 0 511 hzl (cap := z.cap) (hc.sw z hzm) hw
  obtain ⟨b3, hb3⟩ : ∃ b, inL r.xs 0 31 = b := ⟨_, rfl⟩
  obtain ⟨b4, hb4⟩ : ∃ b, inL z.xs 0 511 = b := ⟨_, rfl⟩
  rw [hb3] at q3 hkk
  rw [hb4] at q4 hkk
  have hno : ok k = false → F = false := fun h => by
    rw [hFe, List.all_eq_false]
    exact ⟨k, List.mem_range.2 hlt, by rw [h]; decide⟩
  by_cases hA : 2 ≤ r.xs.length ∧ r.xs.length ≤ 9
  rotate_left
  · rw [decide_eq_false hA] at hkk
    have hFf := hno (by rw [hkk]; rfl)
    subst hFf
    clear hK
    repeat' (first | refine zgd ?_ | (refine zge ?_ ?_ <;> intro _ <;> try (exfalso; omega)) | fail)
    all_goals (
      apply Yi H
      · exact zk
      apply Yd; exact rfl; exact rfl; exact ⟨rfl, rfl⟩)
  rw [decide_eq_true hA] at hkk
  cases b3 with
  | false =>
    have hFf := hno (by rw [hkk]; rfl)
    subst hFf
    clear hK
    repeat' (first | refine zgd ?_ | (refine zge ?_ ?_ <;> intro _ <;> try (exfalso; omega)) | fail)
    first | apply Ya XN | apply Yb XN
    exact za
    exact rfl
    exact fun _ hw => (q3 (hc.mono zk) hw)
    repeat' (first | refine zgd ?_ | fail)
    all_goals (
      apply Yi H
      · exact zk
      apply Yd; exact rfl; exact rfl; exact ⟨rfl, rfl⟩)
  | true =>
  by_cases hB : 1 ≤ z.xs.length ∧ z.xs.length ≤ 64
  rotate_left
  · rw [decide_eq_false hB] at hkk
    have hFf := hno (by rw [hkk]; rfl)
    subst hFf
    clear hK
    repeat' (first | refine zgd ?_ | (refine zge ?_ ?_ <;> intro _ <;> try (exfalso; omega)) | fail)
    first | apply Ya XN | apply Yb XN
    exact za
    exact rfl
    exact fun _ hw => (q3 (hc.mono zk) hw)
    repeat' (first | refine zgd ?_ | (refine zge ?_ ?_ <;> intro _ <;> try (exfalso; omega)) | fail)
    all_goals (
      apply Yi H
      · exact zk
      apply Yd; exact rfl; exact rfl; exact ⟨rfl, rfl⟩)
  rw [decide_eq_true hB] at hkk
  cases b4 with
  | false =>
    have hFf := hno (by rw [hkk]; rfl)
    subst hFf
    clear hK
    repeat' (first | refine zgd ?_ | (refine zge ?_ ?_ <;> intro _ <;> try (exfalso; omega)) | fail)
    first | apply Ya XN | apply Yb XN
    exact za
    exact rfl
    exact fun _ hw => (q3 (hc.mono zk) hw)
    repeat' (first | refine zgd ?_ | (refine zge ?_ ?_ <;> intro _ <;> try (exfalso; omega)) | fail)
    first | apply Ya XN | apply Yb XN
    exact za
    exact rfl
    exact fun _ hw => (q4 (hc.mono zk) hw)
    repeat' (first | refine zgd ?_ | fail)
    all_goals (
      apply Yi H
      · exact zk
      apply Yd; exact rfl; exact rfl; exact ⟨rfl, rfl⟩)
  | true =>
    have hkt : ok k = true := hkk
    repeat' (first | refine zgd ?_ | (refine zge ?_ ?_ <;> intro _ <;> try (exfalso; omega)) | fail)
    first | apply Ya XN | apply Yb XN
    exact za
    exact rfl
    exact fun _ hw => (q3 (hc.mono zk) hw)
    repeat' (first | refine zgd ?_ | (refine zge ?_ ?_ <;> intro _ <;> try (exfalso; omega)) | fail)
    first | apply Ya XN | apply Yb XN
    exact za
    exact rfl
    exact fun _ hw => (q4 (hc.mono zk) hw)
    repeat' (first | refine zgc ?_ | fail)
    apply hK (k + 1)
    · exact ⟨by omega, fun j h2 => by
        rcases Nat.lt_succ_iff_lt_or_eq.1 h2 with h | rfl
        · exact hz j h
        · exact hkt⟩
    · omega
    · exact zu
    · exact zk
open Go.RowKit Go.Eng Go.Nw Go.Rt
set_option maxRecDepth 10000 in
set_option maxHeartbeats 8000000 in
theorem QH (c : List ClM) {A : Option Addr} {cap B : Nat} {w0 : World} {H : List HP} {w : World} (hc : CIn B w0 H A c) (hw : St B w0 H w) :
    Calls Tryz.prog 75 [.slice A c.length cap].toArray w (Post B w0 fun v K => v = .bool (VK (c.map ClM.clm)) ∧ K = H) := by
  refine Yc Tryz.func75 Tryz.ntmps75 rfl rfl hw ?_
  have hcl := hc.ln
  have hcr := hc.rd
  obtain ⟨ok, hok⟩ : ∃ ok : Nat → Bool, Yf3 (c.map ClM.clm) = ok := ⟨_, rfl⟩
  obtain ⟨F, hF⟩ : ∃ F, VK (c.map ClM.clm) = F := ⟨_, rfl⟩
  have hFe : F = (decide (c.length ≤ 16) && (List.range c.length).all ok) := by
    rw [← hF]; unfold VK; rw [List.length_map, hok]
  rw [hF]
  repeat' (first | apply (zs1 ?_) | apply (zs2 ?_) | (apply zg4; refine zs9 ?_) | apply (zs65 ?_) | apply (zs68 ?_) | apply (zs69 ?_) | apply (zs70 ?_) | apply (zs73 ?_) | fail)
  refine Yl (fun k : Nat => [(7, .int .i64 (k : Nat)), (6, .int .i64 c.length), (5, .slice A c.length cap), (0, .slice A c.length cap)]) (fun _ => H) (fun k => k ≤ c.length ∧ ∀ j, j < k → ok j = true) (fun k => c.length - k) 0 ⟨Nat.zero_le _, fun j h => absurd h (Nat.not_lt_zero _)⟩ ?_ (fun w hw => hw) ?_
  · exact zu
  rintro k ⟨hk, hz⟩ K hK
  by_cases hlt : k < c.length
  rotate_left
  · obtain rfl : k = c.length := by omega
    have hFt : (List.range c.length).all ok = true := by
      rw [List.all_eq_true]
      exact fun j hj => hz j (List.mem_range.1 hj)
    rw [hFt, Bool.and_true] at hFe
    clear hK
    by_cases h16 : c.length ≤ 16
    · rw [decide_eq_true h16] at hFe
      subst hFe
      repeat' (first | apply (zs1 ?_) | apply (zs2 ?_) | (apply zg4; refine zs9 ?_) | (apply (zs17 ?_ ?_) <;> intro _ <;> try (exfalso; omega)) | (apply (zs18 ?_ ?_) <;> intro _ <;> try (exfalso; omega)) | apply (zs65 ?_) | apply (zs68 ?_) | apply (zs69 ?_) | apply (zs70 ?_) | (apply zg27; refine zs72 ?_) | apply (zs74 ?_) | apply (zs75 ?_) | apply (zs80 ?_) | apply (zs81 ?_) | fail)
      apply Yd; exact rfl; exact rfl; exact ⟨rfl, rfl⟩
    · rw [decide_eq_false h16] at hFe
      subst hFe
      repeat' (first | apply (zs1 ?_) | apply (zs2 ?_) | (apply zg4; refine zs9 ?_) | (apply (zs17 ?_ ?_) <;> intro _ <;> try (exfalso; omega)) | (apply (zs18 ?_ ?_) <;> intro _ <;> try (exfalso; omega)) | apply (zs65 ?_) | apply (zs68 ?_) | apply (zs69 ?_) | apply (zs70 ?_) | (apply zg27; refine zs72 ?_) | apply (zs74 ?_) | apply (zs75 ?_) | apply (zs80 ?_) | apply (zs81 ?_) | fail)
      apply Yd; exact rfl; exact rfl; exact ⟨rfl, rfl⟩
  obtain ⟨x, hx⟩ : ∃ x, c[k]? = some x := ⟨_, List.getElem?_eq_getElem hlt⟩
  have hxi := hc.x x (List.mem_of_getElem? hx)
  have q1 := fun {H' : List HP} {w : World} (hx : x.In B w0 H') (hw : St B w0 H' w) => Ycw x hx hw
  have hok1 : ok k = (JE x.clm && (decide (k = 0) || decide ((Jj (c.map ClM.clm) (k - 1)).flow < x.flow))) := by
    rw [← hok]; unfold Yf3; rw [Jb hx]; rfl
  have hno : ok k = false → F = false := fun h => by
    rw [hFe, Bool.and_eq_false_iff]
    exact .inr (List.all_eq_false.2 ⟨k, List.mem_range.2 hlt, by rw [h]; decide⟩)
  obtain ⟨b, hb⟩ : ∃ b, JE x.clm = b := ⟨_, rfl⟩
  rw [hb] at q1 hok1
  cases b with
  | false =>
    have hFf := hno hok1
    subst hFf
    clear hK
    repeat' (first | apply (zs1 ?_) | apply (zs2 ?_) | (apply zg3; refine zs61 ?_) | (apply zg5; refine zs57 ?_) | (apply (zs17 ?_ ?_) <;> intro _ <;> try (exfalso; omega)) | (apply zg22; refine zs51 ?_) | (apply zg24; (refine zs54 ?_; intro _)) | apply (zs65 ?_) | apply (zs68 ?_) | apply (zs69 ?_) | apply (zs70 ?_) | (apply zg27; refine zs71 ?_) | apply (zs73 ?_) | apply (zs76 ?_) | fail)
    apply YL [0, 1, 2, 3, 4, 5, 6, 7, 8, 9, 10, 11, 12, 13, 14, 15, 16, 17] []
    kernel_rfl
    kernel_rfl
    (simp only [Yj, nthO]; rfl)
    exact rfl
    repeat' (first | (apply zg3; refine zs8 ?_) | apply (zs87 ?_) | fail)
    first | apply Ya Oy | apply Yb Oy
    exact za
    exact rfl
    exact fun _ hw => (q1 (hxi.mono zk) hw)
    repeat' (first | apply (zs1 ?_) | apply (zs2 ?_) | (apply zg1; refine zs3 ?_) | (apply zg6; refine zs11 ?_) | (apply zg20; refine zs48 ?_) | apply (zs65 ?_) | (apply Ys; exact zp) | apply (zs68 ?_) | apply (zs69 ?_) | apply (zs70 ?_) | (apply zg27; refine zs71 ?_) | apply (zs74 ?_) | apply (zs77 ?_) | apply (zs78 ?_) | (apply Yk; (repeat (first | with_reducible exact Yh | (with_reducible apply Yg; (repeat (first | with_reducible exact Yf | with_reducible apply Ye)))))) | apply (zs93 ?_) | apply (zs94 ?_) | fail)
    · show Perm H (H ++ [])
      rw [List.append_nil]; exact Perm.refl _
    repeat' (first | fail)
    apply Yi H
    · exact zk
    apply Yd; exact rfl; exact rfl; exact ⟨rfl, rfl⟩
  | true =>
    rw [Bool.true_and] at hok1
    by_cases hk0 : k = 0
    · have hkt : ok k = true := by rw [hok1, decide_eq_true hk0]; rfl
      repeat' (first | apply (zs1 ?_) | apply (zs2 ?_) | (apply zg3; refine zs61 ?_) | (apply zg5; refine zs57 ?_) | (apply (zs17 ?_ ?_) <;> intro _ <;> try (exfalso; omega)) | (apply zg22; refine zs51 ?_) | (apply zg24; (refine zs54 ?_; intro _)) | apply (zs65 ?_) | apply (zs68 ?_) | apply (zs69 ?_) | apply (zs70 ?_) | (apply zg27; refine zs71 ?_) | apply (zs73 ?_) | apply (zs76 ?_) | fail)
      apply YL [0, 1, 2, 3, 4, 5, 6, 7, 8, 9, 10, 11, 12, 13, 14, 15, 16, 17] []
      kernel_rfl
      kernel_rfl
      (simp only [Yj, nthO]; rfl)
      exact rfl
      repeat' (first | (apply zg3; refine zs8 ?_) | apply (zs87 ?_) | fail)
      first | apply Ya Oy | apply Yb Oy
      exact za
      exact rfl
      exact fun _ hw => (q1 (hxi.mono zk) hw)
      repeat' (first | apply (zs1 ?_) | (apply zg1; refine zs4 ?_) | (apply zg20; refine zs47 ?_) | apply (zs65 ?_) | (apply Yk; (repeat (first | with_reducible exact Yh | (with_reducible apply Yg; (repeat (first | with_reducible exact Yf | with_reducible apply Ye)))))) | fail)
      · show Perm H (H ++ [])
        rw [List.append_nil]; exact Perm.refl _
      repeat' (first | apply (zs1 ?_) | (apply zg1; first | refine zs3 ?_ | refine zs4 ?_) | (apply zg6; refine zs12 ?_) | (apply (zs19 ?_ ?_) <;> intro _ <;> try (exfalso; omega)) | (apply zg13; refine zs30 ?_) | apply (zs65 ?_) | (apply Ys; exact zp) | apply (zs68 ?_) | apply (zs70 ?_) | (apply zg27; refine zs72 ?_) | apply (zs76 ?_) | apply (zs79 ?_) | apply (zs93 ?_) | apply (zs94 ?_) | fail)
      apply hK (k + 1)
      · exact ⟨by omega, fun j h2 => by
          rcases Nat.lt_succ_iff_lt_or_eq.1 h2 with h | rfl
          · exact hz j h
          · exact hkt⟩
      · omega
      · exact zu
      · exact zk
    obtain ⟨y, hy⟩ : ∃ y, c[k - 1]? = some y := ⟨_, List.getElem?_eq_getElem (by omega)⟩
    have hy2 : c[((k : Int) - 1).toNat]? = some y := by rw [show ((k : Int) - 1).toNat = k - 1 by omega]; exact hy
    rw [decide_eq_false hk0, Bool.false_or, Jb hy] at hok1
    have hok1 : ok k = decide (y.flow < x.flow) := hok1
    by_cases hfl : y.flow < x.flow
    · rw [decide_eq_true hfl] at hok1
      repeat' (first | apply (zs1 ?_) | apply (zs2 ?_) | (apply zg3; refine zs61 ?_) | (apply zg5; refine zs57 ?_) | (apply (zs17 ?_ ?_) <;> intro _ <;> try (exfalso; omega)) | (apply zg22; refine zs51 ?_) | (apply zg24; (refine zs54 ?_; intro _)) | apply (zs65 ?_) | apply (zs68 ?_) | apply (zs69 ?_) | apply (zs70 ?_) | (apply zg27; refine zs71 ?_) | apply (zs73 ?_) | apply (zs76 ?_) | fail)
      apply YL [0, 1, 2, 3, 4, 5, 6, 7, 8, 9, 10, 11, 12, 13, 14, 15, 16, 17] []
      kernel_rfl
      kernel_rfl
      (simp only [Yj, nthO]; rfl)
      exact rfl
      repeat' (first | (apply zg3; refine zs8 ?_) | apply (zs87 ?_) | fail)
      first | apply Ya Oy | apply Yb Oy
      exact za
      exact rfl
      exact fun _ hw => (q1 (hxi.mono zk) hw)
      repeat' (first | apply (zs1 ?_) | (apply zg1; refine zs4 ?_) | (apply zg20; refine zs47 ?_) | apply (zs65 ?_) | (apply Yk; (repeat (first | with_reducible exact Yh | (with_reducible apply Yg; (repeat (first | with_reducible exact Yf | with_reducible apply Ye)))))) | fail)
      · show Perm H (H ++ [])
        rw [List.append_nil]; exact Perm.refl _
      repeat' (first | apply (zs1 ?_) | (apply zg1; refine zs4 ?_) | (apply zg2; first | refine zs6 ?_ | refine zs58 ?_) | (apply zg3; first | refine zs7 ?_ | refine zs59 ?_) | (apply zg5; refine zs57 ?_) | (apply zg6; first | refine zs11 ?_ | refine zs12 ?_) | (apply (zs19 ?_ ?_) <;> intro _ <;> try (exfalso; omega)) | (apply (zs20 ?_ ?_) <;> intro _ <;> try (exfalso; omega)) | (apply zg13; refine zs30 ?_) | (apply zg14; refine zs31 ?_) | apply (zs65 ?_) | (apply Ys; exact zp) | apply (zs68 ?_) | apply (zs70 ?_) | (apply zg27; refine zs72 ?_) | apply (zs76 ?_) | apply (zs79 ?_) | apply (zs93 ?_) | apply (zs94 ?_) | fail)
      apply hK (k + 1)
      · exact ⟨by omega, fun j h2 => by
          rcases Nat.lt_succ_iff_lt_or_eq.1 h2 with h | rfl
          · exact hz j h
          · exact hok1⟩
      · omega
      · exact zu
      · exact zk
    · rw [decide_eq_false hfl] at hok1
      have hFf := hno hok1
      subst hFf
      clear hK
      repeat' (first | apply (zs1 ?_) | apply (zs2 ?_) | (apply zg3; refine zs61 ?_) | (apply zg5; refine zs57 ?_) | (apply (zs17 ?_ ?_) <;> intro _ <;> try (exfalso; omega)) | (apply zg22; refine zs51 ?_) | (apply zg24; (refine zs54 ?_; intro _)) | apply (zs65 ?_) | apply (zs68 ?_) | apply (zs69 ?_) | apply (zs70 ?_) | (apply zg27; refine zs71 ?_) | apply (zs73 ?_) | apply (zs76 ?_) | fail)
      apply YL [0, 1, 2, 3, 4, 5, 6, 7, 8, 9, 10, 11, 12, 13, 14, 15, 16, 17] []
      kernel_rfl
      kernel_rfl
      (simp only [Yj, nthO]; rfl)
      exact rfl
      repeat' (first | (apply zg3; refine zs8 ?_) | apply (zs87 ?_) | fail)
      first | apply Ya Oy | apply Yb Oy
      exact za
      exact rfl
      exact fun _ hw => (q1 (hxi.mono zk) hw)
      repeat' (first | apply (zs1 ?_) | (apply zg1; refine zs4 ?_) | (apply zg20; refine zs47 ?_) | apply (zs65 ?_) | (apply Yk; (repeat (first | with_reducible exact Yh | (with_reducible apply Yg; (repeat (first | with_reducible exact Yf | with_reducible apply Ye)))))) | fail)
      · show Perm H (H ++ [])
        rw [List.append_nil]; exact Perm.refl _
      repeat' (first | apply (zs1 ?_) | apply (zs2 ?_) | (apply zg1; refine zs4 ?_) | (apply zg2; first | refine zs6 ?_ | refine zs58 ?_) | (apply zg3; first | refine zs7 ?_ | refine zs59 ?_) | (apply zg5; refine zs57 ?_) | (apply zg6; first | refine zs11 ?_ | refine zs12 ?_) | (apply (zs19 ?_ ?_) <;> intro _ <;> try (exfalso; omega)) | (apply (zs20 ?_ ?_) <;> intro _ <;> try (exfalso; omega)) | (apply zg14; refine zs31 ?_) | apply (zs65 ?_) | (apply Ys; exact zp) | apply (zs68 ?_) | apply (zs69 ?_) | apply (zs70 ?_) | (apply zg27; refine zs71 ?_) | apply (zs74 ?_) | apply (zs77 ?_) | apply (zs78 ?_) | apply (zs93 ?_) | apply (zs94 ?_) | fail)
      apply Yi H
      · exact zk
      apply Yd; exact rfl; exact rfl; exact ⟨rfl, rfl⟩
open Go.RowKit Go.Eng Go.Nw
set_option maxRecDepth 10000 in
theorem Ve (word : List UInt8) (l : List Int) (h : ∀ n ∈ l, 0 ≤ n ∧ n < 10000) (h5 : l.length ≤ 100) (hwd : word.length ≤ 100) {A : Option Addr} {cap B : Nat} {w0 : World} {H : List HP} {w : World} (ht : TabsB B w0) (hr : Rd B w0 H A (l.flatMap numF)) (hw : St B w0 H w) :
    Calls Tryz.prog 77 [strV word, .slice A l.length cap].toArray w (Post B w0 fun v K => v = strV (XP word l) ∧ K = H) := by
  refine Yc Tryz.func77 Tryz.ntmps77 rfl rfl hw ?_
  repeat' (first | apply (zs1 ?_) | apply (zs2 ?_) | (apply zg4; refine zs9 ?_) | apply (zs65 ?_) | apply (zs68 ?_) | apply (zs69 ?_) | apply (zs70 ?_) | apply (zs73 ?_) | fail)
  refine Yl (fun (i : Nat) => [(9, .int .i64 i), (8, .int .i64 l.length), (7, .slice A l.length cap), (0, strV (YM word (l.take i)))]) (fun _ => H) (fun i => i ≤ l.length) (fun i => l.length - i) 0 (Nat.zero_le _) ?_ (fun w hw => hw) ?_
  · have e0 : YM word (l.take 0) = word := by simp [YM]
    rw [e0]
    exact zu
  intro i hi K hK
  have hbl := Wk (w := word) (l := l.take i) fun n hn => h n (List.mem_of_mem_take hn)
  have hlt0 : (l.take i).length ≤ 100 := by rw [List.length_take]; omega
  by_cases hlt : i < l.length
  · obtain ⟨n, hn⟩ : ∃ n, l[i]? = some n := ⟨_, List.getElem?_eq_getElem hlt⟩
    have hnb := h n (List.mem_of_getElem? hn)
    have hil := Yaf hnb
    repeat' (first | ((first | apply Ya Yby | apply Yb Yby); exact za; exact rfl; exact fun _ hw => (WY n (by omega) (by omega) ht hw)) | (apply VS [32] (Lib.itoa n); exact rfl; exact rfl; exact rfl; (show 1 + _ ≤ _; omega)) | (apply VS (YM word (l.take i)) ([32] ++ Lib.itoa n); exact rfl; exact rfl; exact rfl; (rw [List.length_append]; show _ + (1 + _) ≤ _; omega)) | apply (zs1 ?_) | apply (zs2 ?_) | (apply zg3; refine zs60 ?_) | (apply zg5; refine zs57 ?_) | (apply (zs17 ?_ ?_) <;> intro _ <;> try (exfalso; omega)) | (apply zg13; refine zs30 ?_) | apply (zs65 ?_) | apply (zs68 ?_) | apply (zs69 ?_) | apply (zs70 ?_) | (apply zg27; refine zs71 ?_) | apply (zs73 ?_) | apply (zs76 ?_) | apply (zs79 ?_) | fail)
    apply hK (i + 1)
    · show i + 1 ≤ l.length
      omega
    · omega
    · rw [List.take_add_one, hn, Option.toList_some, Ybr]
      exact zu
    · exact fun w hw => hw
  · skip
    repeat' (first | (apply VS (YM word (l.take i)) [10]; exact rfl; exact rfl; exact rfl; (show _ + 1 ≤ _; omega)) | apply (zs1 ?_) | apply (zs2 ?_) | (apply (zs17 ?_ ?_) <;> intro _ <;> try (exfalso; omega)) | apply (zs65 ?_) | apply (zs68 ?_) | apply (zs69 ?_) | apply (zs70 ?_) | (apply zg27; refine zs72 ?_) | apply (zs74 ?_) | apply (zs75 ?_) | apply (zs80 ?_) | apply (zs81 ?_) | fail)
    apply Yd; exact rfl; exact rfl
    rw [show i = l.length by omega, List.take_length]
    exact ⟨rfl, rfl⟩
set_option maxRecDepth 10000 in
set_option maxHeartbeats 2000000 in
theorem Ya7 (ws : List (List UInt8)) (hwl : ws.length ≤ 1000000) (hwm : ∀ p ∈ ws, p.length ≤ 100000) {A0 : Option Addr} {cap0 B : Nat} {w0 : World} {H : List HP} {w : World} (ht : TabsB B w0) (hrw : Rd B w0 H A0 (ws.flatMap strL)) (hw : St B w0 H w) :
    Calls Tryz.prog 143 [.slice A0 ws.length cap0].toArray w (Post B w0 (OutR H (J3 ws))) := by
  refine Yc Tryz.func143 Tryz.ntmps143 rfl rfl hw ?_
  repeat' (first | apply (zs1 ?_) | apply (zs2 ?_) | (apply zg4; refine zs9 ?_) | apply (zs65 ?_) | apply (zs68 ?_) | apply (zs69 ?_) | apply (zs70 ?_) | apply (zs73 ?_) | fail)
  have hnone : ∀ {p : List UInt8}, p ∈ ws → numW p < 0 → J3 ws = none := fun hp hn => Yhi hp hn
  refine Yl (fun (z : Nat × Option Addr × Nat) => [(11, .int .i64 z.1), (10, .int .i64 ws.length), (9, .slice A0 ws.length cap0), (4, .slice z.2.1 ((ws.take z.1).map numW).length z.2.2)]) (fun z => nrs z.2.1 z.2.2 ((ws.take z.1).map numW) :: H) (fun z => z.1 ≤ ws.length ∧ ∀ p ∈ ws.take z.1, 0 ≤ numW p) (fun z => ws.length - z.1) (0, none, 0) ⟨Nat.zero_le _, by simp⟩ ?_ (fun w hw => hw.nilSlice _ _) ?_
  · exact zu
  rintro ⟨i, A, cap⟩ ⟨hi, hall⟩ K hK
  dsimp only at hi hall ⊢
  have hlen : ((ws.take i).map numW).length = i := by rw [List.length_map, List.length_take]; omega
  have hrw' := hrw.cons (X := nrs A cap ((ws.take i).map numW))
  by_cases hlt : i < ws.length
  · obtain ⟨p, hp⟩ : ∃ p, ws[i]? = some p := ⟨_, List.getElem?_eq_getElem hlt⟩
    have hpm := List.mem_of_getElem? hp
    have hpl := hwm p hpm
    have hs : (⟨p.toArray⟩ : ByteArray).size = p.length := by simp [ByteArray.size]
    by_cases hv : ∃ v, Lib.atoiAll p = .ok v
    · obtain ⟨v, hv⟩ := hv
      have hvb := Lib.atoiAll_bounds hv
      obtain ⟨q1, q2⟩ := Yi1 hv
      repeat' (first | ((first | apply Ya Yiy | apply Yb Yiy); exact za; exact rfl; exact fun _ hw => (YjQ p (by omega) v hv hw)) | ((first | apply Ya Yby | apply Yb Yby); exact za; exact rfl; exact fun _ hw => (WY v hvb.1 hvb.2 ht hw)) | (apply Yjx; exact rfl; exact rfl) | (apply Ycn (Lib.itoa v) p; exact rfl; exact rfl; exact rfl; all_goals intro hwd2) | apply (zs1 ?_) | apply (zs2 ?_) | (apply zg1; first | refine zs3 ?_ | refine zs4 ?_) | (apply zg3; refine zs60 ?_) | (apply zg4; refine zs14 ?_) | (apply zg5; refine zs57 ?_) | (apply zg6; first | refine zs11 ?_ | refine zs12 ?_) | apply (zs13 ?_) | (apply (zs17 ?_ ?_) <;> intro _ <;> try (exfalso; omega)) | (apply (zs19 ?_ ?_) <;> intro _ <;> try (exfalso; omega)) | (apply zg13; refine zs30 ?_) | (apply zg21; (refine zs49 ?_; intro _ _)) | (apply zg26; (refine zs56 ?_; intro _)) | apply (zs65 ?_) | apply (zs68 ?_) | apply (zs69 ?_) | apply (zs70 ?_) | (apply zg27; first | refine zs71 ?_ | refine zs72 ?_) | apply (zs73 ?_) | apply (zs74 ?_) | apply (zs76 ?_) | apply (zs77 ?_) | apply (zs78 ?_) | apply (zs79 ?_) | fail)
      all_goals first
        | (apply Yi H
           · exact zk
           apply Yr; exact rfl; exact rfl; exact rfl
           rw [hnone hpm (q2 (by rintro ⟨c1, c2, c3⟩; first | omega | exact hwd2 c2))]
           exact ⟨rfl, rfl⟩)
        | (rename_i xA xcap
           have hq := q1 ⟨by omega, hwd2, by omega⟩
           have e5 : (ws.take i).map numW ++ [v] = (ws.take (i + 1)).map numW := by rw [List.take_add_one, hp, Option.toList_some, List.map_append, List.map_cons, List.map_nil, hq]
           rw [ZQ, e5]
           apply hK (i + 1, xA, xcap)
           · refine ⟨by show i + 1 ≤ _; omega, fun p' hp' => ?_⟩
             dsimp only at hp'
             rw [List.take_add_one, hp, Option.toList_some, List.mem_append, List.mem_singleton] at hp'
             rcases hp' with hp' | rfl
             · exact hall p' hp'
             · omega
           · dsimp only; omega
           · rw [show ((ws.take i).map numW).length + 1 = ((ws.take (i + 1)).map numW).length from (by rw [← e5]; simp)]
             exact zu
           · exact zk)
    · have hbad := Yi0 (fun n hn => hv ⟨n, hn⟩)
      repeat' (first | apply (zs1 ?_) | apply (zs2 ?_) | (apply zg3; refine zs60 ?_) | (apply zg5; refine zs57 ?_) | (apply (zs17 ?_ ?_) <;> intro _ <;> try (exfalso; omega)) | apply (zs65 ?_) | apply (zs68 ?_) | apply (zs69 ?_) | apply (zs70 ?_) | (apply zg27; refine zs71 ?_) | apply (zs73 ?_) | apply (zs76 ?_) | fail)
      apply Yo _ Yiy
      exact za
      exact rfl
      exact fun _ hw => (Yio p (by omega) (fun n hn => hv ⟨n, hn⟩) ht (hw))
      rintro _ _ ⟨⟨n9, t9, p9, rfl⟩, rfl⟩
      repeat' (first | (apply Yjy; exact rfl; exact rfl) | apply (zs1 ?_) | apply (zs2 ?_) | (apply zg1; refine zs3 ?_) | (apply zg6; refine zs11 ?_) | apply (zs13 ?_) | apply (zs65 ?_) | apply (zs68 ?_) | apply (zs69 ?_) | apply (zs70 ?_) | (apply zg27; refine zs71 ?_) | apply (zs74 ?_) | apply (zs77 ?_) | apply (zs78 ?_) | fail)
      rw [hnone hpm hbad]
      apply Yi H
      · exact zk
      apply Yr; exact rfl; exact rfl; exact rfl; exact ⟨rfl, rfl⟩
  · have hie : i = ws.length := by omega
    rw [hie, List.take_length] at hall
    rw [Yhj hall]
    repeat' (first | apply (zs1 ?_) | apply (zs2 ?_) | (apply (zs17 ?_ ?_) <;> intro _ <;> try (exfalso; omega)) | apply (zs65 ?_) | apply (zs68 ?_) | apply (zs69 ?_) | apply (zs70 ?_) | (apply zg27; refine zs72 ?_) | apply (zs74 ?_) | apply (zs75 ?_) | apply (zs80 ?_) | apply (zs81 ?_) | fail)
    rw [hie, List.take_length]
    apply Yr; exact rfl; exact rfl; exact rfl
    exact ⟨A, cap, by rw [List.length_map], rfl⟩
open Go.RowKit Go.Eng Go.Nw Go.Rt
def rt3 (x : Clm) (i : Nat) : List UInt8 := XP wordR (rtAt x.routes i) ++ XP wordB [x.bounds.getD i 0, x.worst.getD i 0] ++ XP wordL (rtAt x.slots i)
def clT (x : Clm) (k : Nat) : List UInt8 := XP wordF [x.flow] ++ (List.range k).flatMap (rt3 x)
def Zu (c : List Clm) (k : Nat) : List UInt8 := (c.take k).flatMap fun x => clT x x.routes.length
theorem Yht {x : Clm} (h : VG x) : ((Zw x).flatMap fun p => p ++ [10]) = clT x x.routes.length := by
  have e : ∀ ks : List Nat, (∀ i ∈ ks, i < x.routes.length) → (ks.flatMap (Yex x)).flatMap (fun p => p ++ [10]) = ks.flatMap (rt3 x) := by
    intro ks
    induction ks with
    | nil => intro _; rfl
    | cons i ks ih =>
      intro hk
      rw [List.flatMap_cons, List.flatMap_append, List.flatMap_cons, ih fun j hj => hk j (List.mem_cons_of_mem _ hj)]
      have hi := hk i List.mem_cons_self
      unfold Yex rt3 XP
      rw [if_pos (by rw [h.b]; exact hi), if_pos (by rw [h.s]; exact hi)]
      simp
  unfold Zw clT
  rw [List.flatMap_cons, e _ fun i hi => List.mem_range.1 hi]
  rfl
theorem YhK {c : List Clm} (h : ∀ x ∈ c, VG x) : OQ c = Zu c c.length := by
  unfold OQ Zu
  rw [List.take_length]
  induction c with
  | nil => rfl
  | cons x c ih =>
    rw [List.flatMap_cons, List.flatMap_append, List.flatMap_cons, Yht (h x (by simp)), ih fun y hy => h y (by simp [hy])]
theorem Ybu {c : List Clm} {k : Nat} {x : Clm} (h : c[k]? = some x) : Zu c (k + 1) = Zu c k ++ clT x x.routes.length := by
  unfold Zu
  rw [List.take_add_one, h, Option.toList_some, List.flatMap_append]
  simp
theorem YdK (x : Clm) (k : Nat) : clT x (k + 1) = clT x k ++ rt3 x k := by
  unfold clT
  rw [List.range_succ, List.flatMap_append, List.append_assoc]
  simp
theorem Vs {l : List Int} {b : Int} (hb : b < 10000) (h : ∀ x ∈ l, 0 ≤ x ∧ x ≤ b) : ∀ n ∈ l, 0 ≤ n ∧ n < 10000 := fun n hn => by have := h n hn; omega
theorem Ycb {a b : Int} (ha : 0 ≤ a ∧ a < 10000) (hb : 0 ≤ b ∧ b < 10000) : ∀ n ∈ [a, b], 0 ≤ n ∧ n < 10000 := fun n hn => by
  simp only [List.mem_cons, List.not_mem_nil, or_false] at hn
  rcases hn with rfl | rfl
  · exact ha
  · exact hb
theorem Ybp {x : Clm} (h : VG x) {i : Nat} (hi : i < x.routes.length) : (0 ≤ x.bounds.getD i 0 ∧ x.bounds.getD i 0 < 10000) ∧ (0 ≤ x.worst.getD i 0 ∧ x.worst.getD i 0 < 10000) := by
  have h1 := h.bs _ (Ux (l := x.bounds) (i := i) (by rw [h.b]; exact hi))
  have h2 := h.ws _ (Ux (l := x.worst) (i := i) (by rw [h.w]; exact hi))
  omega
theorem Ygw {x : Clm} (h : VG x) {i : Nat} (hi : i < x.routes.length) : (rt3 x i).length ≤ 500 := by
  have h1 := h.rs i hi
  have h2 := h.ls i hi
  have h3 := Ybp h hi
  have k1 := Zk (w := wordR) (Vs (by decide) h1.2.2)
  have k2 := Zk (w := wordB) (Ycb h3.1 h3.2)
  have k3 := Zk (w := wordL) (Vs (by decide) h2.2.2)
  have e1 : wordR.length = 5 := rfl
  have e2 : wordB.length = 5 := rfl
  have e3 : wordL.length = 5 := rfl
  simp only [List.length_cons, List.length_nil] at k2
  unfold rt3
  rw [List.length_append, List.length_append]
  omega
theorem Ycy {x : Clm} (h : VG x) : ∀ k, k ≤ x.routes.length → (clT x k).length ≤ 20 + 500 * k
  | 0, _ => by
    have k1 := Zk (w := wordF) (l := [x.flow]) fun n hn => by have := h.f; rw [List.mem_singleton.1 hn]; omega
    have e1 : wordF.length = 4 := rfl
    simp only [List.length_cons, List.length_nil] at k1
    unfold clT
    simp only [List.range_zero, List.flatMap_nil, List.append_nil]
    omega
  | k + 1, hk => by
    have ih := Ycy h k (by omega)
    have h1 := Ygw h (i := k) (by omega)
    rw [YdK, List.length_append]
    omega
theorem Ybt {c : List Clm} (h : ∀ x ∈ c, VG x) : ∀ k, k ≤ c.length → (Zu c k).length ≤ 1100 * k
  | 0, _ => by unfold Zu; simp
  | k + 1, hk => by
    have ih := Ybt h k (by omega)
    obtain ⟨x, hx⟩ : ∃ x, c[k]? = some x := ⟨_, List.getElem?_eq_getElem (by omega)⟩
    have hf := h x (List.mem_of_getElem? hx)
    have h1 := Ycy hf x.routes.length (Nat.le_refl _)
    have := hf.n
    rw [Ybu hx, List.length_append]
    omega
theorem ClM.In.here {c : ClM} {B : Nat} {w0 w : World} {H : List HP} (h : c.In B w0 H) (hw : St B w0 H w) : c.In w.heap.size w [] :=
  ⟨h.rt.here hw, fun r hr => (h.rw_ r hr).here hw, h.bd.here hw, h.ws.here hw, h.st.here hw, fun r hr => (h.sw r hr).here hw, h.ln, h.rl, h.sl⟩
theorem CIn.here {c : List ClM} {A : Option Addr} {B : Nat} {w0 w : World} {H : List HP} (h : CIn B w0 H A c) (hw : St B w0 H w) : CIn w.heap.size w [] A c := ⟨h.rd.here hw, fun x hx => (h.x x hx).here hw, h.ln⟩
structure PrM where
  i : Nat
  A : Option Addr
  cap : Nat
set_option maxRecDepth 10000 in
set_option maxHeartbeats 8000000 in
theorem YgS (c : List ClM) {A : Option Addr} {cap B : Nat} {w0 : World} {w : World} (ht : TabsB B w0) (hc : CIn B w0 [] A c) (hw : St B w0 [] w) :
    Calls Tryz.prog 25 [.slice A c.length cap].toArray w (Post B w0 fun v _ => v = .tuple #[strV (Uk (c.map ClM.clm)).1, .int .i64 (Uk (c.map ClM.clm)).2]) := by
  refine Yc Tryz.func25 Tryz.ntmps25 rfl rfl hw ?_
  have p1 := fun {H' : List HP} {w : World} (hc : CIn B w0 H' A c) (hw : St B w0 H' w) => QH c (cap := cap) hc hw
  have hcr := hc.rd
  cases hf : VK (c.map ClM.clm) with
  | false =>
    rw [hf] at p1
    repeat' (first | ((first | apply Ya en75 | apply Yb en75); exact za; exact rfl; exact fun _ hw => (p1 (hc.mono zk) hw)) | apply (zs1 ?_) | apply (zs2 ?_) | (apply zg20; refine zs48 ?_) | apply (zs65 ?_) | apply (zs68 ?_) | apply (zs69 ?_) | apply (zs70 ?_) | (apply zg27; refine zs71 ?_) | apply (zs74 ?_) | apply (zs77 ?_) | fail)
    apply Yr; exact rfl; exact rfl; exact rfl
    rw [Uk, if_pos hf]
  | true =>
    rw [hf] at p1
    obtain ⟨h16, hfd⟩ := Yd2 hf
    rw [List.length_map] at h16
    repeat' (first | ((first | apply Ya en75 | apply Yb en75); exact za; exact rfl; exact fun _ hw => (p1 (hc.mono zk) hw)) | apply (zs1 ?_) | apply (zs2 ?_) | (apply zg4; refine zs9 ?_) | (apply zg20; refine zs47 ?_) | (apply zg24; (refine zs54 ?_; intro _)) | apply (zs65 ?_) | apply (zs68 ?_) | apply (zs69 ?_) | apply (zs70 ?_) | (apply zg27; refine zs72 ?_) | apply (zs73 ?_) | apply (zs76 ?_) | fail)
    rename_i gb
    refine Yl (fun z : PrM => [(14, .int .i64 (z.i : Nat)), (13, .int .i64 c.length), (12, .slice A c.length cap), (4, .pointer (some ⟨gb, 0, none⟩))]) (fun z => bdP gb (if z.i = 0 then .pointer none else .pointer (some ⟨gb, 0, none⟩)) z.A z.cap (Zu (c.map ClM.clm) z.i) []) (fun z => z.i ≤ c.length) (fun z => c.length - z.i) ⟨0, none, 0⟩ (Nat.zero_le _) ?_ ?_ ?_
    · exact zu
    · intro w hw
      have h5 : St B w0 [blk gb (.cells (Value.agg #[.pointer none, .slice none 0 0]).cells 132 (0, 0))] w := hw
      exact (h5.nilSlice 5 1).perm (.swap _ _ _)
    rintro ⟨k, A1, cap1⟩ hk K hK
    dsimp only at hk ⊢
    have htl := Ybt hfd k (by rw [List.length_map]; exact hk)
    by_cases hlt : k < c.length
    rotate_left
    · obtain rfl : k = c.length := by omega
      obtain ⟨p, hp⟩ : ∃ p, (if c.length = 0 then Value.pointer none else .pointer (some ⟨gb, 0, none⟩)) = p := ⟨_, rfl⟩
      have hp2 : p = .pointer none ∨ p = .pointer (some ⟨gb, 0, none⟩) := by rw [← hp]; split <;> simp
      rw [hp]
      clear hK
      repeat' (first | (apply (zs17 ?_ ?_) <;> intro _ <;> try (exfalso; omega)) | apply (zs65 ?_) | apply (zs68 ?_) | apply (zs69 ?_) | apply (zs70 ?_) | (apply zg27; refine zs72 ?_) | apply (zs75 ?_) | apply (zs80 ?_) | apply (zs81 ?_) | fail)
      apply Yo _ en78
      exact za
      exact rfl
      exact fun _ hw => (OP (l := Zu (c.map ClM.clm) c.length) hp2 (hw))
      rintro _ _ ⟨rfl, rfl⟩
      repeat' (first | apply (zs2 ?_) | apply (zs65 ?_) | apply (zs68 ?_) | apply (zs74 ?_) | fail)
      apply Yr; exact rfl; exact rfl; exact rfl
      rw [Uk, if_neg (by rw [hf]; decide), YhK hfd, List.length_map]
    obtain ⟨x, hx⟩ : ∃ x, c[k]? = some x := ⟨_, List.getElem?_eq_getElem hlt⟩
    have hxm := List.mem_of_getElem? hx
    have hxd := hfd x.clm (List.mem_map_of_mem hxm)
    have hxi := hc.x x hxm
    obtain ⟨p, hp⟩ : ∃ p, (if k = 0 then Value.pointer none else .pointer (some ⟨gb, 0, none⟩)) = p := ⟨_, rfl⟩
    have hp2 : p = .pointer none ∨ p = .pointer (some ⟨gb, 0, none⟩) := by rw [← hp]; split <;> simp
    rw [hp]
    unfold bdP
    repeat' (first | (apply zg2; refine zs6 ?_) | (apply zg3; first | refine zs7 ?_ | refine zs61 ?_) | (apply zg5; refine zs57 ?_) | (apply (zs17 ?_ ?_) <;> intro _ <;> try (exfalso; omega)) | (apply zg22; refine zs51 ?_) | (apply zg24; (refine zs54 ?_; intro _)) | (apply zg26; (refine zs56 ?_; intro _)) | apply (zs65 ?_) | apply (zs68 ?_) | apply (zs69 ?_) | apply (zs70 ?_) | (apply zg27; refine zs71 ?_) | apply (zs73 ?_) | apply (zs76 ?_) | fail)
    rename_i gx gl
    have hlen1 : x.clm.routes.length = x.rs.length := by show (x.rs.map (·.xs)).length = _; rw [List.length_map]
    have hxn := hxd.n
    rw [hlen1] at hxn
    have hbl : x.bs.length = x.rs.length := by have := hxd.b; rw [hlen1] at this; exact this
    have hwl : x.ws.length = x.rs.length := by have := hxd.w; rw [hlen1] at this; exact this
    have hsl : x.ss.length = x.rs.length := by have := hxd.s; rw [hlen1] at this; rw [← this]; show _ = (x.ss.map (·.xs)).length; rw [List.length_map]
    have hrl : ∀ X, Rd B w0 (blk gl (.cells #[.int .i64 x.flow] 3 (0, 0)) :: X) (some ⟨gl, 0, none⟩) ([x.flow].flatMap numF) := fun X => Rd.blk (cs := #[.int .i64 x.flow]) (.head _)
    have hfl : ∀ n ∈ [x.flow], 0 ≤ n ∧ n < 10000 := fun n hn => by
      have := hxd.f
      rw [List.mem_singleton.1 hn]
      exact ⟨this.1, by have := this.2; show x.clm.flow < _; omega⟩
    have hfl2 := Zk (w := wordF) hfl
    have e1 : wordF.length = 4 := rfl
    simp only [List.length_cons, List.length_nil] at hfl2
    first | apply Ya en77 | apply Yb en77
    exact za
    exact rfl
    exact fun _ hw => (Ve wordF [x.flow] hfl (by show 1 ≤ 100; decide) (by decide) ht (hrl _) hw)
    apply Ybm (bdP gb p A1 cap1 (Zu (c.map ClM.clm) k) [clA gx x])
    · unfold bdP
      exact zk
    apply Yo _ en76
    exact za
    exact rfl
    exact fun _ hw => (VF gb p hp2 A1 cap1 (Zu (c.map ClM.clm) k) (XP wordF [x.flow]) (by omega) (hw))
    rintro _ _ ⟨rfl, A2, cap2, rfl⟩
    unfold bdP
    repeat' (first | apply (zs1 ?_) | (apply zg2; refine zs6 ?_) | (apply zg3; refine zs7 ?_) | (apply zg4; refine zs9 ?_) | apply (zs65 ?_) | apply (zs68 ?_) | apply (zs69 ?_) | apply (zs70 ?_) | apply (zs73 ?_) | fail)
    refine Yl (fun z : PrM => [(26, .int .i64 (z.i : Nat)), (25, .int .i64 x.rs.length), (24, .slice x.rA x.rs.length x.rcap), (6, .pointer (some ⟨gx, 0, none⟩)), (14, .int .i64 (k : Nat)), (13, .int .i64 c.length), (12, .slice A c.length cap), (4, .pointer (some ⟨gb, 0, none⟩))]) (fun z => bdP gb (.pointer (some ⟨gb, 0, none⟩)) z.A z.cap (Zu (c.map ClM.clm) k ++ clT x.clm z.i) [clA gx x]) (fun z => z.i ≤ x.rs.length) (fun z => x.rs.length - z.i) ⟨0, A2, cap2⟩ (Nat.zero_le _) ?_ ?_ ?_
    · exact zu
    · have e0 : clT x.clm 0 = XP wordF [x.flow] := by unfold clT; simp; rfl
      rw [e0]
      unfold bdP
      exact fun w hw => hw
    rintro ⟨j, A3, cap3⟩ hj K2 hK2
    dsimp only at hj ⊢
    have hcl2 := Ycy hxd j (by rw [hlen1]; exact hj)
    unfold bdP
    by_cases hjl : j < x.rs.length
    rotate_left
    · obtain rfl : j = x.rs.length := by omega
      clear hK2
      have hst : Zu (c.map ClM.clm) (k + 1) = Zu (c.map ClM.clm) k ++ clT x.clm x.rs.length := by
        rw [Ybu (x := x.clm) (by rw [List.getElem?_map, hx]; rfl), hlen1]
      rw [← hst]
      repeat' (first | apply (zs1 ?_) | (apply (zs17 ?_ ?_) <;> intro _ <;> try (exfalso; omega)) | (apply zg13; refine zs30 ?_) | apply (zs65 ?_) | apply (zs68 ?_) | apply (zs69 ?_) | apply (zs70 ?_) | (apply zg27; refine zs72 ?_) | apply (zs75 ?_) | apply (zs79 ?_) | apply (zs80 ?_) | apply (zs81 ?_) | fail)
      apply hK ⟨k + 1, A3, cap3⟩
      · show k + 1 ≤ c.length
        omega
      · dsimp only; omega
      · exact zu
      · dsimp only
        rw [if_neg (Nat.succ_ne_zero k)]
        unfold bdP
        exact zk
    obtain ⟨r, hr⟩ : ∃ r, x.rs[j]? = some r := ⟨_, List.getElem?_eq_getElem hjl⟩
    obtain ⟨z, hz⟩ : ∃ z, x.ss[j]? = some z := ⟨_, List.getElem?_eq_getElem (by omega)⟩
    obtain ⟨bv, hbv⟩ : ∃ b, x.bs[j]? = some b := ⟨_, List.getElem?_eq_getElem (by omega)⟩
    obtain ⟨wv, hwv⟩ : ∃ b, x.ws[j]? = some b := ⟨_, List.getElem?_eq_getElem (by omega)⟩
    have hrm := List.mem_of_getElem? hr
    have hzm := List.mem_of_getElem? hz
    have hjc : j < x.clm.routes.length := by omega
    have g1 : rtAt x.clm.routes j = r.xs := UE hr
    have g2 : rtAt x.clm.slots j = z.xs := UE hz
    have g3 : x.clm.bounds.getD j 0 = bv := by show x.bs.getD j 0 = bv; rw [List.getD_eq_getElem?_getD, hbv]; rfl
    have g4 : x.clm.worst.getD j 0 = wv := by show x.ws.getD j 0 = wv; rw [List.getD_eq_getElem?_getD, hwv]; rfl
    have n1 := hxd.rs j hjc
    have n2 := hxd.ls j hjc
    have n3 := Ybp hxd hjc
    have hr3 := Ygw hxd hjc
    have hst := YdK x.clm j
    unfold rt3 at hr3 hst
    rw [g1, g2, g3, g4] at hr3 hst
    rw [g1] at n1
    rw [g2] at n2
    rw [g3, g4] at n3
    have m1 := Vs (b := 31) (by decide) n1.2.2
    have m2 := Vs (b := 511) (by decide) n2.2.2
    have m3 := Ycb n3.1 n3.2
    have l1 := fun {H' : List HP} {w : World} (hr : Rd B w0 H' r.A (r.xs.flatMap numF)) (hw : St B w0 H' w) => Ve wordR r.xs m1 (by omega) (by decide) (cap := r.cap) ht hr hw
    have l2 := fun {g : Nat} {cap : Nat} {H' : List HP} {w : World} (hm : blk g (.cells #[.int .i64 bv, .int .i64 wv] 3 (0, 0)) ∈ H') (hw : St B w0 H' w) => Ve wordB [bv, wv] m3 (by show 2 ≤ 100; decide) (by decide) (A := some ⟨g, 0, none⟩) (cap := cap) ht (show Rd B w0 H' _ ([bv, wv].flatMap numF) from Rd.blk hm) hw
    have l3 := fun {H' : List HP} {w : World} (hr : Rd B w0 H' z.A (z.xs.flatMap numF)) (hw : St B w0 H' w) => Ve wordL z.xs m2 (by omega) (by decide) (cap := z.cap) ht hr hw
    obtain ⟨s1, hs1⟩ : ∃ s, XP wordR r.xs = s := ⟨_, rfl⟩
    obtain ⟨s2, hs2⟩ : ∃ s, XP wordB [bv, wv] = s := ⟨_, rfl⟩
    obtain ⟨s3, hs3⟩ : ∃ s, XP wordL z.xs = s := ⟨_, rfl⟩
    rw [hs1] at l1 hr3 hst
    rw [hs2] at l2 hr3 hst
    rw [hs3] at l3 hr3 hst
    rw [List.length_append, List.length_append] at hr3
    have hrr := hxi.rt
    have hbr := hxi.bd
    have hwr := hxi.ws
    have hsr := hxi.st
    repeat' (first | apply (zs1 ?_) | apply (zs2 ?_) | (apply zg3; refine zs60 ?_) | (apply zg5; refine zs57 ?_) | (apply (zs17 ?_ ?_) <;> intro _ <;> try (exfalso; omega)) | apply (zs65 ?_) | apply (zs68 ?_) | apply (zs69 ?_) | apply (zs70 ?_) | (apply zg27; refine zs71 ?_) | apply (zs73 ?_) | apply (zs76 ?_) | fail)
    apply Us (.n1 0 (.n1 2 (.n1 3 (.n1 4 (.n1 5 (.n1 6 (.n1 7 (.n1 8 (.n1 9 (.n1 10 (.n1 11 (.n1 15 (.n1 16 (.n1 17 (.n1 18 (.n1 19 (.n2 1 (.n1 12 (.n1 13 (.n1 14 (.n1 20 (.n1 21 .done))))) 12 (.n1 1 (.n1 13 (.n1 14 (.n1 20 (.n1 21 .done)))))))))))))))))))))) [22] [false, false, true]
    kernel_rfl
    kernel_rfl
    exact zy
    (simp only [Yj, nthO]; rfl)
    repeat' (first | apply (zs1 ?_) | (apply zg2; refine zs6 ?_) | (apply zg3; first | refine zs7 ?_ | refine zs60 ?_) | (apply zg5; refine zs57 ?_) | (apply zg26; (refine zs56 ?_; intro _)) | apply (zs65 ?_) | (apply Ys; exact zp) | apply (zs87 ?_) | (apply Yk; (repeat (first | with_reducible exact Yh | (with_reducible apply Yg; (repeat (first | with_reducible exact Yf | with_reducible apply Ye)))))) | apply (zs90 ?_) | apply (zs91 ?_ ?_) | (apply Y9; (repeat (first | with_reducible exact Yh | (with_reducible apply Yg; (repeat (first | with_reducible exact Yf | with_reducible apply Ye)))))) | fail)
    all_goals (
      first | apply Ya en77 | apply Yb en77
      exact za
      exact rfl
      exact fun _ hw => (l1 ((hxi.rw_ r hrm).mono zk) hw)
      repeat' (first | (apply zg26; (refine zs56 ?_; intro _)) | apply (zs65 ?_) | (apply Ys; exact zp) | apply (zs87 ?_) | (apply Yk; (repeat (first | with_reducible exact Yh | (with_reducible apply Yg; (repeat (first | with_reducible exact Yf | with_reducible apply Ye)))))) | apply (zs90 ?_) | (apply Y9; (repeat (first | with_reducible exact Yh | (with_reducible apply Yg; (repeat (first | with_reducible exact Yf | with_reducible apply Ye)))))) | fail)
      first | apply Ya en77 | apply Yb en77
      exact za
      exact rfl
      exact fun _ hw => (l2 zm hw)
      repeat' (first | (apply VS s1 s2; exact rfl; exact rfl; exact rfl; omega) | apply (zs65 ?_) | (apply Ys; exact zp) | apply (zs87 ?_) | (apply Yk; (repeat (first | with_reducible exact Yh | (with_reducible apply Yg; (repeat (first | with_reducible exact Yf | with_reducible apply Ye)))))) | apply (zs90 ?_) | (apply Y9; (repeat (first | with_reducible exact Yh | (with_reducible apply Yg; (repeat (first | with_reducible exact Yf | with_reducible apply Ye)))))) | fail)
      first | apply Ya en77 | apply Yb en77
      exact za
      exact rfl
      exact fun _ hw => (l3 ((hxi.sw z hzm).mono zk) hw)
      repeat' (first | (apply VS (s1 ++ s2) s3; exact rfl; exact rfl; exact rfl; (rw [List.length_append]; omega)) | apply (zs65 ?_) | (apply Ys; exact zp) | (apply Yk; (repeat (first | with_reducible exact Yh | (with_reducible apply Yg; (repeat (first | with_reducible exact Yf | with_reducible apply Ye)))))) | (apply Va; exact zp) | apply (zs90 ?_) | (apply Y9; (repeat (first | with_reducible exact Yh | (with_reducible apply Yg; (repeat (first | with_reducible exact Yf | with_reducible apply Ye)))))) | apply (zs93 ?_) | fail)
      apply Ybm (bdP gb (.pointer (some ⟨gb, 0, none⟩)) A3 cap3 (Zu (c.map ClM.clm) k ++ clT x.clm j) [clA gx x])
      · unfold bdP
        exact zk
      apply Yo _ en76
      exact za
      exact rfl
      exact fun _ hw => (VF gb _ (.inr rfl) A3 cap3 (Zu (c.map ClM.clm) k ++ clT x.clm j) (s1 ++ s2 ++ s3) (by rw [List.length_append, List.length_append, List.length_append]; omega) (hw))
      rintro _ _ ⟨rfl, A4, cap4, rfl⟩
      repeat' (first | apply (zs1 ?_) | (apply zg13; refine zs30 ?_) | apply (zs65 ?_) | apply (zs68 ?_) | apply (zs70 ?_) | apply (zs79 ?_) | apply (zs94 ?_) | fail)
      apply hK2 ⟨j + 1, A4, cap4⟩
      · show j + 1 ≤ x.rs.length
        omega
      · dsimp only; omega
      · exact zu
      · dsimp only
        intro w hw
        rw [hst, show Zu (c.map ClM.clm) k ++ (clT x.clm j ++ (s1 ++ s2 ++ s3)) = Zu (c.map ClM.clm) k ++ clT x.clm j ++ (s1 ++ s2 ++ s3) from (List.append_assoc _ _ _).symm]
        exact hw)
theorem YdS (c : List ClM) {A : Option Addr} {cap B : Nat} {w0 : World} {H : List HP} {w : World} (ht : TabsB B w0) (hc : CIn B w0 H A c) (hw : St B w0 H w) :
    Calls Tryz.prog 25 [.slice A c.length cap].toArray w (Post B w0 fun v K => v = .tuple #[strV (Uk (c.map ClM.clm)).1, .int .i64 (Uk (c.map ClM.clm)).2] ∧ K = H) :=
  Ot hw (YgS c (ht.here hw) (hc.here hw) (St.start w))
end Go.Proofs.YtmalhidldgfeoaaGreatDoor
namespace Go.Eng
open Go.RowKit
section
variable {P : Program} {B : Nat} {w0 : World} {Q : Exit → Act → World → Prop} {env : Env} {H : List HP} {m : Mode} {n : Shp} {ops : Array Oper} {rest : List Oper} {d : Nat} {ty : TypeId} {pos : String} {after : Array Edge}
theorem YD {t : Nat} {x y : Operand} {u v z : Value} (hx : evo env x = some u) (hy : evo env y = some v) (hn : Nat.ble (d + 1) n.k = true) (hr : ∀ w, (Instr.index t u v).run P w = .ok z w) (h : VL P m n B w0 ops Q rest ((d, z) :: env) H) :
    VL P m n B w0 ops Q (⟨some d, .index t x y, ty, pos, after, none⟩ :: rest) env H := by
  refine Yw rfl rfl hn rfl (fun a w ha hw => ?_) h
  simp [execOp, ha.eval hx, ha.eval hy, hr]
theorem YH {t f : Nat} {x : Operand} {u z : Value} (hx : evo env x = some u) (hn : Nat.ble (d + 1) n.k = true) (hr : ∀ w, (Instr.field t u f).run P w = .ok z w) (h : VL P m n B w0 ops Q rest ((d, z) :: env) H) :
    VL P m n B w0 ops Q (⟨some d, .field t x f, ty, pos, after, none⟩ :: rest) env H := by
  refine Yw rfl rfl hn rfl (fun a w ha hw => ?_) h
  simp [execOp, ha.eval hx, hr]
end
end Go.Eng
namespace Go.Proofs.YtmalhidldgfeoaaGreatDoor
open Go.RowKit Go.Eng Go.Nw Go.Rt
def Yjd (k : Nat) : Value := .agg #[strV (XO k), .int .i64 (JM k : Nat), .int .i64 (Ug k : Nat), .int .i64 (Xd k : Nat)]
def JJ : Value := .agg #[.string ⟨#[102, 108, 111, 119]⟩, .int .i64 1, .int .i64 1, .int .i64 3, .string ⟨#[114, 111, 117, 116, 101]⟩, .int .i64 2, .int .i64 9, .int .i64 0, .string ⟨#[98, 111, 117, 110, 100]⟩, .int .i64 2, .int .i64 2, .int .i64 1, .string ⟨#[115, 108, 111, 116, 115]⟩, .int .i64 1, .int .i64 64, .int .i64 2]
theorem OO {B : Nat} {w0 : World} {H : List HP} {w : World} (hw : St B w0 H w) :
    Calls Tryz.prog 142 ([] : List Value).toArray w (Post B w0 fun v K => v = JJ ∧ K = H) := by
  refine Yc Tryz.func142 Tryz.ntmps142 rfl rfl hw ?_
  repeat' (first | (apply zg22; refine zs51 ?_) | (apply zg24; (refine zs54 ?_; intro _)) | (apply zg25; refine zs55 ?_) | apply (zs65 ?_) | apply (zs68 ?_) | apply (zs69 ?_) | apply (zs70 ?_) | apply (zs74 ?_) | fail)
  (apply Ydr T (H2 := H); exact rfl; exact rfl; exact zm; exact rfl; exact rfl; exact zk; exact ⟨rfl, rfl⟩)
theorem Yhx (w : World) : (Instr.index 213 JJ (.int .i64 0)).run Tryz.prog w = .ok (.agg #[.string ⟨#[102, 108, 111, 119]⟩, .int .i64 1, .int .i64 1, .int .i64 3]) w := by kernel_rfl
theorem Yhy (w : World) : (Instr.index 213 JJ (.int .i64 1)).run Tryz.prog w = .ok (.agg #[.string ⟨#[114, 111, 117, 116, 101]⟩, .int .i64 2, .int .i64 9, .int .i64 0]) w := by kernel_rfl
theorem Yhz (w : World) : (Instr.index 213 JJ (.int .i64 2)).run Tryz.prog w = .ok (.agg #[.string ⟨#[98, 111, 117, 110, 100]⟩, .int .i64 2, .int .i64 2, .int .i64 1]) w := by kernel_rfl
theorem YhA (w : World) : (Instr.index 213 JJ (.int .i64 3)).run Tryz.prog w = .ok (.agg #[.string ⟨#[115, 108, 111, 116, 115]⟩, .int .i64 1, .int .i64 64, .int .i64 2]) w := by kernel_rfl
theorem Xb {k : Nat} (hk : k < 4) (w : World) : (Instr.index 213 JJ (.int .i64 (k : Nat))).run Tryz.prog w = .ok (Yjd k) w := by
  match k, hk with
  | 0, _ => exact Yhx w
  | 1, _ => exact Yhy w
  | 2, _ => exact Yhz w
  | 3, _ => exact YhA w
theorem Ybg (w : World) : (Instr.field 212 (.agg #[.string ⟨#[102, 108, 111, 119]⟩, .int .i64 1, .int .i64 1, .int .i64 3]) 3).run Tryz.prog w = .ok (.int .i64 3) w := by kernel_rfl
theorem Ybh (w : World) : (Instr.field 212 (.agg #[.string ⟨#[114, 111, 117, 116, 101]⟩, .int .i64 2, .int .i64 9, .int .i64 0]) 3).run Tryz.prog w = .ok (.int .i64 0) w := by kernel_rfl
theorem Ybi (w : World) : (Instr.field 212 (.agg #[.string ⟨#[98, 111, 117, 110, 100]⟩, .int .i64 2, .int .i64 2, .int .i64 1]) 3).run Tryz.prog w = .ok (.int .i64 1) w := by kernel_rfl
theorem Ybj (w : World) : (Instr.field 212 (.agg #[.string ⟨#[115, 108, 111, 116, 115]⟩, .int .i64 1, .int .i64 64, .int .i64 2]) 3).run Tryz.prog w = .ok (.int .i64 2) w := by kernel_rfl
theorem YI {k : Nat} (hk : k < 4) (w : World) : (Instr.field 212 (Yjd k) 3).run Tryz.prog w = .ok (.int .i64 (Xd k : Nat)) w := by
  match k, hk with
  | 0, _ => exact Ybg w
  | 1, _ => exact Ybh w
  | 2, _ => exact Ybi w
  | 3, _ => exact Ybj w
abbrev rdrA (g : Nat) (A : Option Addr) (cap : Nat) (C : List ClM) (last : Nat) : HP := blk g (.cells #[.slice A C.length cap, .int .i64 (last : Nat)] 144 (0, 0))
set_option maxRecDepth 10000 in
set_option maxHeartbeats 4000000 in
theorem YgY (g : Nat) (A : Option Addr) (cap : Nat) (C : List ClM) (last k : Nat) (hk : k < 4) (hl3 : last < 4) (hC : C.length ≤ 1000000) (hCr : ∀ c ∈ C, c.rs.length ≤ 1000000) {B : Nat} {w0 : World} {H : List HP} {w : World} (hm : rdrA g A cap C last ∈ H) (hr : Rd B w0 H A (C.flatMap clF)) (hw : St B w0 H w) :
    Calls Tryz.prog 144 [.pointer (some ⟨g, 0, none⟩), .int .i64 (k : Nat)].toArray w (Post B w0 fun v K => v = .bool (Z3 ⟨C.map ClM.clm, last⟩ k) ∧ K = H) := by
  refine Yc Tryz.func144 Tryz.ntmps144 rfl rfl hw ?_
  have p1 := fun {w : World} (hw : St B w0 H w) => OO hw
  obtain ⟨F, hF⟩ : ∃ F, Z3 ⟨C.map ClM.clm, last⟩ k = F := ⟨_, rfl⟩
  rw [hF]
  have hFe : F = (decide (last = Xd k) || (decide (k = 1) && decide (last = 3) && decide (0 < C.length) && decide ((OG (C.map ClM.clm)).routes.length < 2))) := by
    rw [← hF]; unfold Z3; simp only [List.length_map]
  clear hF
  cases hsec : (decide (k = 1) && decide (last = 3) && decide (0 < C.length) && decide ((OG (C.map ClM.clm)).routes.length < 2)) with
  | true =>
    rw [hsec, Bool.or_true] at hFe
    subst hFe
    simp only [Bool.and_eq_true, decide_eq_true_eq] at hsec
    obtain ⟨⟨⟨h1, h2⟩, h3⟩, h4⟩ := hsec
    obtain ⟨x, hx⟩ : ∃ x, C[C.length - 1]? = some x := ⟨_, List.getElem?_eq_getElem (by omega)⟩
    have hx2 : C[((C.length : Int) - 1).toNat]? = some x := by rw [show ((C.length : Int) - 1).toNat = C.length - 1 by omega]; exact hx
    have h5 : x.rs.length < 2 := by
      unfold OG at h4
      rw [List.length_map, Jb hx] at h4
      have : x.clm.routes.length = x.rs.length := by show (x.rs.map (·.xs)).length = _; rw [List.length_map]
      omega
    by_cases hb : last = Xd k
    all_goals (
      repeat' (first | apply (zs1 ?_) | apply (zs2 ?_) | (apply zg1; refine zs4 ?_) | apply (zs5 ?_) | (apply zg2; first | refine zs6 ?_ | refine zs58 ?_) | (apply zg3; first | refine zs7 ?_ | refine zs59 ?_) | (apply zg4; refine zs9 ?_) | (apply zg5; refine zs57 ?_) | (apply zg6; refine zs11 ?_) | (apply zg7; (refine zs15 ?_ ?_ <;> intro _ <;> try (exfalso; omega))) | (apply (zs17 ?_ ?_) <;> intro _ <;> try (exfalso; omega)) | (apply (zs19 ?_ ?_) <;> intro _ <;> try (exfalso; omega)) | (apply zg14; refine zs31 ?_) | apply (zs65 ?_) | apply (zs66 ?_) | apply (zs68 ?_) | apply (zs69 ?_) | apply (zs70 ?_) | (apply zg28; refine zs83 ?_) | fail)
      apply YL [0, 1, 2, 3, 5, 4, 6, 7, 8, 9, 10, 11, 12] []
      kernel_rfl
      kernel_rfl
      (simp only [Yj, nthO]; rfl)
      exact rfl
      repeat' (first | apply (zs1 ?_) | apply (zs5 ?_) | (apply zg2; refine zs6 ?_) | (apply zg3; refine zs7 ?_) | apply (zs87 ?_) | fail)
      first | apply Ya Z1 | apply Yb Z1
      exact za
      exact rfl
      exact fun _ hw => (p1 hw)
      repeat' (first | (apply YD; exact rfl; exact rfl; exact rfl; exact Xb hk) | (apply YH; exact rfl; exact rfl; exact YI hk) | apply (zs1 ?_) | apply (zs2 ?_) | (apply zg1; first | refine zs3 ?_ | refine zs4 ?_) | (apply zg6; first | refine zs11 ?_ | refine zs12 ?_) | (apply zg7; (refine zs15 ?_ ?_ <;> intro _ <;> try (exfalso; omega))) | apply (zs65 ?_) | (apply Ys; exact zp) | apply (zs68 ?_) | apply (zs74 ?_) | (apply Yk; (repeat (first | with_reducible exact Yh | (with_reducible apply Yg; (repeat (first | with_reducible exact Yf | with_reducible apply Ye)))))) | apply (zs93 ?_) | apply (zs94 ?_) | fail)
      · show Perm H (H ++ [])
        rw [List.append_nil]; exact Perm.refl _
      repeat' (first | (apply YD; exact rfl; exact rfl; exact rfl; exact Xb hk) | (apply YH; exact rfl; exact rfl; exact YI hk) | fail)
      apply Yd; exact rfl; exact rfl; exact ⟨rfl, rfl⟩)
  | false =>
    rw [hsec, Bool.or_false] at hFe
    by_cases h1 : k = 1
    rotate_left
    · by_cases hb : last = Xd k
      · rw [decide_eq_true hb] at hFe
        subst hFe
        repeat' (first | apply (zs1 ?_) | apply (zs2 ?_) | (apply zg1; refine zs3 ?_) | (apply zg6; refine zs12 ?_) | (apply zg7; (refine zs15 ?_ ?_ <;> intro _ <;> try (exfalso; omega))) | apply (zs65 ?_) | apply (zs66 ?_) | apply (zs68 ?_) | apply (zs69 ?_) | apply (zs70 ?_) | (apply zg28; refine zs83 ?_) | fail)
        apply YL [0, 1, 2, 3, 5, 4, 6, 7, 8, 9, 10, 11, 12] []
        kernel_rfl
        kernel_rfl
        (simp only [Yj, nthO]; rfl)
        exact rfl
        repeat' (first | apply (zs1 ?_) | apply (zs5 ?_) | (apply zg2; refine zs6 ?_) | (apply zg3; refine zs7 ?_) | apply (zs87 ?_) | fail)
        first | apply Ya Z1 | apply Yb Z1
        exact za
        exact rfl
        exact fun _ hw => (p1 hw)
        repeat' (first | (apply YD; exact rfl; exact rfl; exact rfl; exact Xb hk) | (apply YH; exact rfl; exact rfl; exact YI hk) | apply (zs1 ?_) | apply (zs2 ?_) | (apply zg1; refine zs3 ?_) | (apply zg6; refine zs11 ?_) | (apply zg7; (refine zs15 ?_ ?_ <;> intro _ <;> try (exfalso; omega))) | apply (zs65 ?_) | (apply Ys; exact zp) | apply (zs68 ?_) | apply (zs74 ?_) | (apply Yk; (repeat (first | with_reducible exact Yh | (with_reducible apply Yg; (repeat (first | with_reducible exact Yf | with_reducible apply Ye)))))) | apply (zs93 ?_) | apply (zs94 ?_) | fail)
        · show Perm H (H ++ [])
          rw [List.append_nil]; exact Perm.refl _
        repeat' (first | (apply YD; exact rfl; exact rfl; exact rfl; exact Xb hk) | (apply YH; exact rfl; exact rfl; exact YI hk) | fail)
        apply Yd; exact rfl; exact rfl; exact ⟨rfl, rfl⟩
      · rw [decide_eq_false hb] at hFe
        subst hFe
        repeat' (first | apply (zs1 ?_) | apply (zs2 ?_) | (apply zg1; refine zs3 ?_) | (apply zg6; refine zs12 ?_) | (apply zg7; (refine zs15 ?_ ?_ <;> intro _ <;> try (exfalso; omega))) | apply (zs65 ?_) | apply (zs66 ?_) | apply (zs68 ?_) | apply (zs69 ?_) | apply (zs70 ?_) | (apply zg28; refine zs83 ?_) | fail)
        apply YL [0, 1, 2, 3, 5, 4, 6, 7, 8, 9, 10, 11, 12] []
        kernel_rfl
        kernel_rfl
        (simp only [Yj, nthO]; rfl)
        exact rfl
        repeat' (first | apply (zs1 ?_) | apply (zs5 ?_) | (apply zg2; refine zs6 ?_) | (apply zg3; refine zs7 ?_) | apply (zs87 ?_) | fail)
        first | apply Ya Z1 | apply Yb Z1
        exact za
        exact rfl
        exact fun _ hw => (p1 hw)
        repeat' (first | (apply YD; exact rfl; exact rfl; exact rfl; exact Xb hk) | (apply YH; exact rfl; exact rfl; exact YI hk) | apply (zs1 ?_) | apply (zs2 ?_) | (apply zg1; refine zs4 ?_) | (apply zg6; refine zs12 ?_) | (apply zg7; (refine zs15 ?_ ?_ <;> intro _ <;> try (exfalso; omega))) | apply (zs65 ?_) | (apply Ys; exact zp) | apply (zs68 ?_) | apply (zs74 ?_) | (apply Yk; (repeat (first | with_reducible exact Yh | (with_reducible apply Yg; (repeat (first | with_reducible exact Yf | with_reducible apply Ye)))))) | apply (zs93 ?_) | apply (zs94 ?_) | fail)
        · show Perm H (H ++ [])
          rw [List.append_nil]; exact Perm.refl _
        repeat' (first | (apply YD; exact rfl; exact rfl; exact rfl; exact Xb hk) | (apply YH; exact rfl; exact rfl; exact YI hk) | fail)
        apply Yd; exact rfl; exact rfl; exact ⟨rfl, rfl⟩
    by_cases h2 : last = 3
    rotate_left
    · by_cases hb : last = Xd k
      · rw [decide_eq_true hb] at hFe
        subst hFe
        repeat' (first | apply (zs1 ?_) | apply (zs2 ?_) | (apply zg1; first | refine zs3 ?_ | refine zs4 ?_) | apply (zs5 ?_) | (apply zg2; refine zs6 ?_) | (apply zg3; refine zs7 ?_) | (apply zg6; first | refine zs11 ?_ | refine zs12 ?_) | (apply zg7; (refine zs15 ?_ ?_ <;> intro _ <;> try (exfalso; omega))) | apply (zs65 ?_) | apply (zs66 ?_) | apply (zs68 ?_) | apply (zs69 ?_) | apply (zs70 ?_) | (apply zg28; refine zs83 ?_) | fail)
        apply YL [0, 1, 2, 3, 5, 4, 6, 7, 8, 9, 10, 11, 12] []
        kernel_rfl
        kernel_rfl
        (simp only [Yj, nthO]; rfl)
        exact rfl
        repeat' (first | apply (zs1 ?_) | apply (zs5 ?_) | (apply zg2; refine zs6 ?_) | (apply zg3; refine zs7 ?_) | apply (zs87 ?_) | fail)
        first | apply Ya Z1 | apply Yb Z1
        exact za
        exact rfl
        exact fun _ hw => (p1 hw)
        repeat' (first | (apply YD; exact rfl; exact rfl; exact rfl; exact Xb hk) | (apply YH; exact rfl; exact rfl; exact YI hk) | apply (zs1 ?_) | apply (zs2 ?_) | (apply zg1; refine zs3 ?_) | (apply zg6; refine zs11 ?_) | (apply zg7; (refine zs15 ?_ ?_ <;> intro _ <;> try (exfalso; omega))) | apply (zs65 ?_) | (apply Ys; exact zp) | apply (zs68 ?_) | apply (zs74 ?_) | (apply Yk; (repeat (first | with_reducible exact Yh | (with_reducible apply Yg; (repeat (first | with_reducible exact Yf | with_reducible apply Ye)))))) | apply (zs93 ?_) | apply (zs94 ?_) | fail)
        · show Perm H (H ++ [])
          rw [List.append_nil]; exact Perm.refl _
        repeat' (first | (apply YD; exact rfl; exact rfl; exact rfl; exact Xb hk) | (apply YH; exact rfl; exact rfl; exact YI hk) | fail)
        apply Yd; exact rfl; exact rfl; exact ⟨rfl, rfl⟩
      · rw [decide_eq_false hb] at hFe
        subst hFe
        repeat' (first | apply (zs1 ?_) | apply (zs2 ?_) | (apply zg1; first | refine zs3 ?_ | refine zs4 ?_) | apply (zs5 ?_) | (apply zg2; refine zs6 ?_) | (apply zg3; refine zs7 ?_) | (apply zg6; first | refine zs11 ?_ | refine zs12 ?_) | (apply zg7; (refine zs15 ?_ ?_ <;> intro _ <;> try (exfalso; omega))) | apply (zs65 ?_) | apply (zs66 ?_) | apply (zs68 ?_) | apply (zs69 ?_) | apply (zs70 ?_) | (apply zg28; refine zs83 ?_) | fail)
        apply YL [0, 1, 2, 3, 5, 4, 6, 7, 8, 9, 10, 11, 12] []
        kernel_rfl
        kernel_rfl
        (simp only [Yj, nthO]; rfl)
        exact rfl
        repeat' (first | apply (zs1 ?_) | apply (zs5 ?_) | (apply zg2; refine zs6 ?_) | (apply zg3; refine zs7 ?_) | apply (zs87 ?_) | fail)
        first | apply Ya Z1 | apply Yb Z1
        exact za
        exact rfl
        exact fun _ hw => (p1 hw)
        repeat' (first | (apply YD; exact rfl; exact rfl; exact rfl; exact Xb hk) | (apply YH; exact rfl; exact rfl; exact YI hk) | apply (zs1 ?_) | apply (zs2 ?_) | (apply zg1; refine zs4 ?_) | (apply zg6; refine zs12 ?_) | (apply zg7; (refine zs15 ?_ ?_ <;> intro _ <;> try (exfalso; omega))) | apply (zs65 ?_) | (apply Ys; exact zp) | apply (zs68 ?_) | apply (zs74 ?_) | (apply Yk; (repeat (first | with_reducible exact Yh | (with_reducible apply Yg; (repeat (first | with_reducible exact Yf | with_reducible apply Ye)))))) | apply (zs93 ?_) | apply (zs94 ?_) | fail)
        · show Perm H (H ++ [])
          rw [List.append_nil]; exact Perm.refl _
        repeat' (first | (apply YD; exact rfl; exact rfl; exact rfl; exact Xb hk) | (apply YH; exact rfl; exact rfl; exact YI hk) | fail)
        apply Yd; exact rfl; exact rfl; exact ⟨rfl, rfl⟩
    have hb : ¬ last = Xd k := by subst h1; subst h2; decide
    rw [decide_eq_false hb] at hFe
    subst hFe
    by_cases h3 : 0 < C.length
    rotate_left
    · repeat' (first | apply (zs1 ?_) | apply (zs2 ?_) | (apply zg1; first | refine zs3 ?_ | refine zs4 ?_) | apply (zs5 ?_) | (apply zg2; refine zs6 ?_) | (apply zg3; refine zs7 ?_) | (apply zg4; refine zs9 ?_) | (apply zg6; first | refine zs11 ?_ | refine zs12 ?_) | (apply zg7; (refine zs15 ?_ ?_ <;> intro _ <;> try (exfalso; omega))) | (apply (zs19 ?_ ?_) <;> intro _ <;> try (exfalso; omega)) | apply (zs65 ?_) | apply (zs66 ?_) | apply (zs68 ?_) | apply (zs69 ?_) | apply (zs70 ?_) | (apply zg28; refine zs83 ?_) | fail)
      apply YL [0, 1, 2, 3, 5, 4, 6, 7, 8, 9, 10, 11, 12] []
      kernel_rfl
      kernel_rfl
      (simp only [Yj, nthO]; rfl)
      exact rfl
      repeat' (first | apply (zs1 ?_) | apply (zs5 ?_) | (apply zg2; refine zs6 ?_) | (apply zg3; refine zs7 ?_) | apply (zs87 ?_) | fail)
      first | apply Ya Z1 | apply Yb Z1
      exact za
      exact rfl
      exact fun _ hw => (p1 hw)
      repeat' (first | (apply YD; exact rfl; exact rfl; exact rfl; exact Xb hk) | (apply YH; exact rfl; exact rfl; exact YI hk) | apply (zs1 ?_) | apply (zs2 ?_) | (apply zg1; refine zs4 ?_) | (apply zg6; refine zs12 ?_) | (apply zg7; (refine zs15 ?_ ?_ <;> intro _ <;> try (exfalso; omega))) | apply (zs65 ?_) | (apply Ys; exact zp) | apply (zs68 ?_) | apply (zs74 ?_) | (apply Yk; (repeat (first | with_reducible exact Yh | (with_reducible apply Yg; (repeat (first | with_reducible exact Yf | with_reducible apply Ye)))))) | apply (zs93 ?_) | apply (zs94 ?_) | fail)
      · show Perm H (H ++ [])
        rw [List.append_nil]; exact Perm.refl _
      repeat' (first | (apply YD; exact rfl; exact rfl; exact rfl; exact Xb hk) | (apply YH; exact rfl; exact rfl; exact YI hk) | fail)
      apply Yd; exact rfl; exact rfl; exact ⟨rfl, rfl⟩
    obtain ⟨x, hx⟩ : ∃ x, C[C.length - 1]? = some x := ⟨_, List.getElem?_eq_getElem (by omega)⟩
    have hx2 : C[((C.length : Int) - 1).toNat]? = some x := by rw [show ((C.length : Int) - 1).toNat = C.length - 1 by omega]; exact hx
    rw [decide_eq_true h1, decide_eq_true h2, decide_eq_true h3, Bool.true_and, Bool.true_and, Bool.true_and] at hsec
    have h4 := of_decide_eq_false hsec
    have h5 : ¬ x.rs.length < 2 := by
      unfold OG at h4
      rw [List.length_map, Jb hx] at h4
      have : x.clm.routes.length = x.rs.length := by show (x.rs.map (·.xs)).length = _; rw [List.length_map]
      omega
    have h6 := hCr x (List.mem_of_getElem? hx)
    repeat' (first | apply (zs1 ?_) | apply (zs2 ?_) | (apply zg1; refine zs4 ?_) | apply (zs5 ?_) | (apply zg2; first | refine zs6 ?_ | refine zs58 ?_) | (apply zg3; first | refine zs7 ?_ | refine zs59 ?_) | (apply zg4; refine zs9 ?_) | (apply zg5; refine zs57 ?_) | (apply zg6; refine zs11 ?_) | (apply zg7; (refine zs15 ?_ ?_ <;> intro _ <;> try (exfalso; omega))) | (apply (zs17 ?_ ?_) <;> intro _ <;> try (exfalso; omega)) | (apply (zs19 ?_ ?_) <;> intro _ <;> try (exfalso; omega)) | (apply zg14; refine zs31 ?_) | apply (zs65 ?_) | apply (zs66 ?_) | apply (zs68 ?_) | apply (zs69 ?_) | apply (zs70 ?_) | (apply zg28; refine zs83 ?_) | fail)
    apply YL [0, 1, 2, 3, 5, 4, 6, 7, 8, 9, 10, 11, 12] []
    kernel_rfl
    kernel_rfl
    (simp only [Yj, nthO]; rfl)
    exact rfl
    repeat' (first | apply (zs1 ?_) | apply (zs5 ?_) | (apply zg2; refine zs6 ?_) | (apply zg3; refine zs7 ?_) | apply (zs87 ?_) | fail)
    first | apply Ya Z1 | apply Yb Z1
    exact za
    exact rfl
    exact fun _ hw => (p1 hw)
    repeat' (first | (apply YD; exact rfl; exact rfl; exact rfl; exact Xb hk) | (apply YH; exact rfl; exact rfl; exact YI hk) | apply (zs1 ?_) | apply (zs2 ?_) | (apply zg1; refine zs4 ?_) | (apply zg6; refine zs12 ?_) | (apply zg7; (refine zs15 ?_ ?_ <;> intro _ <;> try (exfalso; omega))) | apply (zs65 ?_) | (apply Ys; exact zp) | apply (zs68 ?_) | apply (zs74 ?_) | (apply Yk; (repeat (first | with_reducible exact Yh | (with_reducible apply Yg; (repeat (first | with_reducible exact Yf | with_reducible apply Ye)))))) | apply (zs93 ?_) | apply (zs94 ?_) | fail)
    · show Perm H (H ++ [])
      rw [List.append_nil]; exact Perm.refl _
    repeat' (first | (apply YD; exact rfl; exact rfl; exact rfl; exact Xb hk) | (apply YH; exact rfl; exact rfl; exact YI hk) | fail)
    apply Yd; exact rfl; exact rfl; exact ⟨rfl, rfl⟩
end Go.Proofs.YtmalhidldgfeoaaGreatDoor
