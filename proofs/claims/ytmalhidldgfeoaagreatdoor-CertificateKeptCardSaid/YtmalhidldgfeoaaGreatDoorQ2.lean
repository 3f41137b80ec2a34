/- Lemmas for the claim, part 2. -/
import Derived.RangeFuncFrom
import Derived.RangeFuncNested
import Derived.RangeFuncLeaves
import Derived.Lib.OthersKept
import Derived.Test.YtmalhidldgfeoaaGreatDoorProg
import Derived.KernelRfl
import Derived.Lib.AppendStr
import Derived.Laws.Externs
import Derived.Test.YtmalhidldgfeoaaGreatDoorQ1

namespace Go.Eng
open Go.RowKit
theorem St.putObj {B : Nat} {w0 w : World} {H K : List HP} {g : Nat} {o o' : Obj} (h : St B w0 H w) (u : Upd (Eng.blk g o) (Eng.blk g o') H K) : St B w0 K (w.putObj g o') := by
  have hlt : g < w.heap.size := by
    obtain ⟨L1, L2, rfl, _⟩ := u
    exact (h.blk (g := g) (o := o) (by simp)).2.2
  refine h.upd u rfl rfl rfl (by simp [World.putObj]) fun S1 ⟨h1, _⟩ => ⟨⟨h1, World.putObj_heap_same hlt⟩, fun b hb _ => World.putObj_heap_other fun e => hb (e ▸ h1)⟩
theorem Yjb (X : HP) (Y M : List HP) : Perm (Y ++ X :: M) (X :: (Y ++ M)) := by
  induction Y with
  | nil => exact .refl _
  | cons A Y ih => exact (ih.cons A).trans (.swap A X _)
theorem YhB (X : HP) (Y M : List HP) : Perm (X :: (Y ++ M)) (Y ++ X :: M) := by
  induction Y with
  | nil => exact .refl _
  | cons A Y ih => exact (Perm.swap X A _).trans (ih.cons A)
theorem YeA (Y : List HP) {L M : List HP} (p : Perm L M) : Perm (Y ++ L) (Y ++ M) := by
  induction Y with
  | nil => exact p
  | cons A Y ih => exact ih.cons A
def QC (P : Program) (l : Nat) (args : List Value) (B : Nat) (w0 : World) (H : List HP) (Φt Φf : List HP → Prop) : Prop :=
  ∀ w, St B w0 H w → YieldAt Fence.wide 0 P l args.toArray w fun e w' =>
    (e = .returned (.bool true) ∧ ∃ K, Φt K ∧ St B w0 K w') ∨ (e = .returned (.bool false) ∧ ∃ K, Φf K ∧ St B w0 K w')
def Ybo (P : Program) (gf : Nat) (lb : List Value) (xs : List (List Value)) (B : Nat) (w0 : World) (HI : List HP) : Prop :=
  ∀ (l : Nat) (S : Nat → List HP → Prop) (X : List HP → Prop),
    (∀ (i : Nat) (args : List Value), xs[i]? = some args → ∀ (Y L : List HP), S i L →
      QC P l args B w0 (Y ++ many L :: HI) (fun K => ∃ L', S (i + 1) L' ∧ K = Y ++ many L' :: HI) (fun K => ∃ L', X L' ∧ K = Y ++ many L' :: HI)) →
    ∀ L0, S 0 L0 → ∀ w, St B w0 (many L0 :: HI) w →
      CallsIn Fence.wide 0 P gf (.func (.yield l) #[] #[] :: lb).toArray w (Post B w0 fun _ K => (∃ L, S xs.length L ∧ K = many L :: HI) ∨ ∃ L, X L ∧ K = many L :: HI)
def jump : Exit → Option Code
  | .ret => some .ret
  | .exit id => some (.exit id)
  | _ => none
def Yf6 {α : Type} (B : Nat) (w0 : World) (R : HP) (HI : List HP) (I : α → Prop) (HH : α → List HP) (X : Exit → List HP → Prop) : Exit → Act → World → Prop
  | .normal, _, w => ∃ y, I y ∧ St B w0 (R :: (HH y ++ HI)) w
  | .ret, _, w => ∃ K, X .ret K ∧ St B w0 (R :: (K ++ HI)) w
  | .exit id, _, w => ∃ K, X (.exit id) K ∧ St B w0 (R :: (K ++ HI)) w
  | _, _, _ => False
def Yf5 {α : Type} (P : Program) (l B : Nat) (w0 : World) (body : Code) (R : HP) (HI : List HP) (I : α → Prop) (HH : α → List HP) (X : Exit → List HP → Prop) : Exit → Act → World → Prop
  | .normal, a, w => ∃ K, St B w0 (R :: K) w ∧ ∀ R' w', St B w0 (R' :: K) w' → wpR P (some l) body (Yf6 B w0 R' HI I HH X) a w'
  | _, _, _ => False
def Vx : List Nat → List Value → Env → Env
  | p :: ps, v :: vs, e => Vx ps vs ((p, v) :: e)
  | _, _, e => e
section
variable {P : Program} {B : Nat} {w0 : World} {Q : Exit → Act → World → Prop} {env : Env} {H : List HP} {k : Nat}
theorem Ja {α : Type} {l : Nat} {body : Code} {R : HP} {HI K : List HP} {I : α → Prop} {HH : α → List HP} {X : Exit → List HP → Prop} (hr : Rem R H K)
    (h : ∀ R', VC P ⟨k, [], some l⟩ B w0 body (Yf6 B w0 R' HI I HH X) env (R' :: K)) : VQ ⟨k, [], some l⟩ B w0 (Yf5 P l B w0 body R HI I HH X) .normal env H :=
  ⟨fun a _ ha hw => ⟨K, hw.perm hr, fun R' w' hw' => (h R').run a w' ha hw'⟩⟩
theorem JA {α : Type} {n : Shp} {R : HP} {HI : List HP} {I : α → Prop} {HH : α → List HP} {X : Exit → List HP → Prop} (y : α) (hI : I y) (hH : ∀ w, St B w0 H w → St B w0 (R :: (HH y ++ HI)) w) :
    VQ n B w0 (Yf6 B w0 R HI I HH X) .normal env H := ⟨fun _ w _ hw => ⟨y, hI, hH w hw⟩⟩
theorem QB {α : Type} {n : Shp} {R : HP} {HI : List HP} {I : α → Prop} {HH : α → List HP} {X : Exit → List HP → Prop} (K : List HP) (hX : X .ret K) (hH : ∀ w, St B w0 H w → St B w0 (R :: (K ++ HI)) w) :
    VQ n B w0 (Yf6 B w0 R HI I HH X) .ret env H := ⟨fun _ w _ hw => ⟨K, hX, hH w hw⟩⟩
theorem Yec : ∀ (ps : List Nat) (vs : List Value) (t : Array Value) (e : Env), t.size = k → (∀ s v, get e s = some v → t[s]? = some v) → ps.all (fun p => Nat.ble (p + 1) k) = true → ps.length = vs.length →
    ((ps.zip vs).foldl (fun t (x : Nat × Value) => t.setIfInBounds x.1 x.2) t).size = k ∧ ∀ s v, get (Vx ps vs e) s = some v → ((ps.zip vs).foldl (fun t (x : Nat × Value) => t.setIfInBounds x.1 x.2) t)[s]? = some v
  | [], [], t, e, hs, hg, _, _ => ⟨hs, hg⟩
  | p :: ps, v :: vs, t, e, hs, hg, hp, hl => by
    simp only [List.all_cons, Bool.and_eq_true] at hp
    have hlt := Nat.le_of_ble_eq_true hp.1
    refine Yec ps vs (t.setIfInBounds p v) ((p, v) :: e) (by simpa using hs) (fun s u hu => ?_) hp.2 (by simpa using hl)
    by_cases e2 : p = s
    · subst e2
      rw [get, if_pos rfl] at hu
      rw [← hu, Array.getElem?_setIfInBounds, if_pos rfl, if_pos (by omega)]
    · rw [get, if_neg e2] at hu
      rw [Array.getElem?_setIfInBounds_ne e2]
      exact hg s u hu
theorem XG {α : Type} {ds : List Deferred} {g : Operand} {ps : List Nat} {assign body : Code} {gf : Nat} {lb : List Value} {xs : List (List Value)} (HI : List HP) (HH : α → List HP) (I : Nat → α → Prop) (X : Exit → List HP → Prop) (x0 : α)
    (hg : evo env g = some (.func (.func gf) #[] lb.toArray)) (hc : ∀ xs w, (callFunc gf xs).run P w = .ok (.enter gf xs) w) (hiter : Ybo P gf lb xs B w0 HI)
    (hps : ps.all (fun p => Nat.ble (p + 1) k) = true) (hlen : ∀ args ∈ xs, args.length = ps.length) (hca : calm assign = true) (hcb : calm body = true)
    (hH : ∀ w, St B w0 H w → St B w0 (HH x0 ++ HI) w) (h0 : I 0 x0)
    (hround : ∀ (l i : Nat) (args : List Value) (R : HP) (x : α), xs[i]? = some args → I i x → VC P ⟨k, [], some l⟩ B w0 assign (Yf5 P l B w0 body R HI (I (i + 1)) HH X) (Vx ps args env) (R :: (HH x ++ HI)))
    (hdone : ∀ D x, I xs.length x → VQ ⟨k, ⟨.collected D, #[]⟩ :: ds, none⟩ B w0 Q .normal env (blk D (.deferred (some [])) :: (HH x ++ HI)))
    (hstop : ∀ D e K, X e K → (jump e).isSome = true → VQ ⟨k, ⟨.collected D, #[]⟩ :: ds, none⟩ B w0 Q e env (blk D (.deferred (some [])) :: (K ++ HI))) :
    VC P ⟨k, ds, none⟩ B w0 (.rangeFunc g ps.toArray assign body) Q env H := by
  refine ⟨fun a w ha hw => ?_⟩
  show (Code.rangeFunc g ps.toArray assign body).wp P Q a w
  refine (wpIn_wide (n := 0)).1 (wpIn_rangeFunc ?_)
  intro fn _
  obtain ⟨rec, hrec⟩ : ∃ rec : LoopState → Option Code → Loop, rec = fun st pe => { state := st, pending := pe, fn, tmps := a.tmps, params := ps.toArray, assign, body, defers := w.heap.size } := ⟨_, rfl⟩
  have hst := ((hH w hw).alloc (.deferred (some []))).alloc (.loop (rec .ready none))
  rw [World.size_alloc] at hst
  obtain ⟨l, hl⟩ : ∃ l, w.heap.size + 1 = l := ⟨_, rfl⟩
  obtain ⟨D, hD⟩ : ∃ D, w.heap.size = D := ⟨_, rfl⟩
  rw [hl, hD] at hst
  obtain ⟨W1, hW1⟩ : ∃ W1, (w.alloc (.deferred (some []))).alloc (.loop (rec .ready none)) = W1 := ⟨_, rfl⟩
  rw [hW1] at hst
  refine ⟨l, [⟨.collected D, #[]⟩], W1, { target := .fn (.func gf) lb.toArray, args := #[.func (.yield l) #[] #[]] }, W1, gf, (.func (.yield l) #[] #[] :: lb).toArray, W1, ?_, ?_, ?_, ?_, fun h => by simp [Fence.wide] at h, ?_⟩
  · rw [← hl, ← hD, ← hW1, hrec]
    exact run_enterLoop_outer _ _ _ _ _
  · simp only [resolve, ha.eval hg]
    simp [go_sem]
  · intro f' _; trivial
  · simp [invoke, go_sem, hc]
  · refine CallsIn.mono (hiter l (fun i L => ∃ x, I i x ∧ L = blk l (.loop (rec .ready none)) :: blk D (.deferred (some [])) :: HH x)
      (fun L => ∃ e K c, X e K ∧ jump e = some c ∧ L = blk l (.loop (rec .done (some c))) :: blk D (.deferred (some [])) :: K) ?_ _ ⟨x0, h0, rfl⟩ _ (hst.perm (.close (blk l (.loop (rec .ready none)) :: blk D (.deferred (some [])) :: HH x0) HI))) ?_
    · -- one round
      rintro i args hx Y L ⟨x, hI, rfl⟩ W hW
      have hp1 : ∀ (lp : Loop) (M : List HP), Perm (Y ++ many (blk l (.loop lp) :: blk D (.deferred (some [])) :: M) :: HI) (many (Y ++ [blk l (.loop lp), blk D (.deferred (some []))]) :: (M ++ HI)) := fun lp M => by
        refine (YeA Y (.open_ _ _)).trans ?_
        have : Y ++ ((blk l (.loop lp) :: blk D (.deferred (some [])) :: M) ++ HI) = (Y ++ [blk l (.loop lp), blk D (.deferred (some []))]) ++ (M ++ HI) := by simp
        rw [this]
        exact .close _ _
      have hp2 : ∀ (lp : Loop) (M : List HP), Perm (many (Y ++ [blk l (.loop lp), blk D (.deferred (some []))]) :: (M ++ HI)) (Y ++ many (blk l (.loop lp) :: blk D (.deferred (some [])) :: M) :: HI) := fun lp M => by
        refine Perm.trans (.open_ _ _) ?_
        have : (Y ++ [blk l (.loop lp), blk D (.deferred (some []))]) ++ (M ++ HI) = Y ++ ((blk l (.loop lp) :: blk D (.deferred (some [])) :: M) ++ HI) := by simp
        rw [this]
        exact YeA Y (.close _ _)
      have hpf : ∀ (lp : Loop) (M : List HP), Perm (many (Y ++ [blk l (.loop lp), blk D (.deferred (some []))]) :: M) (blk l (.loop lp) :: (Y ++ blk D (.deferred (some [])) :: M)) := fun lp M => by
        refine Perm.trans (.open_ _ _) ?_
        have : (Y ++ [blk l (.loop lp), blk D (.deferred (some []))]) ++ M = Y ++ blk l (.loop lp) :: (blk D (.deferred (some [])) :: M) := by simp
        rw [this]
        exact Yjb _ _ _
      have hpb : ∀ (lp : Loop) (M : List HP), Perm (blk l (.loop lp) :: (Y ++ blk D (.deferred (some [])) :: M)) (many (Y ++ [blk l (.loop lp), blk D (.deferred (some []))]) :: M) := fun lp M => by
        refine Perm.trans (YhB _ _ _) ?_
        have : Y ++ blk l (.loop lp) :: (blk D (.deferred (some [])) :: M) = (Y ++ [blk l (.loop lp), blk D (.deferred (some []))]) ++ M := by simp
        rw [this]
        exact .close _ _
      have hW1 := hW.perm (hp1 _ _)
      have hW2 := hW1.perm (hpf _ _)
      have hlp := (hW2.blk List.mem_cons_self).1
      have hal := hlen args (List.mem_of_getElem? hx)
      have hy := run_yield (P := P) (args := args.toArray) hlp (by rw [hrec]; simp [hal])
      rw [hrec] at hy
      refine ⟨fn, _, assign, body, hy, roundIn_of_wpIn trivial ?_⟩
      have hfit := Yec ps args a.tmps env ha.size (fun s v h => ha.slot s v h) hps hal.symm
      have hz : (ps.toArray.zip args.toArray).foldl (fun t (x : Nat × Value) => t.setIfInBounds x.1 x.2) a.tmps = (ps.zip args).foldl (fun t (x : Nat × Value) => t.setIfInBounds x.1 x.2) a.tmps := by
        rw [← Array.foldl_toList]; simp
      have hva := (hround l i args (many (Y ++ [blk l (.loop (rec .ready none)), blk D (.deferred (some []))])) x hx hI).run
        { tmps := (ps.toArray.zip args.toArray).foldl (fun t (x : Nat × Value) => t.setIfInBounds x.1 x.2) a.tmps, defers := [] } W ⟨rfl, by rw [hz]; exact hfit.1, fun s v h => by rw [hz]; exact hfit.2 s v h⟩ hW1
      refine wpIn_mono (hva (by rintro ⟨_, _, h⟩; exact h) hca) ?_
      intro e a1 w1 hq
      cases e with
      | normal =>
        obtain ⟨K, hK, hbody⟩ := hq
        have hK2 := hK.perm (hpf _ _)
        have hlp2 := (hK2.blk List.mem_cons_self).1
        refine ⟨_, run_beginRound hlp2 (by rw [hrec]), ?_⟩
        have hK3 := (hK2.putObj (o' := .loop { rec .ready none with state := .busy }) (.here _)).perm (hpb _ _)
        have hvb := hbody _ _ hK3
        refine wpIn_mono (hvb (by rintro ⟨_, _, h⟩; exact h) hcb) ?_
        intro e a3 w3 hq3
        have fin : ∀ (jp : Option Code) (M : List HP), St B w0 (many (Y ++ [blk l (.loop { rec .ready none with state := .busy }), blk D (.deferred (some []))]) :: (M ++ HI)) w3 →
            ∃ w4, (Instr.endRound l jp).run P w3 = .ok (.bool jp.isNone) w4 ∧ St B w0 (Y ++ many (blk l (.loop (rec (if jp.isNone then .ready else .done) jp)) :: blk D (.deferred (some [])) :: M) :: HI) w4 := fun jp M h3 => by
          have h4 := h3.perm (hpf _ _)
          have h5 := (h4.blk List.mem_cons_self).1
          have h6 := run_endRound (P := P) jp h5
          refine ⟨_, h6, ?_⟩
          have h7 := ((h4.putObj (o' := .loop (rec (if jp.isNone then .ready else .done) jp)) (.here _)).perm (hpb _ _)).perm (hp2 _ _)
          rw [hrec] at h7 ⊢
          exact h7
        cases e with
        | normal =>
          obtain ⟨y, hIy, h3⟩ := hq3
          obtain ⟨w4, h5, h6⟩ := fin none _ h3
          exact ⟨_, w4, h5, .inl ⟨rfl, _, ⟨_, ⟨y, hIy, rfl⟩, rfl⟩, h6⟩⟩
        | ret =>
          obtain ⟨K3, hX3, h3⟩ := hq3
          obtain ⟨w4, h5, h6⟩ := fin (some .ret) _ h3
          exact ⟨_, w4, h5, .inr ⟨rfl, _, ⟨_, ⟨.ret, K3, .ret, hX3, rfl, rfl⟩, rfl⟩, h6⟩⟩
        | exit id =>
          obtain ⟨K3, hX3, h3⟩ := hq3
          obtain ⟨w4, h5, h6⟩ := fin (some (.exit id)) _ h3
          exact ⟨_, w4, h5, .inr ⟨rfl, _, ⟨_, ⟨.exit id, K3, .exit id, hX3, rfl, rfl⟩, rfl⟩, h6⟩⟩
        | goto t => exact hq3.elim
        | panic ch => exact hq3.elim
        | outgrown => exact hq3.elim
      | ret => exact hq
      | exit id => exact hq
      | goto t => exact hq
      | panic ch => exact hq
      | outgrown => exact hq
    · -- behind the iterator
      rintro e W2 ⟨v, K, rfl, hst2, hK⟩
      have hpn : ∀ st pe, (rec st pe).pending = pe := fun st pe => by rw [hrec]
      have hds : ∀ {M : List HP} {w' : World}, St B w0 M w' → Fits ⟨k, ⟨.collected D, #[]⟩ :: ds, none⟩ { a with defers := [⟨.collected D, #[]⟩] ++ a.defers } env := fun _ =>
        ⟨by rw [ha.defers]; rfl, ha.size, ha.slot⟩
      rcases hK with ⟨L, ⟨x, hI, rfl⟩, rfl⟩ | ⟨L, ⟨e, K, c, hX, hj, rfl⟩, rfl⟩
      · have h1 := hst2.perm (.open_ _ _)
        have h2 := (h1.blk List.mem_cons_self).1
        have h3 := run_endLoop (P := P) h2 (by rw [hrec]; simp)
        have h4 := (h1.putObj (o' := .loop { rec .ready none with state := .exhausted }) (.here _)).tail
        refine ⟨none, _, h3.trans (congrArg (fun j => Result.ok j _) (hpn _ _)), ?_⟩
        exact (hdone D x hI).run _ _ (hds h4) h4
      · have h1 := hst2.perm (.open_ _ _)
        have h2 := (h1.blk List.mem_cons_self).1
        have h3 := run_endLoop (P := P) h2 (by rw [hrec]; simp)
        have h4 := (h1.putObj (o' := .loop { rec .done (some c) with state := .exhausted }) (.here _)).tail
        refine ⟨some c, _, h3.trans (congrArg (fun j => Result.ok j _) (hpn _ _)), ?_⟩
        have h5 := (hstop D e K hX (by rw [hj]; rfl)).run _ _ (hds h4) h4
        cases e with
        | ret => obtain rfl := Option.some.inj hj; exact wpIn_ret h5
        | exit id => obtain rfl := Option.some.inj hj; exact wpIn_exit h5
        | normal => cases hj
        | goto t => cases hj
        | panic ch => cases hj
        | outgrown => cases hj
theorem XF {n : Nat} {f : FuncId} {fn : Func} {c : Code} {args : List Value} {w : World} {Φ : Value → List HP → Prop} (hf : P.funcs[f]? = some fn) (hn : fn.ntmps = n) (hb : fn.body = some c)
    (hle : Nat.ble args.length n = true) (hw : St B w0 H w) (h : VC P ⟨n, [], none⟩ B w0 c (bodyPostM Fence.wide 0 P fn (Post B w0 Φ)) (VY 0 args) H) : Calls P f args.toArray w (Post B w0 Φ) := by
  refine (callsIn_wide (n := 0)).1 (callsIn_of_wp_marks hf hb trivial ((wpIn_wide (n := 0)).2 (h.run _ w ⟨rfl, ?_, fun t v ht => ?_⟩ hw)))
  · have := Nat.le_of_ble_eq_true hle; simp; omega
  · obtain ⟨_, h2⟩ := UY args 0 t v ht
    rw [Nat.sub_zero] at h2
    have hlt : t < args.length := by
      rcases Nat.lt_or_ge t args.length with h | h
      · exact h
      · rw [List.getElem?_eq_none h] at h2; cases h2
    rw [Array.getElem?_append_left (by simpa using hlt)]
    simpa using h2
theorem Yek {fn : Func} {R : Ending → World → Prop} {a : Act} {w : World} (h : bodyPost P fn R .ret a w) : bodyPostM Fence.wide 0 P fn R .ret a w := by
  obtain ⟨h1, h2⟩ := h
  show LeavesInM Fence.wide 0 P fn a.tmps R a.defers .returning w
  rw [h1]
  exact h2
theorem VQ_m {n : Nat} {fn : Func} {R : Ending → World → Prop} (h : VQ ⟨n, [], none⟩ B w0 (bodyPost P fn R) .ret env H) : VQ ⟨n, [], none⟩ B w0 (bodyPostM Fence.wide 0 P fn R) .ret env H :=
  ⟨fun a w ha hw => Yek (h.run a w ha hw)⟩
theorem Zf {n D : Nat} {ds : List Deferred} {fn : Func} {R : Ending → World → Prop} {H' : List HP} (hr : Rem (blk D (.deferred (some []))) H H') (h : VQ ⟨n, ds, none⟩ B w0 (bodyPostM Fence.wide 0 P fn R) .ret env H') :
    VQ ⟨n, ⟨.collected D, #[]⟩ :: ds, none⟩ B w0 (bodyPostM Fence.wide 0 P fn R) .ret env H := by
  refine ⟨fun a w ha hw => ?_⟩
  show LeavesInM Fence.wide 0 P fn a.tmps R a.defers .returning w
  rw [ha.defers]
  have hw2 := hw.perm hr
  have hb := (hw2.blk List.mem_cons_self).1
  refine ⟨by simp, .inl ⟨D, _, rfl, run_takeDeferred hb, ?_⟩⟩
  have h3 := (hw2.putObj (o' := .deferred none) (.here _)).tail
  exact h.run { a with defers := ds } _ ⟨rfl, ha.size, ha.slot⟩ h3
theorem Ub {ops : Array Oper} (hlo : ¬ LetsOut Q) : ∀ (os : List Oper) (a : Act) (w : World), wpList P ops Q os a w → wpListIn Fence.wide 0 P ops Q os a w
  | [], _, _, h => h
  | o :: os, a, w, h => by
    unfold wpList at h
    unfold wpListIn
    split
    · rename_i hw
      rw [if_pos hw] at h
      rcases h with h | ⟨_, h⟩
      · refine ⟨fun f _ => trivial, ?_⟩
        have h2 := Oper.wp_mono (fun a w h => Ub hlo os a w h) h
        unfold Oper.wp at h2
        have hs : Oper.semAt Fence.wide.round a.eval o = execOp a.eval o := Oper.semAt_none _ _
        rw [hs]
        generalize (execOp a.eval o).run P w = res at h2 ⊢
        cases res with
        | ok x w' =>
          cases x <;> simp only [Oper.upon, Oper.uponIn] at h2 ⊢ <;> first
            | exact h2
            | (refine ⟨fun hd => by simp [Fence.wide] at hd, ?_⟩
               refine CallsIn.mono (callsIn_wide.2 h2) fun e w'' he => ?_
               cases e <;> exact he)
            | (refine ⟨fun hd => by simp [Fence.wide] at hd, fun c cs _ => ?_⟩
               obtain ⟨v, w2, k1, k2⟩ := h2 c cs
               exact ⟨v, w2, k1, stepsIn_wide.2 k2⟩)
            | exact h2.elim
        | halt x w' => cases x <;> simp only [Oper.upon, Oper.uponIn] at h2 ⊢ <;> first | exact h2 | exact h2.elim
      · exact (hlo h).elim
    · rename_i hw
      rw [if_neg hw] at h
      exact ⟨fun f _ => trivial, Ub hlo os _ w h⟩
def YQ (P : Program) (ops : Array Oper) (Q : Exit → Act → World → Prop) (l : List Oper) : Exit → Act → World → Prop
  | .normal, a, w => wpListIn Fence.wide 0 P ops Q l a w
  | e, a, w => Q e a w
theorem Yaq {ops : Array Oper} {l : List Oper} (hlo : ¬ LetsOut Q) : ∀ (os : List Oper) (a : Act) (w : World), wpList P ops (YQ P ops Q l) os a w → wpListIn Fence.wide 0 P ops Q (os ++ l) a w
  | [], _, _, h => h
  | o :: os, a, w, h => by
    unfold wpList at h
    rw [List.cons_append]
    unfold wpListIn
    split
    · rename_i hw
      rw [if_pos hw] at h
      rcases h with h | ⟨_, h⟩
      · refine ⟨fun f _ => trivial, ?_⟩
        have h2 := Oper.wp_mono (fun a w h => Yaq hlo os a w h) h
        unfold Oper.wp at h2
        have hs : Oper.semAt Fence.wide.round a.eval o = execOp a.eval o := Oper.semAt_none _ _
        rw [hs]
        generalize (execOp a.eval o).run P w = res at h2 ⊢
        cases res with
        | ok x w' =>
          cases x <;> simp only [Oper.upon, Oper.uponIn] at h2 ⊢ <;> first
            | exact h2
            | (refine ⟨fun hd => by simp [Fence.wide] at hd, ?_⟩
               refine CallsIn.mono (callsIn_wide.2 h2) fun e w'' he => ?_
               cases e <;> exact he)
            | (refine ⟨fun hd => by simp [Fence.wide] at hd, fun c cs _ => ?_⟩
               obtain ⟨v, w2, k1, k2⟩ := h2 c cs
               exact ⟨v, w2, k1, stepsIn_wide.2 k2⟩)
            | exact h2.elim
        | halt x w' => cases x <;> simp only [Oper.upon, Oper.uponIn] at h2 ⊢ <;> first | exact h2 | exact h2.elim
      · exact (hlo h).elim
    · rename_i hw
      rw [if_neg hw] at h
      exact ⟨fun f _ => trivial, Yaq hlo os _ w h⟩
theorem Qr {n : Nat} {ds : List Deferred} {id : Nat} {l : List Oper} (k : Nat) {l1 l2 : List Oper} (h1 : l.take k = l1) (h2 : l.drop k = l2) (hlo : ¬ LetsOut Q) (h : VL P none ⟨n, ds, none⟩ B w0 l.toArray (YQ P l.toArray Q l2) l1 env H) :
    VC P ⟨n, ds, none⟩ B w0 (.region id l.toArray false) Q env H := by
  refine ⟨fun a w ha hw => ?_⟩
  refine (wpIn_wide (n := 0)).1 (wpIn_region_lit ?_)
  have := Yaq hlo _ _ _ (h.run a ha w hw)
  rw [← h1, ← h2, List.take_append_drop] at this
  exact this
theorem YdH {n : Nat} {ds : List Deferred} {ops : Array Oper} {d l : Nat} {x : Operand} {args : List Operand} {tys : Array TypeId} {ty : TypeId} {pos : String} {after : Array Edge} {gd : Option (Nat × Bool)} {vs : List Value} {rest : List Oper} (Φt Φf : List HP → Prop)
    (hgd : ∀ a : Act, Fits ⟨n, ds, none⟩ a env → Region.wanted ⟨some d, .call ⟨.value x, args.toArray, tys⟩, ty, pos, after, gd⟩ (yielded ops a.tmps) = true)
    (hx : evo env x = some (.func (.yield l) #[] #[])) (hargs : Args env args vs) (hn : Nat.ble (d + 1) n = true) (hlo : ¬ LetsOut Q) (hy : QC P l vs B w0 H Φt Φf)
    (ht : ∀ K, Φt K → VL P none ⟨n, ds, none⟩ B w0 ops Q rest ((d, .bool true) :: env) K)
    (hf : ∀ K, Φf K → VL P none ⟨n, ds, none⟩ B w0 ops Q rest ((d, .bool false) :: env) K) :
    VQ ⟨n, ds, none⟩ B w0 (YQ P ops Q (⟨some d, .call ⟨.value x, args.toArray, tys⟩, ty, pos, after, gd⟩ :: rest)) .normal env H := by
  refine ⟨fun a w ha hw => ?_⟩
  show wpListIn Fence.wide 0 P ops Q _ a w
  unfold wpListIn
  rw [if_pos (hgd a ha)]
  refine ⟨fun f _ => trivial, ?_⟩
  obtain ⟨fn, tmps, assign, body, hrun, hround⟩ := hy w hw
  have hmap : args.toArray.map a.eval = vs.toArray := by rw [List.map_toArray, JI ha _ _ hargs]
  have hs : Oper.semAt Fence.wide.round a.eval ⟨some d, .call ⟨.value x, args.toArray, tys⟩, ty, pos, after, gd⟩ = execOp a.eval ⟨some d, .call ⟨.value x, args.toArray, tys⟩, ty, pos, after, gd⟩ := Oper.semAt_none _ _
  rw [hs]
  have hex : (execOp a.eval ⟨some d, .call ⟨.value x, args.toArray, tys⟩, ty, pos, after, gd⟩).run P w = .ok (.round l fn tmps assign body) w := by
    simp only [execOp, resolve, ha.eval hx, hmap, Deferred.ofValue, Sem.run_bind, Sem.run_pure, Result.andThen_ok, invoke]
    simpa using hrun
  rw [hex, Oper.uponIn_round]
  refine ⟨fun hd => by simp [Fence.wide] at hd, RoundIn.mono hround ?_⟩
  rintro e w' (⟨rfl, K', hΦ, hst⟩ | ⟨rfl, K', hΦ, hst⟩)
  · exact Ub hlo _ _ _ ((ht K' hΦ).run _ (ha.put (Nat.le_of_ble_eq_true hn) _) _ hst)
  · exact Ub hlo _ _ _ ((hf K' hΦ).run _ (ha.put (Nat.le_of_ble_eq_true hn) _) _ hst)
theorem Yix {n : Nat} {ds : List Deferred} {ops : Array Oper} {o : Oper} {rest : List Oper} (hlo : ¬ LetsOut Q) (h : VL P none ⟨n, ds, none⟩ B w0 ops Q (o :: rest) env H) : VQ ⟨n, ds, none⟩ B w0 (YQ P ops Q (o :: rest)) .normal env H :=
  ⟨fun a w ha hw => Ub hlo _ _ _ (h.run a ha w hw)⟩
theorem OZ {n : Nat} {ds : List Deferred} {ops : Array Oper} {dst : Option Tmp} {op : Op} {ty : TypeId} {pos : String} {after : Array Edge} : ∀ a : Act, Fits ⟨n, ds, none⟩ a env → Region.wanted ⟨dst, op, ty, pos, after, none⟩ (yielded ops a.tmps) = true := fun _ _ => by simp [Region.wanted]
theorem YeZ {n : Nat} {ds : List Deferred} {ops : Array Oper} {dst : Option Tmp} {op : Op} {ty : TypeId} {pos : String} {after : Array Edge} {j s : Nat} {b : Bool} {oj : Oper} (hj : ops[j]? = some oj) (hs : oj.dst = some s) (hv : get env s = some (.bool b)) :
    ∀ a : Act, Fits ⟨n, ds, none⟩ a env → Region.wanted ⟨dst, op, ty, pos, after, some (j, b)⟩ (yielded ops a.tmps) = true := fun a ha => by simp [Region.wanted, yielded, hj, hs, ha.slot s _ hv]
theorem Ydg {n gf : Nat} {fn : Func} {c : Code} {lb : List Value} {xs : List (List Value)} {HI : List HP} (hf : P.funcs[gf]? = some fn) (hn : fn.ntmps = n) (hb : fn.body = some c) (hle : Nat.ble (lb.length + 1) n = true)
    (h : ∀ (l : Nat) (S : Nat → List HP → Prop) (X : List HP → Prop),
      (∀ (i : Nat) (args : List Value), xs[i]? = some args → ∀ (Y L : List HP), S i L →
        QC P l args B w0 (Y ++ many L :: HI) (fun K => ∃ L', S (i + 1) L' ∧ K = Y ++ many L' :: HI) (fun K => ∃ L', X L' ∧ K = Y ++ many L' :: HI)) →
      ∀ L0, S 0 L0 → VC P ⟨n, [], none⟩ B w0 c (bodyPost P fn (Post B w0 fun _ K => (∃ L, S xs.length L ∧ K = many L :: HI) ∨ ∃ L, X L ∧ K = many L :: HI)) (VY 0 (.func (.yield l) #[] #[] :: lb)) (many L0 :: HI)) : Ybo P gf lb xs B w0 HI := by
  intro l S X hy L0 h0 w hw
  exact callsIn_wide.2 (Yf (args := .func (.yield l) #[] #[] :: lb) hf hn hb hle hw (h l S X hy L0 h0))
end
open Go.RowKit
section
variable {P : Program} {m : Mode} {n : Shp} {B : Nat} {w0 : World} {ops : Array Oper} {Q : Exit → Act → World → Prop} {rest : List Oper} {env : Env} {H : List HP} {d : Nat} {ty : TypeId} {pos : String} {after : Array Edge}
theorem Wd (T : Tab P) {t g o k e size : Nat} {x : Operand} (hx : evo env x = some (.pointer (some ⟨g, o, none⟩))) (ht : look T.ar t = some (k, e, size)) (hn : Nat.ble (d + 1) n.k = true)
    (h : VL P m n B w0 ops Q rest ((d, .slice (some ⟨g, o, none⟩) k k) :: env) H) :
    VL P m n B w0 ops Q (⟨some d, .slice t x none none none, ty, pos, after, none⟩ :: rest) env H := by
  obtain ⟨inf, hu, hinf, hs⟩ := Ot (T.arra ht)
  refine Yw rfl rfl hn rfl (fun a w ha hw => ?_) h
  simp [execOp, ha.eval hx, Instr.sliceAt, Instr.sliceBounds, Instr.sureAddr, run_underlying hu, sizeOf, typeInfo, hinf, Addr.add_lit]
theorem YdL : ∀ (L : List HP), App L [] L
  | [] => rfl
  | _ :: L => ⟨rfl, YdL L⟩
theorem YN {id : Nat} {l : List Oper} (o1 last : List Nat) (hm : P.follows .mixedOrders = true)
    (hB : (Region.noSelect l.toArray && decide ((o1 ++ last).length = l.toArray.size) && Yb0 l.toArray last && (o1.all fun j => !last.contains j) && Vt l.toArray (o1 ++ last) (Array.replicate l.toArray.size false)) = true)
    {l1 l2 : List Oper} (hl1 : Yl l o1 = l1) (hl2 : Yl l last = l2) (h : VL P (some (some [])) n B w0 l.toArray (X5 P l.toArray (Only Q) l2) l1 env H) : VC P n B w0 (.region id l.toArray true) Q env H := by
  simp only [Bool.and_eq_true, decide_eq_true_eq] at hB
  obtain ⟨⟨⟨⟨h1, h2⟩, h3⟩, h4⟩, h5⟩ := hB
  refine ⟨fun a w ha hw => Zs (Q := Only Q) ?_ fun e a w h => by cases e <;> first | exact h | cases h⟩
  have hst : St B w0 (H ++ []) w.drew := by rw [List.append_nil]; exact hw.drew
  have hr : Yu P l.toArray (X5 P l.toArray (Only Q) l2) (St B w0 H) l1 a w.drew := h.run a ha w.drew hst
  rw [← hl1, ← hl2] at hr
  have := Jn (S := St B w0 H) h1 (fun c a w h => h) (by rintro ⟨_, _, h⟩; exact h) l rfl h3 o1 _ a w.drew (Xz _ _) (fun j hj => by simpa using List.all_eq_true.1 h4 j hj) h5 hst.prefix_ hr
  rw [h2] at this
  exact JL hm (X4 _ _ _ _ this)
end
open Go.RowKit
section
variable {P : Program} {B : Nat} {w0 w : World} {H : List HP}
theorem Ou {f : Nat} {xs : Array Value} {Φ : Value → Prop} (hw : St B w0 H w) (h : Calls P f xs w (Post w.heap.size w fun u _ => Φ u)) : Calls P f xs w (Post B w0 fun u K => Φ u ∧ K = H) :=
  h.mono fun _ _ ⟨u, _, e1, hst, hΦ⟩ => ⟨u, H, e1, hw.grow hst.below, hΦ, rfl⟩
theorem QJ {f : Nat} {xs : Array Value} {u : Value} (hw : St B w0 H w) (h : Calls P f xs w fun e w' => e = .returned u ∧ Below w.heap.size w w') : Calls P f xs w (Post B w0 fun v K => v = u ∧ K = H) :=
  h.mono fun _ _ ⟨e1, hb⟩ => ⟨u, H, e1, hw.grow hb, rfl, rfl⟩
theorem Rd.here {A : Option Addr} {xs : List Value} (hr : Rd B w0 H A xs) (hw : St B w0 H w) : Rd w.heap.size w [] A xs := Rd.old fun j v hv => by
  obtain ⟨g, o, e1, hc⟩ := hr w hw j v hv
  refine ⟨g, o, e1, ?_, hc⟩
  rcases Nat.lt_or_ge g w.heap.size with h | h
  · exact h
  · simp [World.cell?, Array.getElem?_eq_none h] at hc
theorem Perm.openT (H : List HP) : Perm [many H] H := by
  have := Perm.open_ H []
  rwa [List.append_nil] at this
theorem Perm.closeT (H : List HP) : Perm H [many H] := by
  have := Perm.close H []
  rwa [List.append_nil] at this
theorem Rd.tail {A : Option Addr} {xs : List Value} (h : Rd B w0 H A xs) : Rd B w0 [many H] A xs := h.mono fun _ hw => hw.perm (.openT _)
end
end Go.Eng
namespace Go.Nw
abbrev Lk := Int × Int × Int
structure Net where
  nodes : Int
  power : List (List Int)
  noise : Int
  thr : Int
  links : List Lk
  margin : List Int
def cmpI (x y : Int) : Int := if x < y then -1 else if y < x then 1 else 0
def cmpL (a b : Lk) : Int := if cmpI a.1 b.1 = 0 then cmpI a.2.1 b.2.1 else cmpI a.1 b.1
def Zl (p : Int) : Bool := decide (p < 0 ∨ 68719476736 < p)
def wide (k : Int) (r : List Int) : Bool := decide ((r.length : Int) ≠ k)
def Vz (n : Net) : Int :=
  if (n.power.length : Int) ≠ n.nodes then 1 else if n.power.any (wide n.nodes) = true then 1 else if n.power.any (fun r => r.any Zl) = true then 2 else 0
def lnk (n : Net) (i : Nat) : Lk := n.links.getD i (0, 0, 0)
def mar (n : Net) (i : Nat) : Int := n.margin.getD i 0
def powr (n : Net) (a b : Int) : Int := (n.power.getD a.toNat []).getD b.toNat 0
def UO (n : Net) (i : Nat) : Int :=
  if ¬ (0 ≤ (lnk n i).1 ∧ (lnk n i).1 < n.nodes) ∨ ¬ (0 ≤ (lnk n i).2.1 ∧ (lnk n i).2.1 < n.nodes) ∨ (lnk n i).1 = (lnk n i).2.1 ∨ (lnk n i).2.2 < 0 ∨ 7 < (lnk n i).2.2 then 2
  else if 0 < i ∧ 0 ≤ cmpL (lnk n (i - 1)) (lnk n i) then 5
  else if mar n i < 0 ∨ powr n (lnk n i).1 (lnk n i).2.1 < mar n i then 2 else 0
def Jq (n : Net) : Nat → Nat → Int
  | 0, _ => 0
  | r + 1, i => if UO n i = 0 then Jq n r (i + 1) else UO n i
def YF (n : Net) : Int :=
  if n.nodes < 2 ∨ 32 < n.nodes then 2 else if Vz n ≠ 0 then Vz n
  else if n.noise < 0 ∨ 68719476736 < n.noise ∨ n.thr < 1000 ∨ 100000 < n.thr then 2
  else if 128 < n.links.length then 8 else if n.margin.length ≠ n.links.length then 11 else Jq n n.links.length 0
def Yq {α : Type} (p : α → Bool) : List α → Int → Int
  | [], _ => -1
  | a :: l, k => if p a then k else Yq p l (k + 1)
theorem Vk {α : Type} (p : α → Bool) : ∀ (l : List α) (k : Int), 0 ≤ k → (0 ≤ Yq p l k ↔ l.any p = true)
  | [], k, _ => by simp [Yq]
  | a :: l, k, h => by
    unfold Yq
    by_cases hp : p a = true
    · simp [hp, h]
    · rw [if_neg hp, Vk p l (k + 1) (by omega)]
      simp [hp]
theorem Jo {α : Type} (p : α → Bool) (l : List α) {k : Nat} {a : α} (h : l[k]? = some a) : Yq p (l.drop k) k = if p a then (k : Int) else Yq p (l.drop (k + 1)) (k + 1) := by
  obtain ⟨hk, rfl⟩ := List.getElem?_eq_some_iff.1 h
  rw [List.drop_eq_getElem_cons hk, Yq]
theorem Yen (n : Net) {i : Nat} (h : i < n.links.length) (h0 : UO n i = 0) : Jq n (n.links.length - i) i = Jq n (n.links.length - (i + 1)) (i + 1) := by
  rw [show n.links.length - i = n.links.length - (i + 1) + 1 by omega, Jq, if_pos h0]
theorem Yeo (n : Net) {i : Nat} (h : i < n.links.length) (h0 : UO n i ≠ 0) : Jq n (n.links.length - i) i = UO n i := by
  rw [show n.links.length - i = n.links.length - (i + 1) + 1 by omega, Jq, if_neg h0]
theorem YeS {n : Net} (h : Vz n = 0) : (n.power.length : Int) = n.nodes ∧ (∀ r ∈ n.power, (r.length : Int) = n.nodes) ∧ ∀ r ∈ n.power, ∀ p ∈ r, 0 ≤ p ∧ p ≤ 68719476736 := by
  unfold Vz at h
  by_cases h1 : (n.power.length : Int) ≠ n.nodes
  · rw [if_pos h1] at h; omega
  rw [if_neg h1] at h
  by_cases h2 : n.power.any (wide n.nodes) = true
  · rw [if_pos h2] at h; omega
  rw [if_neg h2] at h
  by_cases h3 : n.power.any (fun r => r.any Zl) = true
  · rw [if_pos h3] at h; omega
  refine ⟨by omega, fun r hr => ?_, fun r hr p hp => ?_⟩
  · by_cases hw : (r.length : Int) = n.nodes
    · exact hw
    · exact absurd (List.any_eq_true.2 ⟨r, hr, by simp [wide, hw]⟩) h2
  · by_cases ho : Zl p = true
    · exact absurd (List.any_eq_true.2 ⟨r, hr, List.any_eq_true.2 ⟨p, hp, ho⟩⟩) h3
    · simp [Zl] at ho; omega
end Go.Nw
namespace Go.Proofs.YtmalhidldgfeoaaGreatDoor
def Jp : List Int → List Int → Bool
  | [], b => !b.isEmpty
  | _ :: _, [] => false
  | a :: l, b :: m => if a ≠ b then decide (a < b) else Jp l m
theorem Yel {a b : List Int} {i : Nat} {x y : Int} (hx : a[i]? = some x) (hy : b[i]? = some y) : Jp (a.drop i) (b.drop i) = if x ≠ y then decide (x < y) else Jp (a.drop (i + 1)) (b.drop (i + 1)) := by
  obtain ⟨h1, rfl⟩ := List.getElem?_eq_some_iff.1 hx
  obtain ⟨h2, rfl⟩ := List.getElem?_eq_some_iff.1 hy
  rw [List.drop_eq_getElem_cons h1, List.drop_eq_getElem_cons h2]
  rfl
open Go.Eng
theorem YlN : ([(1, ()), (3, ()), (4, ()), (5, ()), (9, ()), (22, ()), (23, ()), (24, ()), (27, ()), (28, ()), (48, ()), (59, ()), (72, ()), (80, ()), (81, ()), (82, ()), (129, ()), (130, ()), (134, ()), (162, ()), (195, ()), (221, ()), (222, ()), (249, ()), (277, ()), (291, ()), (302, ())].all fun x : Nat × Unit => oneT Tryz.prog x.1) = true := by kernel_rfl
theorem YlI : ([(26, 6), (30, 3), (40, 5), (61, 5), (68, 6), (70, 7), (84, 2), (96, 5), (151, 17), (167, 8), (169, 4), (172, 3), (181, 3), (183, 5), (212, 4), (213, 16), (224, 5), (250, 4), (257, 5), (263, 2), (334, 20), (338, 2), (339, 32), (347, 32), (348, 64)].all fun x : Nat × Nat => aggT Tryz.prog x.1 == some x.2) = true := by kernel_rfl
theorem YlL : ([(26, 0, 0), (26, 1, 1), (26, 2, 2), (26, 3, 3), (26, 4, 4), (26, 5, 5), (30, 0, 0), (30, 1, 1), (30, 2, 2), (40, 0, 0), (40, 1, 1), (40, 2, 2), (40, 3, 3), (40, 4, 4), (61, 0, 0), (61, 1, 1), (61, 2, 2), (61, 3, 3), (61, 4, 4), (68, 0, 0), (68, 1, 1), (68, 2, 2), (68, 3, 3), (68, 4, 4), (68, 5, 5), (70, 0, 0), (70, 1, 6), (84, 0, 0), (84, 1, 1), (96, 0, 0), (96, 1, 1), (96, 2, 2), (96, 3, 3), (132, 0, 0), (132, 1, 1), (144, 0, 0), (144, 1, 1), (151, 0, 0), (151, 1, 6), (151, 2, 9), (151, 3, 15), (151, 4, 16), (164, 0, 0), (164, 1, 1), (164, 2, 4), (164, 3, 5), (164, 4, 6), (167, 0, 0), (167, 1, 1), (167, 2, 2), (167, 3, 7), (169, 0, 0), (169, 1, 1), (169, 2, 2), (169, 3, 3), (172, 0, 0), (172, 1, 1), (172, 2, 2), (181, 0, 0), (181, 1, 1), (181, 2, 2), (212, 0, 0), (212, 1, 1), (212, 2, 2), (224, 0, 0), (224, 1, 1), (224, 2, 2), (224, 3, 3), (224, 4, 4), (257, 0, 0), (257, 1, 1), (257, 2, 2), (257, 3, 3), (257, 4, 4), (263, 0, 0), (263, 1, 1), (338, 0, 0), (338, 1, 1)].all fun x : Nat × Nat × Nat => V6 Tryz.prog x.1 x.2.1 == some x.2.2) = true := by kernel_rfl
theorem YlO : ([(22, (24, 1, 24)), (23, (172, 3, 24)), (24, (3, 1, 8)), (27, (68, 6, 48)), (28, (40, 5, 40)), (36, (4, 1, 1)), (37, (28, 1, 24)), (45, (70, 7, 72)), (48, (61, 5, 104)), (59, (72, 1, 24)), (72, (3, 1, 8)), (80, (257, 5, 56)), (81, (167, 8, 64)), (82, (181, 3, 24)), (87, (96, 5, 56)), (130, (5, 1, 1)), (140, (9, 1, 16)), (162, (224, 5, 40))].all fun x : Nat × (Nat × Nat × Nat) => YaP Tryz.prog x.1 == some x.2) = true := by kernel_rfl
theorem YlJ : ([(183, (5, 3, 1)), (213, (4, 212, 4)), (250, (4, 1, 1)), (315, (24, 5, 1)), (334, (20, 277, 1)), (335, (65, 5, 1)), (336, (256, 5, 1)), (339, (16, 338, 2)), (347, (32, 5, 1)), (348, (64, 5, 1))].all fun x : Nat × (Nat × Nat × Nat) => QG Tryz.prog x.1 == some x.2) = true := by kernel_rfl
theorem YlM : ([(2, .i64), (3, .i64), (5, .u8), (21, .i32), (197, .u64), (275, .u32), (277, .u64), (302, .u64)].all fun x : Nat × IntKind => decide (intT Tryz.prog x.1 = some x.2)) = true := by kernel_rfl
theorem YlP : ([(9, ())].all fun x : Nat × Unit => Yda Tryz.prog x.1) = true := by kernel_rfl
def T : Tab Tryz.prog := ⟨_, _, _, _, _, _, _, YlN, YlI, YlL, YlO, YlJ, YlM, YlP⟩
theorem YlQ : ([(3, .int .i64 0), (4, .bool false), (5, .int .u8 0), (9, .string ⟨#[]⟩), (24, .slice none 0 0), (26, .agg #[.int .i64 0, .slice none 0 0, .int .i64 0, .int .i64 0, .slice none 0 0, .slice none 0 0]), (28, .slice none 0 0), (30, .agg #[.int .i64 0, .int .i64 0, .slice none 0 0]), (40, .agg #[.int .i64 0, .int .i64 0, .int .i64 0, .int .i64 0, .int .i64 0]), (61, .agg #[.int .i64 0, .slice none 0 0, .slice none 0 0, .slice none 0 0, .slice none 0 0]), (68, .agg #[.int .i64 0, .int .i64 0, .int .i64 0, .int .i64 0, .int .i64 0, .int .i64 0]), (70, .agg #[.int .i64 0, .int .i64 0, .int .i64 0, .int .i64 0, .int .i64 0, .int .i64 0, .slice none 0 0]), (72, .slice none 0 0), (84, .agg #[.slice none 0 0, .slice none 0 0]), (96, .agg #[.int .i64 0, .int .i64 0, .int .i64 0, .int .i64 0, .slice none 0 0]), (132, .agg #[.pointer none, .slice none 0 0]), (144, .agg #[.slice none 0 0, .int .i64 0]), (151, .agg #[.int .i64 0, .slice none 0 0, .int .i64 0, .int .i64 0, .slice none 0 0, .slice none 0 0, .int .i64 0, .int .i64 0, .slice none 0 0, .int .i64 0, .int .i64 0, .int .i64 0, .int .i64 0, .int .i64 0, .int .i64 0, .slice none 0 0, .int .i64 0]), (164, .agg #[.slice none 0 0, .int .i64 0, .int .i64 0, .slice none 0 0, .slice none 0 0, .slice none 0 0, .slice none 0 0, .slice none 0 0]), (167, .agg #[.int .i64 0, .int .i64 0, .int .i64 0, .int .i64 0, .int .i64 0, .int .i64 0, .int .i64 0, .int .i64 0]), (169, .agg #[.int .i64 0, .int .i64 0, .int .i64 0, .int .i64 0]), (172, .agg #[.int .i64 0, .int .i64 0, .int .i64 0]), (181, .agg #[.int .i64 0, .int .i64 0, .int .i64 0]), (183, .agg #[.int .i64 0, .int .i64 0, .int .i64 0, .int .i64 0, .int .i64 0]), (195, .nilFunc), (212, .agg #[.string ⟨#[]⟩, .int .i64 0, .int .i64 0, .int .i64 0]), (213, .agg #[.string ⟨#[]⟩, .int .i64 0, .int .i64 0, .int .i64 0, .string ⟨#[]⟩, .int .i64 0, .int .i64 0, .int .i64 0, .string ⟨#[]⟩, .int .i64 0, .int .i64 0, .int .i64 0, .string ⟨#[]⟩, .int .i64 0, .int .i64 0, .int .i64 0]), (224, .agg #[.int .i64 0, .map none, .map none, .map none, .bool false]), (249, .pointer none), (250, .agg #[.nilFunc, .nilFunc, .nilFunc, .nilFunc]), (257, .agg #[.int .i64 0, .int .i64 0, .int .i64 0, .int .i64 0, .slice none 0 0]), (263, .agg #[.int .i64 0, .int .i64 0]), (302, .int .u64 0), (315, .agg #[.int .u8 0, .int .u8 0, .int .u8 0, .int .u8 0, .int .u8 0, .int .u8 0, .int .u8 0, .int .u8 0, .int .u8 0, .int .u8 0, .int .u8 0, .int .u8 0, .int .u8 0, .int .u8 0, .int .u8 0, .int .u8 0, .int .u8 0, .int .u8 0, .int .u8 0, .int .u8 0, .int .u8 0, .int .u8 0, .int .u8 0, .int .u8 0]), (331, .agg #[.string ⟨#[]⟩, .string ⟨#[]⟩, .nilIface]), (334, .agg #[.int .u64 0, .int .u64 0, .int .u64 0, .int .u64 0, .int .u64 0, .int .u64 0, .int .u64 0, .int .u64 0, .int .u64 0, .int .u64 0, .int .u64 0, .int .u64 0, .int .u64 0, .int .u64 0, .int .u64 0, .int .u64 0, .int .u64 0, .int .u64 0, .int .u64 0, .int .u64 0]), (335, .agg #[.int .u8 0, .int .u8 0, .int .u8 0, .int .u8 0, .int .u8 0, .int .u8 0, .int .u8 0, .int .u8 0, .int .u8 0, .int .u8 0, .int .u8 0, .int .u8 0, .int .u8 0, .int .u8 0, .int .u8 0, .int .u8 0, .int .u8 0, .int .u8 0, .int .u8 0, .int .u8 0, .int .u8 0, .int .u8 0, .int .u8 0, .int .u8 0, .int .u8 0, .int .u8 0, .int .u8 0, .int .u8 0, .int .u8 0, .int .u8 0, .int .u8 0, .int .u8 0, .int .u8 0, .int .u8 0, .int .u8 0, .int .u8 0, .int .u8 0, .int .u8 0, .int .u8 0, .int .u8 0, .int .u8 0, .int .u8 0, .int .u8 0, .int .u8 0, .int .u8 0, .int .u8 0, .int .u8 0, .int .u8 0, .int .u8 0, .int .u8 0, .int .u8 0, .int .u8 0, .int .u8 0, .int .u8 0, .int .u8 0, .int .u8 0, .int .u8 0, .int .u8 0, .int .u8 0, .int .u8 0, .int .u8 0, .int .u8 0, .int .u8 0, .int .u8 0, .int .u8 0]), (338, .agg #[.int .u8 0, .int .u8 0]), (339, .agg #[.int .u8 0, .int .u8 0, .int .u8 0, .int .u8 0, .int .u8 0, .int .u8 0, .int .u8 0, .int .u8 0, .int .u8 0, .int .u8 0, .int .u8 0, .int .u8 0, .int .u8 0, .int .u8 0, .int .u8 0, .int .u8 0, .int .u8 0, .int .u8 0, .int .u8 0, .int .u8 0, .int .u8 0, .int .u8 0, .int .u8 0, .int .u8 0, .int .u8 0, .int .u8 0, .int .u8 0, .int .u8 0, .int .u8 0, .int .u8 0, .int .u8 0, .int .u8 0]), (346, .agg #[.string ⟨#[]⟩]), (347, .agg #[.int .u8 0, .int .u8 0, .int .u8 0, .int .u8 0, .int .u8 0, .int .u8 0, .int .u8 0, .int .u8 0, .int .u8 0, .int .u8 0, .int .u8 0, .int .u8 0, .int .u8 0, .int .u8 0, .int .u8 0, .int .u8 0, .int .u8 0, .int .u8 0, .int .u8 0, .int .u8 0, .int .u8 0, .int .u8 0, .int .u8 0, .int .u8 0, .int .u8 0, .int .u8 0, .int .u8 0, .int .u8 0, .int .u8 0, .int .u8 0, .int .u8 0, .int .u8 0]), (348, .agg #[.int .u8 0, .int .u8 0, .int .u8 0, .int .u8 0, .int .u8 0, .int .u8 0, .int .u8 0, .int .u8 0, .int .u8 0, .int .u8 0, .int .u8 0, .int .u8 0, .int .u8 0, .int .u8 0, .int .u8 0, .int .u8 0, .int .u8 0, .int .u8 0, .int .u8 0, .int .u8 0, .int .u8 0, .int .u8 0, .int .u8 0, .int .u8 0, .int .u8 0, .int .u8 0, .int .u8 0, .int .u8 0, .int .u8 0, .int .u8 0, .int .u8 0, .int .u8 0, .int .u8 0, .int .u8 0, .int .u8 0, .int .u8 0, .int .u8 0, .int .u8 0, .int .u8 0, .int .u8 0, .int .u8 0, .int .u8 0, .int .u8 0, .int .u8 0, .int .u8 0, .int .u8 0, .int .u8 0, .int .u8 0, .int .u8 0, .int .u8 0, .int .u8 0, .int .u8 0, .int .u8 0, .int .u8 0, .int .u8 0, .int .u8 0, .int .u8 0, .int .u8 0, .int .u8 0, .int .u8 0, .int .u8 0, .int .u8 0, .int .u8 0, .int .u8 0])].map fun x : Nat × Value => O1 Tryz.prog x.1) = [(3, .int .i64 0), (4, .bool false), (5, .int .u8 0), (9, .string ⟨#[]⟩), (24, .slice none 0 0), (26, .agg #[.int .i64 0, .slice none 0 0, .int .i64 0, .int .i64 0, .slice none 0 0, .slice none 0 0]), (28, .slice none 0 0), (30, .agg #[.int .i64 0, .int .i64 0, .slice none 0 0]), (40, .agg #[.int .i64 0, .int .i64 0, .int .i64 0, .int .i64 0, .int .i64 0]), (61, .agg #[.int .i64 0, .slice none 0 0, .slice none 0 0, .slice none 0 0, .slice none 0 0]), (68, .agg #[.int .i64 0, .int .i64 0, .int .i64 0, .int .i64 0, .int .i64 0, .int .i64 0]), (70, .agg #[.int .i64 0, .int .i64 0, .int .i64 0, .int .i64 0, .int .i64 0, .int .i64 0, .slice none 0 0]), (72, .slice none 0 0), (84, .agg #[.slice none 0 0, .slice none 0 0]), (96, .agg #[.int .i64 0, .int .i64 0, .int .i64 0, .int .i64 0, .slice none 0 0]), (132, .agg #[.pointer none, .slice none 0 0]), (144, .agg #[.slice none 0 0, .int .i64 0]), (151, .agg #[.int .i64 0, .slice none 0 0, .int .i64 0, .int .i64 0, .slice none 0 0, .slice none 0 0, .int .i64 0, .int .i64 0, .slice none 0 0, .int .i64 0, .int .i64 0, .int .i64 0, .int .i64 0, .int .i64 0, .int .i64 0, .slice none 0 0, .int .i64 0]), (164, .agg #[.slice none 0 0, .int .i64 0, .int .i64 0, .slice none 0 0, .slice none 0 0, .slice none 0 0, .slice none 0 0, .slice none 0 0]), (167, .agg #[.int .i64 0, .int .i64 0, .int .i64 0, .int .i64 0, .int .i64 0, .int .i64 0, .int .i64 0, .int .i64 0]), (169, .agg #[.int .i64 0, .int .i64 0, .int .i64 0, .int .i64 0]), (172, .agg #[.int .i64 0, .int .i64 0, .int .i64 0]), (181, .agg #[.int .i64 0, .int .i64 0, .int .i64 0]), (183, .agg #[.int .i64 0, .int .i64 0, .int .i64 0, .int .i64 0, .int .i64 0]), (195, .nilFunc), (212, .agg #[.string ⟨#[]⟩, .int .i64 0, .int .i64 0, .int .i64 0]), (213, .agg #[.string ⟨#[]⟩, .int .i64 0, .int .i64 0, .int .i64 0, .string ⟨#[]⟩, .int .i64 0, .int .i64 0, .int .i64 0, .string ⟨#[]⟩, .int .i64 0, .int .i64 0, .int .i64 0, .string ⟨#[]⟩, .int .i64 0, .int .i64 0, .int .i64 0]), (224, .agg #[.int .i64 0, .map none, .map none, .map none, .bool false]), (249, .pointer none), (250, .agg #[.nilFunc, .nilFunc, .nilFunc, .nilFunc]), (257, .agg #[.int .i64 0, .int .i64 0, .int .i64 0, .int .i64 0, .slice none 0 0]), (263, .agg #[.int .i64 0, .int .i64 0]), (302, .int .u64 0), (315, .agg #[.int .u8 0, .int .u8 0, .int .u8 0, .int .u8 0, .int .u8 0, .int .u8 0, .int .u8 0, .int .u8 0, .int .u8 0, .int .u8 0, .int .u8 0, .int .u8 0, .int .u8 0, .int .u8 0, .int .u8 0, .int .u8 0, .int .u8 0, .int .u8 0, .int .u8 0, .int .u8 0, .int .u8 0, .int .u8 0, .int .u8 0, .int .u8 0]), (331, .agg #[.string ⟨#[]⟩, .string ⟨#[]⟩, .nilIface]), (334, .agg #[.int .u64 0, .int .u64 0, .int .u64 0, .int .u64 0, .int .u64 0, .int .u64 0, .int .u64 0, .int .u64 0, .int .u64 0, .int .u64 0, .int .u64 0, .int .u64 0, .int .u64 0, .int .u64 0, .int .u64 0, .int .u64 0, .int .u64 0, .int .u64 0, .int .u64 0, .int .u64 0]), (335, .agg #[.int .u8 0, .int .u8 0, .int .u8 0, .int .u8 0, .int .u8 0, .int .u8 0, .int .u8 0, .int .u8 0, .int .u8 0, .int .u8 0, .int .u8 0, .int .u8 0, .int .u8 0, .int .u8 0, .int .u8 0, .int .u8 0, .int .u8 0, .int .u8 0, .int .u8 0, .int .u8 0, .int .u8 0, .int .u8 0, .int .u8 0, .int .u8 0, .int .u8 0, .int .u8 0, .int .u8 0, .int .u8 0, .int .u8 0, .int .u8 0, .int .u8 0, .int .u8 0, .int .u8 0, .int .u8 0, .int .u8 0, .int .u8 0, .int .u8 0, .int .u8 0, .int .u8 0, .int .u8 0, .int .u8 0, .int .u8 0, .int .u8 0, .int .u8 0, .int .u8 0, .int .u8 0, .int .u8 0, .int .u8 0, .int .u8 0, .int .u8 0, .int .u8 0, .int .u8 0, .int .u8 0, .int .u8 0, .int .u8 0, .int .u8 0, .int .u8 0, .int .u8 0, .int .u8 0, .int .u8 0, .int .u8 0, .int .u8 0, .int .u8 0, .int .u8 0, .int .u8 0]), (338, .agg #[.int .u8 0, .int .u8 0]), (339, .agg #[.int .u8 0, .int .u8 0, .int .u8 0, .int .u8 0, .int .u8 0, .int .u8 0, .int .u8 0, .int .u8 0, .int .u8 0, .int .u8 0, .int .u8 0, .int .u8 0, .int .u8 0, .int .u8 0, .int .u8 0, .int .u8 0, .int .u8 0, .int .u8 0, .int .u8 0, .int .u8 0, .int .u8 0, .int .u8 0, .int .u8 0, .int .u8 0, .int .u8 0, .int .u8 0, .int .u8 0, .int .u8 0, .int .u8 0, .int .u8 0, .int .u8 0, .int .u8 0]), (346, .agg #[.string ⟨#[]⟩]), (347, .agg #[.int .u8 0, .int .u8 0, .int .u8 0, .int .u8 0, .int .u8 0, .int .u8 0, .int .u8 0, .int .u8 0, .int .u8 0, .int .u8 0, .int .u8 0, .int .u8 0, .int .u8 0, .int .u8 0, .int .u8 0, .int .u8 0, .int .u8 0, .int .u8 0, .int .u8 0, .int .u8 0, .int .u8 0, .int .u8 0, .int .u8 0, .int .u8 0, .int .u8 0, .int .u8 0, .int .u8 0, .int .u8 0, .int .u8 0, .int .u8 0, .int .u8 0, .int .u8 0]), (348, .agg #[.int .u8 0, .int .u8 0, .int .u8 0, .int .u8 0, .int .u8 0, .int .u8 0, .int .u8 0, .int .u8 0, .int .u8 0, .int .u8 0, .int .u8 0, .int .u8 0, .int .u8 0, .int .u8 0, .int .u8 0, .int .u8 0, .int .u8 0, .int .u8 0, .int .u8 0, .int .u8 0, .int .u8 0, .int .u8 0, .int .u8 0, .int .u8 0, .int .u8 0, .int .u8 0, .int .u8 0, .int .u8 0, .int .u8 0, .int .u8 0, .int .u8 0, .int .u8 0, .int .u8 0, .int .u8 0, .int .u8 0, .int .u8 0, .int .u8 0, .int .u8 0, .int .u8 0, .int .u8 0, .int .u8 0, .int .u8 0, .int .u8 0, .int .u8 0, .int .u8 0, .int .u8 0, .int .u8 0, .int .u8 0, .int .u8 0, .int .u8 0, .int .u8 0, .int .u8 0, .int .u8 0, .int .u8 0, .int .u8 0, .int .u8 0, .int .u8 0, .int .u8 0, .int .u8 0, .int .u8 0, .int .u8 0, .int .u8 0, .int .u8 0, .int .u8 0])].map fun x : Nat × Value => some x.2 := by kernel_rfl
theorem YlK : ([(26, [(0, 1), (1, 1), (2, 1), (3, 1), (4, 1), (5, 1)]), (30, [(0, 1), (1, 1), (2, 1)]), (40, [(0, 1), (1, 1), (2, 1), (3, 1), (4, 1)]), (61, [(0, 1), (1, 1), (2, 1), (3, 1), (4, 1)]), (68, [(0, 1), (1, 1), (2, 1), (3, 1), (4, 1), (5, 1)]), (70, [(0, 6), (6, 1)]), (84, [(0, 1), (1, 1)]), (96, [(0, 1), (1, 1), (2, 1), (3, 1), (4, 1)]), (144, [(0, 1), (1, 1)]), (151, [(0, 6), (6, 3), (9, 6), (15, 1), (16, 1)]), (164, [(0, 1), (1, 3), (4, 1), (5, 1), (6, 2)]), (167, [(0, 1), (1, 1), (2, 5), (7, 1)]), (169, [(0, 1), (1, 1), (2, 1), (3, 1)]), (172, [(0, 1), (1, 1), (2, 1)]), (181, [(0, 1), (1, 1), (2, 1)]), (183, [(0, 1), (1, 1), (2, 1), (3, 1), (4, 1)]), (212, [(0, 1), (1, 1), (2, 1), (3, 1)]), (213, [(0, 4), (4, 4), (8, 4), (12, 4)]), (224, [(0, 1), (1, 1), (2, 1), (3, 1), (4, 1)]), (250, [(0, 1), (1, 1), (2, 1), (3, 1)]), (257, [(0, 1), (1, 1), (2, 1), (3, 1), (4, 1)]), (263, [(0, 1), (1, 1)]), (331, [(0, 1), (1, 1), (2, 1)]), (334, [(0, 1), (1, 1), (2, 1), (3, 1), (4, 1), (5, 1), (6, 1), (7, 1), (8, 1), (9, 1), (10, 1), (11, 1), (12, 1), (13, 1), (14, 1), (15, 1), (16, 1), (17, 1), (18, 1), (19, 1)]), (338, [(0, 1), (1, 1)]), (339, [(0, 2), (2, 2), (4, 2), (6, 2), (8, 2), (10, 2), (12, 2), (14, 2), (16, 2), (18, 2), (20, 2), (22, 2), (24, 2), (26, 2), (28, 2), (30, 2)]), (346, [(0, 1)]), (347, [(0, 1), (1, 1), (2, 1), (3, 1), (4, 1), (5, 1), (6, 1), (7, 1), (8, 1), (9, 1), (10, 1), (11, 1), (12, 1), (13, 1), (14, 1), (15, 1), (16, 1), (17, 1), (18, 1), (19, 1), (20, 1), (21, 1), (22, 1), (23, 1), (24, 1), (25, 1), (26, 1), (27, 1), (28, 1), (29, 1), (30, 1), (31, 1)]), (348, [(0, 1), (1, 1), (2, 1), (3, 1), (4, 1), (5, 1), (6, 1), (7, 1), (8, 1), (9, 1), (10, 1), (11, 1), (12, 1), (13, 1), (14, 1), (15, 1), (16, 1), (17, 1), (18, 1), (19, 1), (20, 1), (21, 1), (22, 1), (23, 1), (24, 1), (25, 1), (26, 1), (27, 1), (28, 1), (29, 1), (30, 1), (31, 1), (32, 1), (33, 1), (34, 1), (35, 1), (36, 1), (37, 1), (38, 1), (39, 1), (40, 1), (41, 1), (42, 1), (43, 1), (44, 1), (45, 1), (46, 1), (47, 1), (48, 1), (49, 1), (50, 1), (51, 1), (52, 1), (53, 1), (54, 1), (55, 1), (56, 1), (57, 1), (58, 1), (59, 1), (60, 1), (61, 1), (62, 1), (63, 1)])].map fun x : Nat × List (Nat × Nat) => YaT Tryz.prog x.1) = [(26, [(0, 1), (1, 1), (2, 1), (3, 1), (4, 1), (5, 1)]), (30, [(0, 1), (1, 1), (2, 1)]), (40, [(0, 1), (1, 1), (2, 1), (3, 1), (4, 1)]), (61, [(0, 1), (1, 1), (2, 1), (3, 1), (4, 1)]), (68, [(0, 1), (1, 1), (2, 1), (3, 1), (4, 1), (5, 1)]), (70, [(0, 6), (6, 1)]), (84, [(0, 1), (1, 1)]), (96, [(0, 1), (1, 1), (2, 1), (3, 1), (4, 1)]), (144, [(0, 1), (1, 1)]), (151, [(0, 6), (6, 3), (9, 6), (15, 1), (16, 1)]), (164, [(0, 1), (1, 3), (4, 1), (5, 1), (6, 2)]), (167, [(0, 1), (1, 1), (2, 5), (7, 1)]), (169, [(0, 1), (1, 1), (2, 1), (3, 1)]), (172, [(0, 1), (1, 1), (2, 1)]), (181, [(0, 1), (1, 1), (2, 1)]), (183, [(0, 1), (1, 1), (2, 1), (3, 1), (4, 1)]), (212, [(0, 1), (1, 1), (2, 1), (3, 1)]), (213, [(0, 4), (4, 4), (8, 4), (12, 4)]), (224, [(0, 1), (1, 1), (2, 1), (3, 1), (4, 1)]), (250, [(0, 1), (1, 1), (2, 1), (3, 1)]), (257, [(0, 1), (1, 1), (2, 1), (3, 1), (4, 1)]), (263, [(0, 1), (1, 1)]), (331, [(0, 1), (1, 1), (2, 1)]), (334, [(0, 1), (1, 1), (2, 1), (3, 1), (4, 1), (5, 1), (6, 1), (7, 1), (8, 1), (9, 1), (10, 1), (11, 1), (12, 1), (13, 1), (14, 1), (15, 1), (16, 1), (17, 1), (18, 1), (19, 1)]), (338, [(0, 1), (1, 1)]), (339, [(0, 2), (2, 2), (4, 2), (6, 2), (8, 2), (10, 2), (12, 2), (14, 2), (16, 2), (18, 2), (20, 2), (22, 2), (24, 2), (26, 2), (28, 2), (30, 2)]), (346, [(0, 1)]), (347, [(0, 1), (1, 1), (2, 1), (3, 1), (4, 1), (5, 1), (6, 1), (7, 1), (8, 1), (9, 1), (10, 1), (11, 1), (12, 1), (13, 1), (14, 1), (15, 1), (16, 1), (17, 1), (18, 1), (19, 1), (20, 1), (21, 1), (22, 1), (23, 1), (24, 1), (25, 1), (26, 1), (27, 1), (28, 1), (29, 1), (30, 1), (31, 1)]), (348, [(0, 1), (1, 1), (2, 1), (3, 1), (4, 1), (5, 1), (6, 1), (7, 1), (8, 1), (9, 1), (10, 1), (11, 1), (12, 1), (13, 1), (14, 1), (15, 1), (16, 1), (17, 1), (18, 1), (19, 1), (20, 1), (21, 1), (22, 1), (23, 1), (24, 1), (25, 1), (26, 1), (27, 1), (28, 1), (29, 1), (30, 1), (31, 1), (32, 1), (33, 1), (34, 1), (35, 1), (36, 1), (37, 1), (38, 1), (39, 1), (40, 1), (41, 1), (42, 1), (43, 1), (44, 1), (45, 1), (46, 1), (47, 1), (48, 1), (49, 1), (50, 1), (51, 1), (52, 1), (53, 1), (54, 1), (55, 1), (56, 1), (57, 1), (58, 1), (59, 1), (60, 1), (61, 1), (62, 1), (63, 1)])].map fun x : Nat × List (Nat × Nat) => some x.2 := by kernel_rfl
def T2 : Tab2 Tryz.prog := ⟨_, _, YlQ, YlK⟩
theorem en12 (xs : Array Value) (w : World) : (callFunc 12 xs).run Tryz.prog w = .ok (.enter 12 xs) w := by kernel_rfl
theorem en13 (xs : Array Value) (w : World) : (callFunc 13 xs).run Tryz.prog w = .ok (.enter 13 xs) w := by kernel_rfl
theorem en14 (xs : Array Value) (w : World) : (callFunc 14 xs).run Tryz.prog w = .ok (.enter 14 xs) w := by kernel_rfl
theorem en17 (xs : Array Value) (w : World) : (callFunc 17 xs).run Tryz.prog w = .ok (.enter 17 xs) w := by kernel_rfl
theorem en18 (xs : Array Value) (w : World) : (callFunc 18 xs).run Tryz.prog w = .ok (.enter 18 xs) w := by kernel_rfl
theorem en19 (xs : Array Value) (w : World) : (callFunc 19 xs).run Tryz.prog w = .ok (.enter 19 xs) w := by kernel_rfl
theorem en21 (xs : Array Value) (w : World) : (callFunc 21 xs).run Tryz.prog w = .ok (.enter 21 xs) w := by kernel_rfl
theorem en23 (xs : Array Value) (w : World) : (callFunc 23 xs).run Tryz.prog w = .ok (.enter 23 xs) w := by kernel_rfl
theorem en25 (xs : Array Value) (w : World) : (callFunc 25 xs).run Tryz.prog w = .ok (.enter 25 xs) w := by kernel_rfl
theorem en27 (xs : Array Value) (w : World) : (callFunc 27 xs).run Tryz.prog w = .ok (.enter 27 xs) w := by kernel_rfl
theorem en32 (xs : Array Value) (w : World) : (callFunc 32 xs).run Tryz.prog w = .ok (.enter 32 xs) w := by kernel_rfl
theorem en33 (xs : Array Value) (w : World) : (callFunc 33 xs).run Tryz.prog w = .ok (.enter 33 xs) w := by kernel_rfl
theorem en34 (xs : Array Value) (w : World) : (callFunc 34 xs).run Tryz.prog w = .ok (.enter 34 xs) w := by kernel_rfl
theorem en37 (xs : Array Value) (w : World) : (callFunc 37 xs).run Tryz.prog w = .ok (.enter 37 xs) w := by kernel_rfl
theorem en38 (xs : Array Value) (w : World) : (callFunc 38 xs).run Tryz.prog w = .ok (.enter 38 xs) w := by kernel_rfl
theorem en39 (xs : Array Value) (w : World) : (callFunc 39 xs).run Tryz.prog w = .ok (.enter 39 xs) w := by kernel_rfl
theorem en40 (xs : Array Value) (w : World) : (callFunc 40 xs).run Tryz.prog w = .ok (.enter 40 xs) w := by kernel_rfl
theorem en41 (xs : Array Value) (w : World) : (callFunc 41 xs).run Tryz.prog w = .ok (.enter 41 xs) w := by kernel_rfl
theorem en42 (xs : Array Value) (w : World) : (callFunc 42 xs).run Tryz.prog w = .ok (.enter 42 xs) w := by kernel_rfl
theorem en43 (xs : Array Value) (w : World) : (callFunc 43 xs).run Tryz.prog w = .ok (.enter 43 xs) w := by kernel_rfl
theorem en44 (xs : Array Value) (w : World) : (callFunc 44 xs).run Tryz.prog w = .ok (.enter 44 xs) w := by kernel_rfl
theorem en45 (xs : Array Value) (w : World) : (callFunc 45 xs).run Tryz.prog w = .ok (.enter 45 xs) w := by kernel_rfl
theorem en47 (xs : Array Value) (w : World) : (callFunc 47 xs).run Tryz.prog w = .ok (.enter 47 xs) w := by kernel_rfl
theorem en50 (xs : Array Value) (w : World) : (callFunc 50 xs).run Tryz.prog w = .ok (.enter 50 xs) w := by kernel_rfl
theorem en51 (xs : Array Value) (w : World) : (callFunc 51 xs).run Tryz.prog w = .ok (.enter 51 xs) w := by kernel_rfl
theorem en52 (xs : Array Value) (w : World) : (callFunc 52 xs).run Tryz.prog w = .ok (.enter 52 xs) w := by kernel_rfl
theorem en53 (xs : Array Value) (w : World) : (callFunc 53 xs).run Tryz.prog w = .ok (.enter 53 xs) w := by kernel_rfl
theorem en54 (xs : Array Value) (w : World) : (callFunc 54 xs).run Tryz.prog w = .ok (.enter 54 xs) w := by kernel_rfl
theorem en55 (xs : Array Value) (w : World) : (callFunc 55 xs).run Tryz.prog w = .ok (.enter 55 xs) w := by kernel_rfl
theorem en56 (xs : Array Value) (w : World) : (callFunc 56 xs).run Tryz.prog w = .ok (.enter 56 xs) w := by kernel_rfl
theorem en57 (xs : Array Value) (w : World) : (callFunc 57 xs).run Tryz.prog w = .ok (.enter 57 xs) w := by kernel_rfl
theorem en58 (xs : Array Value) (w : World) : (callFunc 58 xs).run Tryz.prog w = .ok (.enter 58 xs) w := by kernel_rfl
theorem en59 (xs : Array Value) (w : World) : (callFunc 59 xs).run Tryz.prog w = .ok (.enter 59 xs) w := by kernel_rfl
theorem en62 (xs : Array Value) (w : World) : (callFunc 62 xs).run Tryz.prog w = .ok (.enter 62 xs) w := by kernel_rfl
theorem en64 (xs : Array Value) (w : World) : (callFunc 64 xs).run Tryz.prog w = .ok (.enter 64 xs) w := by kernel_rfl
theorem en65 (xs : Array Value) (w : World) : (callFunc 65 xs).run Tryz.prog w = .ok (.enter 65 xs) w := by kernel_rfl
theorem en66 (xs : Array Value) (w : World) : (callFunc 66 xs).run Tryz.prog w = .ok (.enter 66 xs) w := by kernel_rfl
theorem en67 (xs : Array Value) (w : World) : (callFunc 67 xs).run Tryz.prog w = .ok (.enter 67 xs) w := by kernel_rfl
theorem en68 (xs : Array Value) (w : World) : (callFunc 68 xs).run Tryz.prog w = .ok (.enter 68 xs) w := by kernel_rfl
theorem en69 (xs : Array Value) (w : World) : (callFunc 69 xs).run Tryz.prog w = .ok (.enter 69 xs) w := by kernel_rfl
theorem en73 (xs : Array Value) (w : World) : (callFunc 73 xs).run Tryz.prog w = .ok (.enter 73 xs) w := by kernel_rfl
theorem en74 (xs : Array Value) (w : World) : (callFunc 74 xs).run Tryz.prog w = .ok (.enter 74 xs) w := by kernel_rfl
theorem en75 (xs : Array Value) (w : World) : (callFunc 75 xs).run Tryz.prog w = .ok (.enter 75 xs) w := by kernel_rfl
theorem en76 (xs : Array Value) (w : World) : (callFunc 76 xs).run Tryz.prog w = .ok (.enter 76 xs) w := by kernel_rfl
theorem en77 (xs : Array Value) (w : World) : (callFunc 77 xs).run Tryz.prog w = .ok (.enter 77 xs) w := by kernel_rfl
theorem en78 (xs : Array Value) (w : World) : (callFunc 78 xs).run Tryz.prog w = .ok (.enter 78 xs) w := by kernel_rfl
theorem en81 (xs : Array Value) (w : World) : (callFunc 81 xs).run Tryz.prog w = .ok (.enter 81 xs) w := by kernel_rfl
theorem en82 (xs : Array Value) (w : World) : (callFunc 82 xs).run Tryz.prog w = .ok (.enter 82 xs) w := by kernel_rfl
theorem en85 (xs : Array Value) (w : World) : (callFunc 85 xs).run Tryz.prog w = .ok (.enter 85 xs) w := by kernel_rfl
theorem en86 (xs : Array Value) (w : World) : (callFunc 86 xs).run Tryz.prog w = .ok (.enter 86 xs) w := by kernel_rfl
theorem en87 (xs : Array Value) (w : World) : (callFunc 87 xs).run Tryz.prog w = .ok (.enter 87 xs) w := by kernel_rfl
theorem en90 (xs : Array Value) (w : World) : (callFunc 90 xs).run Tryz.prog w = .ok (.enter 90 xs) w := by kernel_rfl
theorem en91 (xs : Array Value) (w : World) : (callFunc 91 xs).run Tryz.prog w = .ok (.enter 91 xs) w := by kernel_rfl
theorem en92 (xs : Array Value) (w : World) : (callFunc 92 xs).run Tryz.prog w = .ok (.enter 92 xs) w := by kernel_rfl
theorem en93 (xs : Array Value) (w : World) : (callFunc 93 xs).run Tryz.prog w = .ok (.enter 93 xs) w := by kernel_rfl
theorem en94 (xs : Array Value) (w : World) : (callFunc 94 xs).run Tryz.prog w = .ok (.enter 94 xs) w := by kernel_rfl
theorem en95 (xs : Array Value) (w : World) : (callFunc 95 xs).run Tryz.prog w = .ok (.enter 95 xs) w := by kernel_rfl
theorem en96 (xs : Array Value) (w : World) : (callFunc 96 xs).run Tryz.prog w = .ok (.enter 96 xs) w := by kernel_rfl
theorem en97 (xs : Array Value) (w : World) : (callFunc 97 xs).run Tryz.prog w = .ok (.enter 97 xs) w := by kernel_rfl
theorem en98 (xs : Array Value) (w : World) : (callFunc 98 xs).run Tryz.prog w = .ok (.enter 98 xs) w := by kernel_rfl
theorem en99 (xs : Array Value) (w : World) : (callFunc 99 xs).run Tryz.prog w = .ok (.enter 99 xs) w := by kernel_rfl
theorem Ox (xs : Array Value) (w : World) : (callFunc 100 xs).run Tryz.prog w = .ok (.enter 100 xs) w := by kernel_rfl
theorem Yl1 (xs : Array Value) (w : World) : (callFunc 101 xs).run Tryz.prog w = .ok (.enter 101 xs) w := by kernel_rfl
theorem YkP (xs : Array Value) (w : World) : (callFunc 102 xs).run Tryz.prog w = .ok (.enter 102 xs) w := by kernel_rfl
theorem YkQ (xs : Array Value) (w : World) : (callFunc 103 xs).run Tryz.prog w = .ok (.enter 103 xs) w := by kernel_rfl
theorem Ygk (xs : Array Value) (w : World) : (callFunc 104 xs).run Tryz.prog w = .ok (.enter 104 xs) w := by kernel_rfl
theorem YiK (xs : Array Value) (w : World) : (callFunc 105 xs).run Tryz.prog w = .ok (.enter 105 xs) w := by kernel_rfl
theorem YkR (xs : Array Value) (w : World) : (callFunc 108 xs).run Tryz.prog w = .ok (.enter 108 xs) w := by kernel_rfl
theorem YkS (xs : Array Value) (w : World) : (callFunc 109 xs).run Tryz.prog w = .ok (.enter 109 xs) w := by kernel_rfl
theorem UJ (xs : Array Value) (w : World) : (callFunc 110 xs).run Tryz.prog w = .ok (.enter 110 xs) w := by kernel_rfl
theorem Ygl (xs : Array Value) (w : World) : (callFunc 111 xs).run Tryz.prog w = .ok (.enter 111 xs) w := by kernel_rfl
theorem JB (xs : Array Value) (w : World) : (callFunc 112 xs).run Tryz.prog w = .ok (.enter 112 xs) w := by kernel_rfl
theorem JC (xs : Array Value) (w : World) : (callFunc 113 xs).run Tryz.prog w = .ok (.enter 113 xs) w := by kernel_rfl
theorem JD (xs : Array Value) (w : World) : (callFunc 114 xs).run Tryz.prog w = .ok (.enter 114 xs) w := by kernel_rfl
theorem UK (xs : Array Value) (w : World) : (callFunc 115 xs).run Tryz.prog w = .ok (.enter 115 xs) w := by kernel_rfl
theorem UL (xs : Array Value) (w : World) : (callFunc 116 xs).run Tryz.prog w = .ok (.enter 116 xs) w := by kernel_rfl
theorem Ygm (xs : Array Value) (w : World) : (callFunc 117 xs).run Tryz.prog w = .ok (.enter 117 xs) w := by kernel_rfl
theorem YiL (xs : Array Value) (w : World) : (callFunc 118 xs).run Tryz.prog w = .ok (.enter 118 xs) w := by kernel_rfl
theorem YkT (xs : Array Value) (w : World) : (callFunc 120 xs).run Tryz.prog w = .ok (.enter 120 xs) w := by kernel_rfl
theorem Ygn (xs : Array Value) (w : World) : (callFunc 121 xs).run Tryz.prog w = .ok (.enter 121 xs) w := by kernel_rfl
theorem Yl2 (xs : Array Value) (w : World) : (callFunc 122 xs).run Tryz.prog w = .ok (.enter 122 xs) w := by kernel_rfl
theorem XM (xs : Array Value) (w : World) : (callFunc 126 xs).run Tryz.prog w = .ok (.enter 126 xs) w := by kernel_rfl
theorem UM (xs : Array Value) (w : World) : (callFunc 129 xs).run Tryz.prog w = .ok (.enter 129 xs) w := by kernel_rfl
theorem YkU (xs : Array Value) (w : World) : (callFunc 130 xs).run Tryz.prog w = .ok (.enter 130 xs) w := by kernel_rfl
theorem YkV (xs : Array Value) (w : World) : (callFunc 131 xs).run Tryz.prog w = .ok (.enter 131 xs) w := by kernel_rfl
theorem VI (xs : Array Value) (w : World) : (callFunc 132 xs).run Tryz.prog w = .ok (.enter 132 xs) w := by kernel_rfl
theorem Oy (xs : Array Value) (w : World) : (callFunc 133 xs).run Tryz.prog w = .ok (.enter 133 xs) w := by kernel_rfl
theorem YkW (xs : Array Value) (w : World) : (callFunc 134 xs).run Tryz.prog w = .ok (.enter 134 xs) w := by kernel_rfl
theorem Oz (xs : Array Value) (w : World) : (callFunc 135 xs).run Tryz.prog w = .ok (.enter 135 xs) w := by kernel_rfl
theorem Yl3 (xs : Array Value) (w : World) : (callFunc 136 xs).run Tryz.prog w = .ok (.enter 136 xs) w := by kernel_rfl
theorem YbC (xs : Array Value) (w : World) : (callFunc 137 xs).run Tryz.prog w = .ok (.enter 137 xs) w := by kernel_rfl
theorem Z1 (xs : Array Value) (w : World) : (callFunc 142 xs).run Tryz.prog w = .ok (.enter 142 xs) w := by kernel_rfl
theorem Yl4 (xs : Array Value) (w : World) : (callFunc 143 xs).run Tryz.prog w = .ok (.enter 143 xs) w := by kernel_rfl
theorem Ygo (xs : Array Value) (w : World) : (callFunc 144 xs).run Tryz.prog w = .ok (.enter 144 xs) w := by kernel_rfl
theorem Yl5 (xs : Array Value) (w : World) : (callFunc 145 xs).run Tryz.prog w = .ok (.enter 145 xs) w := by kernel_rfl
theorem YbD (xs : Array Value) (w : World) : (callFunc 148 xs).run Tryz.prog w = .ok (.enter 148 xs) w := by kernel_rfl
theorem YkX (xs : Array Value) (w : World) : (callFunc 149 xs).run Tryz.prog w = .ok (.enter 149 xs) w := by kernel_rfl
theorem Yl6 (xs : Array Value) (w : World) : (callFunc 150 xs).run Tryz.prog w = .ok (.enter 150 xs) w := by kernel_rfl
theorem Yl7 (xs : Array Value) (w : World) : (callFunc 151 xs).run Tryz.prog w = .ok (.enter 151 xs) w := by kernel_rfl
theorem Yl8 (xs : Array Value) (w : World) : (callFunc 152 xs).run Tryz.prog w = .ok (.enter 152 xs) w := by kernel_rfl
theorem Yl9 (xs : Array Value) (w : World) : (callFunc 153 xs).run Tryz.prog w = .ok (.enter 153 xs) w := by kernel_rfl
theorem Yma (xs : Array Value) (w : World) : (callFunc 154 xs).run Tryz.prog w = .ok (.enter 154 xs) w := by kernel_rfl
theorem YbE (xs : Array Value) (w : World) : (callFunc 155 xs).run Tryz.prog w = .ok (.enter 155 xs) w := by kernel_rfl
theorem YkY (xs : Array Value) (w : World) : (callFunc 158 xs).run Tryz.prog w = .ok (.enter 158 xs) w := by kernel_rfl
theorem YiM (xs : Array Value) (w : World) : (callFunc 159 xs).run Tryz.prog w = .ok (.enter 159 xs) w := by kernel_rfl
theorem YiN (xs : Array Value) (w : World) : (callFunc 160 xs).run Tryz.prog w = .ok (.enter 160 xs) w := by kernel_rfl
theorem Ymb (xs : Array Value) (w : World) : (callFunc 161 xs).run Tryz.prog w = .ok (.enter 161 xs) w := by kernel_rfl
theorem Ymc (xs : Array Value) (w : World) : (callFunc 162 xs).run Tryz.prog w = .ok (.enter 162 xs) w := by kernel_rfl
theorem Ymd (xs : Array Value) (w : World) : (callFunc 163 xs).run Tryz.prog w = .ok (.enter 163 xs) w := by kernel_rfl
theorem YbF (xs : Array Value) (w : World) : (callFunc 164 xs).run Tryz.prog w = .ok (.enter 164 xs) w := by kernel_rfl
theorem Ygp (xs : Array Value) (w : World) : (callFunc 165 xs).run Tryz.prog w = .ok (.enter 165 xs) w := by kernel_rfl
theorem YbG (xs : Array Value) (w : World) : (callFunc 166 xs).run Tryz.prog w = .ok (.enter 166 xs) w := by kernel_rfl
theorem Yme (xs : Array Value) (w : World) : (callFunc 167 xs).run Tryz.prog w = .ok (.enter 167 xs) w := by kernel_rfl
theorem Ygq (xs : Array Value) (w : World) : (callFunc 168 xs).run Tryz.prog w = .ok (.enter 168 xs) w := by kernel_rfl
theorem YkZ (xs : Array Value) (w : World) : (callFunc 169 xs).run Tryz.prog w = .ok (.enter 169 xs) w := by kernel_rfl
theorem Ymf (xs : Array Value) (w : World) : (callFunc 170 xs).run Tryz.prog w = .ok (.enter 170 xs) w := by kernel_rfl
theorem Ygr (xs : Array Value) (w : World) : (callFunc 171 xs).run Tryz.prog w = .ok (.enter 171 xs) w := by kernel_rfl
theorem Ymg (xs : Array Value) (w : World) : (callFunc 172 xs).run Tryz.prog w = .ok (.enter 172 xs) w := by kernel_rfl
theorem OA (xs : Array Value) (w : World) : (callFunc 173 xs).run Tryz.prog w = .ok (.enter 173 xs) w := by kernel_rfl
theorem Yk0 (xs : Array Value) (w : World) : (callFunc 174 xs).run Tryz.prog w = .ok (.enter 174 xs) w := by kernel_rfl
theorem Yk1 (xs : Array Value) (w : World) : (callFunc 175 xs).run Tryz.prog w = .ok (.enter 175 xs) w := by kernel_rfl
theorem Yk2 (xs : Array Value) (w : World) : (callFunc 178 xs).run Tryz.prog w = .ok (.enter 178 xs) w := by kernel_rfl
theorem XN (xs : Array Value) (w : World) : (callFunc 195 xs).run Tryz.prog w = .ok (.enter 195 xs) w := by kernel_rfl
theorem Ymh (xs : Array Value) (w : World) : (callFunc 201 xs).run Tryz.prog w = .ok (.enter 201 xs) w := by kernel_rfl
theorem Ymi (xs : Array Value) (w : World) : (callFunc 202 xs).run Tryz.prog w = .ok (.enter 202 xs) w := by kernel_rfl
theorem Ymj (xs : Array Value) (w : World) : (callFunc 203 xs).run Tryz.prog w = .ok (.enter 203 xs) w := by kernel_rfl
theorem Ygs (xs : Array Value) (w : World) : (callFunc 205 xs).run Tryz.prog w = .ok (.enter 205 xs) w := by kernel_rfl
theorem Yk3 (xs : Array Value) (w : World) : (callFunc 206 xs).run Tryz.prog w = .ok (.enter 206 xs) w := by kernel_rfl
theorem Ymk (xs : Array Value) (w : World) : (callFunc 207 xs).run Tryz.prog w = .ok (.enter 207 xs) w := by kernel_rfl
theorem Ygt (xs : Array Value) (w : World) : (callFunc 208 xs).run Tryz.prog w = .ok (.enter 208 xs) w := by kernel_rfl
theorem Yml (xs : Array Value) (w : World) : (callFunc 209 xs).run Tryz.prog w = .ok (.enter 209 xs) w := by kernel_rfl
theorem Ygu (xs : Array Value) (w : World) : (callFunc 210 xs).run Tryz.prog w = .ok (.enter 210 xs) w := by kernel_rfl
theorem YbH (xs : Array Value) (w : World) : (callFunc 211 xs).run Tryz.prog w = .ok (.enter 211 xs) w := by kernel_rfl
theorem Ymm (xs : Array Value) (w : World) : (callFunc 212 xs).run Tryz.prog w = .ok (.enter 212 xs) w := by kernel_rfl
theorem Ymn (xs : Array Value) (w : World) : (callFunc 214 xs).run Tryz.prog w = .ok (.enter 214 xs) w := by kernel_rfl
theorem Yk4 (xs : Array Value) (w : World) : (callFunc 227 xs).run Tryz.prog w = .ok (.enter 227 xs) w := by kernel_rfl
theorem Yk5 (xs : Array Value) (w : World) : (callFunc 228 xs).run Tryz.prog w = .ok (.enter 228 xs) w := by kernel_rfl
theorem YbI (xs : Array Value) (w : World) : (callFunc 229 xs).run Tryz.prog w = .ok (.enter 229 xs) w := by kernel_rfl
theorem Ymo (xs : Array Value) (w : World) : (callFunc 238 xs).run Tryz.prog w = .ok (.enter 238 xs) w := by kernel_rfl
theorem YbJ (xs : Array Value) (w : World) : (callFunc 244 xs).run Tryz.prog w = .ok (.enter 244 xs) w := by kernel_rfl
theorem Ymp (xs : Array Value) (w : World) : (callFunc 245 xs).run Tryz.prog w = .ok (.enter 245 xs) w := by kernel_rfl
theorem Ygv (xs : Array Value) (w : World) : (callFunc 246 xs).run Tryz.prog w = .ok (.enter 246 xs) w := by kernel_rfl
theorem Ymq (xs : Array Value) (w : World) : (callFunc 247 xs).run Tryz.prog w = .ok (.enter 247 xs) w := by kernel_rfl
theorem Yk6 (xs : Array Value) (w : World) : (callFunc 248 xs).run Tryz.prog w = .ok (.enter 248 xs) w := by kernel_rfl
theorem Ymr (xs : Array Value) (w : World) : (callFunc 249 xs).run Tryz.prog w = .ok (.enter 249 xs) w := by kernel_rfl
theorem Yms (xs : Array Value) (w : World) : (callFunc 250 xs).run Tryz.prog w = .ok (.enter 250 xs) w := by kernel_rfl
theorem Ymt (xs : Array Value) (w : World) : (callFunc 251 xs).run Tryz.prog w = .ok (.enter 251 xs) w := by kernel_rfl
theorem Ymu (xs : Array Value) (w : World) : (callFunc 252 xs).run Tryz.prog w = .ok (.enter 252 xs) w := by kernel_rfl
theorem Yk7 (xs : Array Value) (w : World) : (callFunc 284 xs).run Tryz.prog w = .ok (.enter 284 xs) w := by kernel_rfl
theorem Yk8 (xs : Array Value) (w : World) : (callFunc 285 xs).run Tryz.prog w = .ok (.enter 285 xs) w := by kernel_rfl
theorem Ymv (xs : Array Value) (w : World) : (callFunc 286 xs).run Tryz.prog w = .ok (.enter 286 xs) w := by kernel_rfl
theorem Ymw (xs : Array Value) (w : World) : (callFunc 287 xs).run Tryz.prog w = .ok (.enter 287 xs) w := by kernel_rfl
theorem z3 (w : World) : (zeroValue 3).run Tryz.prog w = .ok (.int .i64 0) w := by kernel_rfl
theorem z4 (w : World) : (zeroValue 4).run Tryz.prog w = .ok (.bool false) w := by kernel_rfl
theorem z70 (w : World) : (zeroValue 70).run Tryz.prog w = .ok (.agg #[.int .i64 0, .int .i64 0, .int .i64 0, .int .i64 0, .int .i64 0, .int .i64 0, .slice none 0 0]) w := by kernel_rfl
theorem z72 (w : World) : (zeroValue 72).run Tryz.prog w = .ok (.slice none 0 0) w := by kernel_rfl
theorem z167 (w : World) : (zeroValue 167).run Tryz.prog w = .ok (.agg #[.int .i64 0, .int .i64 0, .int .i64 0, .int .i64 0, .int .i64 0, .int .i64 0, .int .i64 0, .int .i64 0]) w := by kernel_rfl
theorem z212 (w : World) : (zeroValue 212).run Tryz.prog w = .ok (.agg #[.string ⟨#[]⟩, .int .i64 0, .int .i64 0, .int .i64 0]) w := by kernel_rfl
theorem z213 (w : World) : (zeroValue 213).run Tryz.prog w = .ok (.agg #[.string ⟨#[]⟩, .int .i64 0, .int .i64 0, .int .i64 0, .string ⟨#[]⟩, .int .i64 0, .int .i64 0, .int .i64 0, .string ⟨#[]⟩, .int .i64 0, .int .i64 0, .int .i64 0, .string ⟨#[]⟩, .int .i64 0, .int .i64 0, .int .i64 0]) w := by kernel_rfl
end Go.Proofs.YtmalhidldgfeoaaGreatDoor
namespace Go.Eng
open Go.RowKit Go.Proofs Go.Proofs.YtmalhidldgfeoaaGreatDoor
section
variable {m : Mode} {n : Shp} {B : Nat} {w0 : World} {ops : Array Oper} {Q : Exit → Act → World → Prop} {rest : List Oper} {env : Env} {H : List HP} {d : Nat} {ty : TypeId} {pos : String} {after : Array Edge} {xt yt : TypeId} {x y : Operand} {k : IntKind} {a b : Int} {s t : ByteArray}
theorem zs1 {x : Operand} {v : Value} (h : VL Tryz.prog m n B w0 ops Q rest ((d, v) :: env) H) (hx : evo env x = some v := by exact rfl) (hn : Nat.ble (d + 1) n.k = true := by exact rfl) : VL Tryz.prog m n B w0 ops Q (⟨some d, .move x, ty, pos, after, none⟩ :: rest) env H := YjT hx hn h
theorem zs2 {x : Operand} {v : Value} (h : VL Tryz.prog m n B w0 ops Q rest ((d, v) :: env) H) (hx : evo env x = some v := by exact rfl) (hn : Nat.ble (d + 1) n.k = true := by exact rfl) : VL Tryz.prog m n B w0 ops Q (⟨some d, .assign x, ty, pos, after, none⟩ :: rest) env H := YgS hx hn h
theorem zs3 {m : Mode} {d : Nat} {op : Op} {ty : TypeId} {pos : String} {after : Array Edge} {j s : Nat} {b : Bool} {v : Value} {oj : Oper} (h : VL Tryz.prog m n B w0 ops Q rest ((d, undef) :: env) H) (hj : ops[j]? = some oj := by exact rfl) (hs : oj.dst = some s := by exact rfl) (hv : get env s = some v := by exact rfl) (hne : notB v b = true := by exact rfl) (hn : Nat.ble (d + 1) n.k = true := by exact rfl) : VL Tryz.prog m n B w0 ops Q (⟨some d, op, ty, pos, after, some (j, b)⟩ :: rest) env H := Ydp hj hs hv hne hn h
theorem zs4 {m : Mode} {dst : Option Tmp} {op : Op} {ty : TypeId} {pos : String} {after : Array Edge} {j s : Nat} {b : Bool} {oj : Oper} (h : VL Tryz.prog m n B w0 ops Q (⟨dst, op, ty, pos, after, none⟩ :: rest) env H) (hj : ops[j]? = some oj := by exact rfl) (hs : oj.dst = some s := by exact rfl) (hv : get env s = some (.bool b) := by exact rfl) : VL Tryz.prog m n B w0 ops Q (⟨dst, op, ty, pos, after, some (j, b)⟩ :: rest) env H := Yco hj hs hv h
theorem zs5 {x : Operand} {p : Addr} (h : VL Tryz.prog m n B w0 ops Q rest ((d, .pointer (some p)) :: env) H) (hx : evo env x = some (.pointer (some p)) := by exact rfl) (hn : Nat.ble (d + 1) n.k = true := by exact rfl) : VL Tryz.prog m n B w0 ops Q (⟨some d, .nilCheck x, ty, pos, after, none⟩ :: rest) env H := VS hx hn h
theorem zs6 {s f k g i : Nat} {x : Operand} (h : VL Tryz.prog m n B w0 ops Q rest ((d, .pointer (some ⟨g, i + k, none⟩)) :: env) H) (hx : evo env x = some (.pointer (some ⟨g, i, none⟩)) := by exact rfl) (hf : Uc T.fo s f = some k := by exact rfl) (hn : Nat.ble (d + 1) n.k = true := by exact rfl) : VL Tryz.prog m n B w0 ops Q (⟨some d, .fieldAddr s x f, ty, pos, after, none⟩ :: rest) env H := Ycm T hx hf hn h
theorem zs7 {t g i : Nat} {cs : Array Value} {tt : TypeId} {fr : Nat × Nat} {v : Value} {x : Operand} (h : VL Tryz.prog m n B w0 ops Q rest ((d, v) :: env) H) (hx : evo env x = some (.pointer (some ⟨g, i, none⟩)) := by exact rfl) (hm : blk g (.cells cs tt fr) ∈ H := by (exact zm; done)) (hv : nth cs.toList i = some v := by exact rfl) (ht : look T.sc t = some () := by exact rfl) (hn : Nat.ble (d + 1) n.k = true := by exact rfl) : VL Tryz.prog m n B w0 ops Q (⟨some d, .load t x, ty, pos, after, none⟩ :: rest) env H := YjQ T hx hm hv ht hn h
theorem zs8 {t g k : Nat} {cs : Array Value} {tt : TypeId} {fr : Nat × Nat} {x : Operand} (h : VL Tryz.prog m n B w0 ops Q rest ((d, .agg cs) :: env) H) (hx : evo env x = some (.pointer (some ⟨g, 0, none⟩)) := by exact rfl) (hm : blk g (.cells cs tt fr) ∈ H := by (exact zm; done)) (ht : look T.ag t = some k := by exact rfl) (hk : cs.size = k := by exact rfl) (hn : Nat.ble (d + 1) n.k = true := by exact rfl) : VL Tryz.prog m n B w0 ops Q (⟨some d, .load t x, ty, pos, after, none⟩ :: rest) env H := Ya4 T hx hm ht hk hn h
theorem zs9 {tx : Nat} {x : Operand} {A : Option Addr} {k cap : Nat} {es : Nat × Nat × Nat} (h : VL Tryz.prog m n B w0 ops Q rest ((d, .int .i64 k) :: env) H) (hx : evo env x = some (.slice A k cap) := by exact rfl) (ht : look T.sl tx = some es := by exact rfl) (hn : Nat.ble (d + 1) n.k = true := by exact rfl) : VL Tryz.prog m n B w0 ops Q (⟨some d, .call ⟨.builtin .len, #[x], #[tx]⟩, ty, pos, after, none⟩ :: rest) env H := Ylg T hx ht hn h
theorem zs10 {t : Nat} {x y : Operand} {A : Option Addr} {k cap : Nat} {xs : List Value} {e size bytes : Nat} {ki : IntKind} {i : Int} (h : VL Tryz.prog m n B w0 ops Q rest ((d, sptr A (i.toNat * size)) :: env) H) (hx : evo env x = some (.slice A k cap) := by exact rfl) (hm : sl e size A k cap xs ∈ H := by (exact zm; done)) (hy : evo env y = some (.int ki i) := by exact rfl) (ht : look T.sl t = some (e, size, bytes) := by exact rfl) (hn : Nat.ble (d + 1) n.k = true := by exact rfl) (hi : 0 ≤ i ∧ i < k := by omega) : VL Tryz.prog m n B w0 ops Q (⟨some d, .indexAddr t x y, ty, pos, after, none⟩ :: rest) env H := Ydr T hx hm hy ht hn hi h
theorem zs11 {c x y : Operand} {v : Value} (h : VL Tryz.prog m n B w0 ops Q rest ((d, v) :: env) H) (hc : evo env c = some (.bool true) := by exact rfl) (hx : evo env x = some v := by exact rfl) (hn : Nat.ble (d + 1) n.k = true := by exact rfl) : VL Tryz.prog m n B w0 ops Q (⟨some d, .pick c x y, ty, pos, after, none⟩ :: rest) env H := Ycr hc hx hn h
theorem zs12 {c x y : Operand} {v : Value} (h : VL Tryz.prog m n B w0 ops Q rest ((d, v) :: env) H) (hc : evo env c = some (.bool false) := by exact rfl) (hx : evo env y = some v := by exact rfl) (hn : Nat.ble (d + 1) n.k = true := by exact rfl) : VL Tryz.prog m n B w0 ops Q (⟨some d, .pick c x y, ty, pos, after, none⟩ :: rest) env H := Ya5 hc hx hn h
theorem zs13 {x : Operand} {i : Nat} {vs : Array Value} {v : Value} (h : VL Tryz.prog m n B w0 ops Q rest ((d, v) :: env) H) (hx : evo env x = some (.tuple vs) := by exact rfl) (hv : nth vs.toList i = some v := by exact rfl) (hn : Nat.ble (d + 1) n.k = true := by exact rfl) : VL Tryz.prog m n B w0 ops Q (⟨some d, .extract x i, ty, pos, after, none⟩ :: rest) env H := Yfa hx hv hn h
theorem zs14 {tx : TypeId} (h : VL Tryz.prog m n B w0 ops Q rest ((d, .int .i64 s.size) :: env) H) (hx : evo env x = some (.string s) := by exact rfl) (ht : look T.st tx = some () := by exact rfl) (hn : Nat.ble (d + 1) n.k = true := by exact rfl) : VL Tryz.prog m n B w0 ops Q (⟨some d, .call ⟨.builtin .len, #[x], #[tx]⟩, ty, pos, after, none⟩ :: rest) env H := YjX T hx ht hn h
theorem zs15  (h1 : a = b → VL Tryz.prog m n B w0 ops Q rest ((d, .bool true) :: env) H) (h2 : a ≠ b → VL Tryz.prog m n B w0 ops Q rest ((d, .bool false) :: env) H) (hx : evo env x = some (.int k a) := by exact rfl) (hy : evo env y = some (.int k b) := by exact rfl) (hn : Nat.ble (d + 1) n.k = true := by exact rfl) : VL Tryz.prog m n B w0 ops Q (⟨some d, .binOp .eql xt x y yt, ty, pos, after, none⟩ :: rest) env H := Yld hx hy hn h1 h2
theorem zs16  (h1 : a ≠ b → VL Tryz.prog m n B w0 ops Q rest ((d, .bool true) :: env) H) (h2 : a = b → VL Tryz.prog m n B w0 ops Q rest ((d, .bool false) :: env) H) (hx : evo env x = some (.int k a) := by exact rfl) (hy : evo env y = some (.int k b) := by exact rfl) (hn : Nat.ble (d + 1) n.k = true := by exact rfl) : VL Tryz.prog m n B w0 ops Q (⟨some d, .binOp .neq xt x y yt, ty, pos, after, none⟩ :: rest) env H := Yll hx hy hn h1 h2
theorem zs17  (h1 : a < b → VL Tryz.prog m n B w0 ops Q rest ((d, .bool true) :: env) H) (h2 : b ≤ a → VL Tryz.prog m n B w0 ops Q rest ((d, .bool false) :: env) H) (hx : evo env x = some (.int k a) := by exact rfl) (hy : evo env y = some (.int k b) := by exact rfl) (hn : Nat.ble (d + 1) n.k = true := by exact rfl) : VL Tryz.prog m n B w0 ops Q (⟨some d, .binOp .lss xt x y yt, ty, pos, after, none⟩ :: rest) env H := Yli hx hy hn h1 h2
theorem zs18  (h1 : a ≤ b → VL Tryz.prog m n B w0 ops Q rest ((d, .bool true) :: env) H) (h2 : b < a → VL Tryz.prog m n B w0 ops Q rest ((d, .bool false) :: env) H) (hx : evo env x = some (.int k a) := by exact rfl) (hy : evo env y = some (.int k b) := by exact rfl) (hn : Nat.ble (d + 1) n.k = true := by exact rfl) : VL Tryz.prog m n B w0 ops Q (⟨some d, .binOp .leq xt x y yt, ty, pos, after, none⟩ :: rest) env H := Ylh hx hy hn h1 h2
theorem zs19  (h1 : b < a → VL Tryz.prog m n B w0 ops Q rest ((d, .bool true) :: env) H) (h2 : a ≤ b → VL Tryz.prog m n B w0 ops Q rest ((d, .bool false) :: env) H) (hx : evo env x = some (.int k a) := by exact rfl) (hy : evo env y = some (.int k b) := by exact rfl) (hn : Nat.ble (d + 1) n.k = true := by exact rfl) : VL Tryz.prog m n B w0 ops Q (⟨some d, .binOp .gtr xt x y yt, ty, pos, after, none⟩ :: rest) env H := Ylf hx hy hn h1 h2
theorem zs20  (h1 : b ≤ a → VL Tryz.prog m n B w0 ops Q rest ((d, .bool true) :: env) H) (h2 : a < b → VL Tryz.prog m n B w0 ops Q rest ((d, .bool false) :: env) H) (hx : evo env x = some (.int k a) := by exact rfl) (hy : evo env y = some (.int k b) := by exact rfl) (hn : Nat.ble (d + 1) n.k = true := by exact rfl) : VL Tryz.prog m n B w0 ops Q (⟨some d, .binOp .geq xt x y yt, ty, pos, after, none⟩ :: rest) env H := Yle hx hy hn h1 h2
theorem zs21 {xt yt : TypeId} {x : Operand} {s : ByteArray} (h1 : s = ⟨#[]⟩ → s.size = 0 → VL Tryz.prog m n B w0 ops Q rest ((d, .bool true) :: env) H) (h2 : s ≠ ⟨#[]⟩ → 1 ≤ s.size → VL Tryz.prog m n B w0 ops Q rest ((d, .bool false) :: env) H) (hx : evo env x = some (.string s) := by exact rfl) (hn : Nat.ble (d + 1) n.k = true := by exact rfl) : VL Tryz.prog m n B w0 ops Q (⟨some d, .binOp .eql xt x (.const (.string ⟨#[]⟩)) yt, ty, pos, after, none⟩ :: rest) env H := Yil hx hn h1 h2
theorem zs22 {xt yt : TypeId} {x : Operand} {s : ByteArray} (h1 : s ≠ ⟨#[]⟩ → 1 ≤ s.size → VL Tryz.prog m n B w0 ops Q rest ((d, .bool true) :: env) H) (h2 : s = ⟨#[]⟩ → s.size = 0 → VL Tryz.prog m n B w0 ops Q rest ((d, .bool false) :: env) H) (hx : evo env x = some (.string s) := by exact rfl) (hn : Nat.ble (d + 1) n.k = true := by exact rfl) : VL Tryz.prog m n B w0 ops Q (⟨some d, .binOp .neq xt x (.const (.string ⟨#[]⟩)) yt, ty, pos, after, none⟩ :: rest) env H := Yio hx hn h1 h2
theorem zs23  (h1 : s = t → VL Tryz.prog m n B w0 ops Q rest ((d, .bool true) :: env) H) (h2 : s ≠ t → VL Tryz.prog m n B w0 ops Q rest ((d, .bool false) :: env) H) (hx : evo env x = some (.string s) := by exact rfl) (hy : evo env y = some (.string t) := by exact rfl) (hn : Nat.ble (d + 1) n.k = true := by exact rfl) : VL Tryz.prog m n B w0 ops Q (⟨some d, .binOp .eql xt x y yt, ty, pos, after, none⟩ :: rest) env H := Ycs hx hy hn h1 h2
theorem zs24  (h1 : s ≠ t → VL Tryz.prog m n B w0 ops Q rest ((d, .bool true) :: env) H) (h2 : s = t → VL Tryz.prog m n B w0 ops Q rest ((d, .bool false) :: env) H) (hx : evo env x = some (.string s) := by exact rfl) (hy : evo env y = some (.string t) := by exact rfl) (hn : Nat.ble (d + 1) n.k = true := by exact rfl) : VL Tryz.prog m n B w0 ops Q (⟨some d, .binOp .neq xt x y yt, ty, pos, after, none⟩ :: rest) env H := Yct hx hy hn h1 h2
theorem zs25 {x y : Operand} {k : IntKind} {a b : Int} {tys : Array TypeId} (h1 : b < a → VL Tryz.prog m n B w0 ops Q rest ((d, .int k b) :: env) H) (h2 : a ≤ b → VL Tryz.prog m n B w0 ops Q rest ((d, .int k a) :: env) H) (hx : evo env x = some (.int k a) := by exact rfl) (hy : evo env y = some (.int k b) := by exact rfl) (hn : Nat.ble (d + 1) n.k = true := by exact rfl) : VL Tryz.prog m n B w0 ops Q (⟨some d, .call ⟨.builtin .min, #[x, y], tys⟩, ty, pos, after, none⟩ :: rest) env H := Yga hx hy hn h1 h2
theorem zs26 {t : Nat} {x lo hi : Operand} {s : ByteArray} {k1 k2 : IntKind} {i j : Int} (h : VL Tryz.prog m n B w0 ops Q rest ((d, .string (s.extract i.toNat j.toNat)) :: env) H) (hx : evo env x = some (.string s) := by exact rfl) (hl : evo env lo = some (.int k1 i) := by exact rfl) (hh : evo env hi = some (.int k2 j) := by exact rfl) (ht : look T.st t = some () := by exact rfl) (hn : Nat.ble (d + 1) n.k = true := by exact rfl) (hb : 0 ≤ i ∧ i ≤ j ∧ j ≤ s.size := by omega) : VL Tryz.prog m n B w0 ops Q (⟨some d, .slice t x (some lo) (some hi) none, ty, pos, after, none⟩ :: rest) env H := YgW T hx hl hh ht hn hb h
theorem zs27 {t : Nat} {x lo : Operand} {s : ByteArray} {k1 : IntKind} {i : Int} (h : VL Tryz.prog m n B w0 ops Q rest ((d, .string (s.extract i.toNat s.size)) :: env) H) (hx : evo env x = some (.string s) := by exact rfl) (hl : evo env lo = some (.int k1 i) := by exact rfl) (ht : look T.st t = some () := by exact rfl) (hn : Nat.ble (d + 1) n.k = true := by exact rfl) (hb : 0 ≤ i ∧ i ≤ s.size := by omega) : VL Tryz.prog m n B w0 ops Q (⟨some d, .slice t x (some lo) none none, ty, pos, after, none⟩ :: rest) env H := Ycw T hx hl ht hn hb h
theorem zs28 {t : Nat} {x hi : Operand} {s : ByteArray} {k2 : IntKind} {j : Int} (h : VL Tryz.prog m n B w0 ops Q rest ((d, .string (s.extract 0 j.toNat)) :: env) H) (hx : evo env x = some (.string s) := by exact rfl) (hh : evo env hi = some (.int k2 j) := by exact rfl) (ht : look T.st t = some () := by exact rfl) (hn : Nat.ble (d + 1) n.k = true := by exact rfl) (hb : 0 ≤ j ∧ j ≤ s.size := by omega) : VL Tryz.prog m n B w0 ops Q (⟨some d, .slice t x none (some hi) none, ty, pos, after, none⟩ :: rest) env H := Ycv T hx hh ht hn hb h
theorem zs29 {t : Nat} {x y : Operand} {s : ByteArray} {k : IntKind} {i : Int} (h : ∀ b : UInt8, s[i.toNat]? = some b → VL Tryz.prog m n B w0 ops Q rest ((d, .int .u8 b.toNat) :: env) H) (hx : evo env x = some (.string s) := by exact rfl) (hy : evo env y = some (.int k i) := by exact rfl) (ht : look T.st t = some () := by exact rfl) (hn : Nat.ble (d + 1) n.k = true := by exact rfl) (hi : 0 ≤ i ∧ i < s.size := by omega) : VL Tryz.prog m n B w0 ops Q (⟨some d, .index t x y, ty, pos, after, none⟩ :: rest) env H := Ycp T hx hy ht hn hi h
theorem zs30  (h : VL Tryz.prog m n B w0 ops Q rest ((d, .int .i64 (a + b)) :: env) H) (hx : evo env x = some (.int .i64 a) := by exact rfl) (hy : evo env y = some (.int .i64 b) := by exact rfl) (hn : Nat.ble (d + 1) n.k = true := by exact rfl) (hb : -9223372036854775808 ≤ a + b ∧ a + b ≤ 9223372036854775807 := by omega) : VL Tryz.prog m n B w0 ops Q (⟨some d, .binOp .add xt x y yt, ty, pos, after, none⟩ :: rest) env H := Ylb hx hy hn hb h
theorem zs31  (h : VL Tryz.prog m n B w0 ops Q rest ((d, .int .i64 (a - b)) :: env) H) (hx : evo env x = some (.int .i64 a) := by exact rfl) (hy : evo env y = some (.int .i64 b) := by exact rfl) (hn : Nat.ble (d + 1) n.k = true := by exact rfl) (hb : -9223372036854775808 ≤ a - b ∧ a - b ≤ 9223372036854775807 := by omega) : VL Tryz.prog m n B w0 ops Q (⟨some d, .binOp .sub xt x y yt, ty, pos, after, none⟩ :: rest) env H := Ylq hx hy hn hb h
theorem zs32  (h : VL Tryz.prog m n B w0 ops Q rest ((d, .int .i64 (a * b)) :: env) H) (hx : evo env x = some (.int .i64 a) := by exact rfl) (hy : evo env y = some (.int .i64 b) := by exact rfl) (hn : Nat.ble (d + 1) n.k = true := by exact rfl) (hb : -9223372036854775808 ≤ a * b ∧ a * b ≤ 9223372036854775807 := by first | exact Yi4 (by omega) (by omega) (by omega) (by omega) | exact Ykm (by omega) (by omega) (by omega) (by omega) | omega) : VL Tryz.prog m n B w0 ops Q (⟨some d, .binOp .mul xt x y yt, ty, pos, after, none⟩ :: rest) env H := Ylk hx hy hn hb h
theorem zs33  (h : ∀ r : Int, (r = a + b ∨ a + b < -9223372036854775808 ∨ 9223372036854775807 < a + b) → VL Tryz.prog m n B w0 ops Q rest ((d, .int .i64 r) :: env) H) (hx : evo env x = some (.int .i64 a) := by exact rfl) (hy : evo env y = some (.int .i64 b) := by exact rfl) (hn : Nat.ble (d + 1) n.k = true := by exact rfl) : VL Tryz.prog m n B w0 ops Q (⟨some d, .binOp .add xt x y yt, ty, pos, after, none⟩ :: rest) env H := Ye7 hx hy hn h
theorem zs34  (h : ∀ r : Int, (r = a - b ∨ a - b < -9223372036854775808 ∨ 9223372036854775807 < a - b) → VL Tryz.prog m n B w0 ops Q rest ((d, .int .i64 r) :: env) H) (hx : evo env x = some (.int .i64 a) := by exact rfl) (hy : evo env y = some (.int .i64 b) := by exact rfl) (hn : Nat.ble (d + 1) n.k = true := by exact rfl) : VL Tryz.prog m n B w0 ops Q (⟨some d, .binOp .sub xt x y yt, ty, pos, after, none⟩ :: rest) env H := Yfd hx hy hn h
theorem zs35  (h : ∀ r : Int, (r = a * b ∨ a * b < -9223372036854775808 ∨ 9223372036854775807 < a * b) → VL Tryz.prog m n B w0 ops Q rest ((d, .int .i64 r) :: env) H) (hx : evo env x = some (.int .i64 a) := by exact rfl) (hy : evo env y = some (.int .i64 b) := by exact rfl) (hn : Nat.ble (d + 1) n.k = true := by exact rfl) : VL Tryz.prog m n B w0 ops Q (⟨some d, .binOp .mul xt x y yt, ty, pos, after, none⟩ :: rest) env H := Yfc hx hy hn h
theorem zs36  (h : VL Tryz.prog m n B w0 ops Q rest ((d, .int .i64 (a / b)) :: env) H) (hx : evo env x = some (.int .i64 a) := by exact rfl) (hy : evo env y = some (.int .i64 b) := by exact rfl) (hn : Nat.ble (d + 1) n.k = true := by exact rfl) (hb : 0 ≤ a ∧ a ≤ 9223372036854775807 ∧ 1 ≤ b := by omega) : VL Tryz.prog m n B w0 ops Q (⟨some d, .binOp .quo xt x y yt, ty, pos, after, none⟩ :: rest) env H := Yln hx hy hn hb h
theorem zs37  (h : VL Tryz.prog m n B w0 ops Q rest ((d, .int k (a % b)) :: env) H) (hx : evo env x = some (.int k a) := by exact rfl) (hy : evo env y = some (.int k b) := by exact rfl) (hn : Nat.ble (d + 1) n.k = true := by exact rfl) (hb : 0 ≤ a ∧ 1 ≤ b := by omega) : VL Tryz.prog m n B w0 ops Q (⟨some d, .binOp .rem xt x y yt, ty, pos, after, none⟩ :: rest) env H := Ylo hx hy hn hb h
theorem zs38 {yk : IntKind} {D : Int} (h : VL Tryz.prog m n B w0 ops Q rest ((d, .int k (a / D)) :: env) H) (hx : evo env x = some (.int k a) := by exact rfl) (hn : Nat.ble (d + 1) n.k = true := by exact rfl) (hb : 0 ≤ b ∧ b ≤ k.bits := by (simp only [IntKind.bits]; omega)) (hD : (2 : Int) ^ b.toNat = D := by (simp only [Int.reduceToNat, Int.reducePow]; rfl)) : VL Tryz.prog m n B w0 ops Q (⟨some d, .binOp .shr xt x (.const (.int yk b)) yt, ty, pos, after, none⟩ :: rest) env H := Yin hx hn hb hD h
theorem zs39 {yk : IntKind} (h : VL Tryz.prog m n B w0 ops Q rest ((d, .int k (a / 2 ^ b.toNat)) :: env) H) (hx : evo env x = some (.int k a) := by exact rfl) (hy : evo env y = some (.int yk b) := by exact rfl) (hn : Nat.ble (d + 1) n.k = true := by exact rfl) (hb : 0 ≤ b ∧ b ≤ k.bits := by (simp only [IntKind.bits]; omega)) : VL Tryz.prog m n B w0 ops Q (⟨some d, .binOp .shr xt x y yt, ty, pos, after, none⟩ :: rest) env H := Yim hx hy hn hb h
theorem zs40 {yk : IntKind} (h : VL Tryz.prog m n B w0 ops Q rest ((d, .int k (k.wrap (a * 2 ^ b.toNat))) :: env) H) (hx : evo env x = some (.int k a) := by exact rfl) (hy : evo env y = some (.int yk b) := by exact rfl) (hn : Nat.ble (d + 1) n.k = true := by exact rfl) (hb : 0 ≤ b ∧ b ≤ k.bits := by (simp only [IntKind.bits]; omega)) : VL Tryz.prog m n B w0 ops Q (⟨some d, .binOp .shl xt x y yt, ty, pos, after, none⟩ :: rest) env H := Ylp hx hy hn hb h
theorem zs41  (h : VL Tryz.prog m n B w0 ops Q rest ((d, .int k (bits .and k a b)) :: env) H) (hx : evo env x = some (.int k a) := by exact rfl) (hy : evo env y = some (.int k b) := by exact rfl) (hn : Nat.ble (d + 1) n.k = true := by exact rfl) : VL Tryz.prog m n B w0 ops Q (⟨some d, .binOp .and xt x y yt, ty, pos, after, none⟩ :: rest) env H := Ylc hx hy hn h
theorem zs42  (h : VL Tryz.prog m n B w0 ops Q rest ((d, .int k (bits .or k a b)) :: env) H) (hx : evo env x = some (.int k a) := by exact rfl) (hy : evo env y = some (.int k b) := by exact rfl) (hn : Nat.ble (d + 1) n.k = true := by exact rfl) : VL Tryz.prog m n B w0 ops Q (⟨some d, .binOp .or xt x y yt, ty, pos, after, none⟩ :: rest) env H := YlV hx hy hn h
theorem zs43  (h : VL Tryz.prog m n B w0 ops Q rest ((d, .int k (bits .xor k a b)) :: env) H) (hx : evo env x = some (.int k a) := by exact rfl) (hy : evo env y = some (.int k b) := by exact rfl) (hn : Nat.ble (d + 1) n.k = true := by exact rfl) : VL Tryz.prog m n B w0 ops Q (⟨some d, .binOp .xor xt x y yt, ty, pos, after, none⟩ :: rest) env H := Ylr hx hy hn h
theorem zs44 {src dst : TypeId} {j : IntKind} (h : VL Tryz.prog m n B w0 ops Q rest ((d, .int .i64 a) :: env) H) (hx : evo env x = some (.int k a) := by exact rfl) (hs : look T.ik src = some j := by exact rfl) (ht : look T.ik dst = some .i64 := by exact rfl) (hn : Nat.ble (d + 1) n.k = true := by exact rfl) (hb : -9223372036854775808 ≤ a ∧ a ≤ 9223372036854775807 := by omega) : VL Tryz.prog m n B w0 ops Q (⟨some d, .convert src dst x, ty, pos, after, none⟩ :: rest) env H := Ye9 T hx hs ht hn hb h
theorem zs45 {src dst : TypeId} {j : IntKind} (h : VL Tryz.prog m n B w0 ops Q rest ((d, .int .u64 a) :: env) H) (hx : evo env x = some (.int k a) := by exact rfl) (hs : look T.ik src = some j := by exact rfl) (ht : look T.ik dst = some .u64 := by exact rfl) (hn : Nat.ble (d + 1) n.k = true := by exact rfl) (hb : 0 ≤ a ∧ a ≤ 18446744073709551615 := by omega) : VL Tryz.prog m n B w0 ops Q (⟨some d, .convert src dst x, ty, pos, after, none⟩ :: rest) env H := Ydn T hx hs ht hn hb h
theorem zs46 {src dst : TypeId} {j : IntKind} {kd : IntKind} (h : VL Tryz.prog m n B w0 ops Q rest ((d, .int kd (kd.wrap a)) :: env) H) (hx : evo env x = some (.int k a) := by exact rfl) (hs : look T.ik src = some j := by exact rfl) (ht : look T.ik dst = some kd := by exact rfl) (hn : Nat.ble (d + 1) n.k = true := by exact rfl) : VL Tryz.prog m n B w0 ops Q (⟨some d, .convert src dst x, ty, pos, after, none⟩ :: rest) env H := Ycl T hx hs ht hn h
theorem zs47 {x : Operand} {xt : TypeId} (h : VL Tryz.prog m n B w0 ops Q rest ((d, .bool false) :: env) H) (hx : evo env x = some (.bool true) := by exact rfl) (hn : Nat.ble (d + 1) n.k = true := by exact rfl) : VL Tryz.prog m n B w0 ops Q (⟨some d, .unOp .not xt x, ty, pos, after, none⟩ :: rest) env H := Ydw hx hn h
theorem zs48 {x : Operand} {xt : TypeId} (h : VL Tryz.prog m n B w0 ops Q rest ((d, .bool true) :: env) H) (hx : evo env x = some (.bool false) := by exact rfl) (hn : Nat.ble (d + 1) n.k = true := by exact rfl) : VL Tryz.prog m n B w0 ops Q (⟨some d, .unOp .not xt x, ty, pos, after, none⟩ :: rest) env H := Ycq hx hn h
theorem zs49 {t tt : Nat} {x y : Operand} {A : Option Addr} {k cap : Nat} {xs : List Value} {g mm c : Nat} {cs : Array Value} {fr : Nat × Nat} {e size bytes : Nat} {K : Option Addr → Nat → List HP} (h : ∀ A' cap', VL Tryz.prog none n B w0 ops Q rest ((d, .slice A' (k + mm) cap') :: env) (K A' cap')) (hx : evo env x = some (.slice A k cap) := by exact rfl) (ht : look T.sl t = some (e, size, bytes) := by exact rfl) (hy : evo env y = some (.slice (some ⟨g, 0, none⟩) mm c) := by exact rfl) (hb : blk g (.cells cs tt fr) ∈ H := by (exact zm; done)) (hk : cs.size = mm * size := by exact rfl) (h1 : Jg cs.toList = true := by exact rfl) (hn : Nat.ble (d + 1) n.k = true := by exact rfl) (hu : ∀ A' cap', Upd (sl e size A k cap xs) (sl e size A' (k + mm) cap' (xs ++ cs.toList)) H (K A' cap') := by ((intro _ _; exact zd); done)) (hby : (k + mm) * bytes ≤ 140737488355328 := by omega) : VL Tryz.prog none n B w0 ops Q (⟨some d, .call ⟨.builtin .append, #[x, y], #[t, t]⟩, ty, pos, after, none⟩ :: rest) env H := YgR T hx ht hy hb hk h1 hn hu hby h
theorem zs50 {t g i : Nat} {cs cs' : List Value} {tt : TypeId} {v : Value} {x y : Operand} {K : List HP} (h : VL Tryz.prog none n B w0 ops Q rest env K) (hx : evo env x = some (.pointer (some ⟨g, i, none⟩)) := by exact rfl) (hy : evo env y = some v := by exact rfl) (h1 : v.oneCell' = true := by exact rfl) (hu : Upd (blk g (.cells cs.toArray tt (0, 0))) (blk g (.cells cs'.toArray tt (0, 0))) H K := by (exact zd; done)) (hs : Ybp cs i v cs' := by (exact zt ; done)) (ht : look T.sc t = some () := by exact rfl) : VL Tryz.prog none n B w0 ops Q (⟨none, .store t x y, ty, pos, after, none⟩ :: rest) env H := Yip T hx hy h1 hu hs ht h
theorem zs51 {t g i k : Nat} {cs vs cs' : List Value} {tt : TypeId} {x y : Operand} {K : List HP} (h : VL Tryz.prog none n B w0 ops Q rest env K) (hx : evo env x = some (.pointer (some ⟨g, i, none⟩)) := by exact rfl) (hy : evo env y = some (.agg vs.toArray) := by exact rfl) (h1 : Jg vs = true := by exact rfl) (hu : Upd (blk g (.cells cs.toArray tt (0, 0))) (blk g (.cells cs'.toArray tt (0, 0))) H K := by (exact zd; done)) (hs : PutAt cs i vs cs' := by ((repeat (first | exact PutAt.nil | (apply PutAt.cons; exact zt ))) ; done)) (ht : look T.ag t = some k := by exact rfl) (hk : vs.length = k := by exact rfl) : VL Tryz.prog none n B w0 ops Q (⟨none, .store t x y, ty, pos, after, none⟩ :: rest) env H := Ycu T hx hy h1 hu hs ht hk h
theorem zs52 {t : TypeId} {x : Operand} {cs : Array Value} (h : ∀ g, VL Tryz.prog none n B w0 ops Q rest ((d, .pointer (some ⟨g, 0, none⟩)) :: env) (blk g (.cells cs t (0, 0)) :: H)) (hx : evo env x = some (.agg cs) := by exact rfl) (hn : Nat.ble (d + 1) n.k = true := by exact rfl) : VL Tryz.prog none n B w0 ops Q (⟨some d, .box t x, ty, pos, after, none⟩ :: rest) env H := Xv hx hn h
theorem zs53 {t : TypeId} {x : Operand} {v : Value} (h : ∀ g, VL Tryz.prog none n B w0 ops Q rest ((d, .pointer (some ⟨g, 0, none⟩)) :: env) (blk g (.cells #[v] t (0, 0)) :: H)) (hx : evo env x = some v := by exact rfl) (h1 : v.cells = #[v] := by exact rfl) (hn : Nat.ble (d + 1) n.k = true := by exact rfl) : VL Tryz.prog none n B w0 ops Q (⟨some d, .box t x, ty, pos, after, none⟩ :: rest) env H := Ye8 hx h1 hn h
theorem zs54 {t : TypeId} {z : Value} {cs : Array Value} (h : ∀ g, VL Tryz.prog none n B w0 ops Q rest ((d, .pointer (some ⟨g, 0, none⟩)) :: env) (blk g (.cells cs t (0, 0)) :: H)) (hz : look T2.zt t = some z := by exact rfl) (hc : z.cells = cs := by exact rfl) (hn : Nat.ble (d + 1) n.k = true := by exact rfl) : VL Tryz.prog none n B w0 ops Q (⟨some d, .alloc t, ty, pos, after, none⟩ :: rest) env H := YgQ T2 hz hc hn h
theorem zs55 {t : TypeId} {parts : List (Nat × Operand)} {ps : List (Nat × Value)} {zc : Array Value} {pl : List (Nat × Nat)} {cs : List Value} (h : VL Tryz.prog m n B w0 ops Q rest ((d, .agg cs.toArray) :: env) H) (hp : Vv env parts = some ps := by exact rfl) (hz : look T2.zt t = some (.agg zc) := by exact rfl) (hl : look T2.bt t = some pl := by exact rfl) (hf : V7 (pl[·]?) zc.toList ps = some cs := by exact rfl) (hn : Nat.ble (d + 1) n.k = true := by exact rfl) : VL Tryz.prog m n B w0 ops Q (⟨some d, .build t parts.toArray, ty, pos, after, none⟩ :: rest) env H := YgT T2 hp hz hl hf hn h
theorem zs56 {t e len size bytes : Nat} {parts : List (Nat × Operand)} {ps : List (Nat × Value)} {z : Value} {zl cs : List Value} (h : ∀ g, VL Tryz.prog none n B w0 ops Q rest ((d, .slice (some ⟨g, 0, none⟩) len len) :: env) (blk g (.cells cs.toArray e (0, 0)) :: H)) (ht : look T.sl t = some (e, size, bytes) := by exact rfl) (hp : Vv env parts = some ps := by exact rfl) (hz : look T2.zt e = some z := by exact rfl) (hzc : z.cells = zl.toArray := by exact rfl) (hf : V7 (fun i => some (i * size, size)) (repZ len zl) ps = some cs := by exact rfl) (hn : Nat.ble (d + 1) n.k = true := by exact rfl) (hl : (Nat.blt 0 (len * size) && Nat.beq zl.length size && Nat.ble (len * size) 1000000) = true := by exact rfl) : VL Tryz.prog none n B w0 ops Q (⟨some d, .buildSlice t len parts.toArray, ty, pos, after, none⟩ :: rest) env H := Qs T T2 ht hp hz hzc hf hn hl h
theorem zs57 {α : Type} {f : α → List Value} {l : List α} {t : Nat} {x y : Operand} {A : Option Addr} {cap : Nat} {e size bytes : Nat} {ki : IntKind} {i : Int} (h : VL Tryz.prog m n B w0 ops Q rest ((d, sptr A (i.toNat * size)) :: env) H) (hx : evo env x = some (.slice A l.length cap) := by exact rfl) (hy : evo env y = some (.int ki i) := by exact rfl) (hr : Rd B w0 H A (l.flatMap f) := by (exact zr; done)) (ht : look T.sl t = some (e, size, bytes) := by exact rfl) (hq : ∀ a, (f a).length = size := by exact fun _ => rfl) (h0 : Nat.blt 0 size = true := by exact rfl) (hn : Nat.ble (d + 1) n.k = true := by exact rfl) (hi : 0 ≤ i ∧ i < l.length := by omega) : VL Tryz.prog m n B w0 ops Q (⟨some d, .indexAddr t x y, ty, pos, after, none⟩ :: rest) env H := Ydq T hx hy hr ht hq h0 hn hi h
theorem zs58 {α : Type} {f : α → List Value} {l : List α} {s fl k i q : Nat} {x : Operand} {A : Option Addr} (h : VL Tryz.prog m n B w0 ops Q rest ((d, sptr A (i * q + k)) :: env) H) (hx : evo env x = some (sptr A (i * q)) := by exact rfl) (hr : Rd B w0 H A (l.flatMap f) := by (exact zr; done)) (hq : ∀ a, (f a).length = q := by exact fun _ => rfl) (h0 : Nat.blt 0 q = true := by exact rfl) (hf : Uc T.fo s fl = some k := by exact rfl) (hn : Nat.ble (d + 1) n.k = true := by exact rfl) (hi : i < l.length := by omega) : VL Tryz.prog m n B w0 ops Q (⟨some d, .fieldAddr s x fl, ty, pos, after, none⟩ :: rest) env H := Ycn T hx hr hq h0 hf hn hi h
theorem zs59 {α : Type} {f : α → List Value} {l : List α} {t i q o : Nat} {b : α} {x : Operand} {A : Option Addr} {v : Value} (h : VL Tryz.prog m n B w0 ops Q rest ((d, v) :: env) H) (hx : evo env x = some (sptr A (i * q + o)) := by exact rfl) (hr : Rd B w0 H A (l.flatMap f) := by (exact zr; done)) (hb : l[i]? = some b := by assumption) (hq : ∀ a, (f a).length = q := by exact fun _ => rfl) (ho : Nat.blt o q = true := by exact rfl) (hv : nth (f b) o = some v := by exact rfl) (ht : look T.sc t = some () := by exact rfl) (hn : Nat.ble (d + 1) n.k = true := by exact rfl) : VL Tryz.prog m n B w0 ops Q (⟨some d, .load t x, ty, pos, after, none⟩ :: rest) env H := Qu T hx hr hb hq ho hv ht hn h
theorem zs60 {α : Type} {f : α → List Value} {l : List α} {t i q : Nat} {b : α} {x : Operand} {A : Option Addr} {v : Value} (h : VL Tryz.prog m n B w0 ops Q rest ((d, v) :: env) H) (hx : evo env x = some (sptr A (i * q)) := by exact rfl) (hr : Rd B w0 H A (l.flatMap f) := by (exact zr; done)) (hb : l[i]? = some b := by assumption) (hq : ∀ a, (f a).length = q := by exact fun _ => rfl) (ho : Nat.blt 0 q = true := by exact rfl) (hv : nth (f b) 0 = some v := by exact rfl) (ht : look T.sc t = some () := by exact rfl) (hn : Nat.ble (d + 1) n.k = true := by exact rfl) : VL Tryz.prog m n B w0 ops Q (⟨some d, .load t x, ty, pos, after, none⟩ :: rest) env H := Ydt T hx hr hb hq ho hv ht hn h
theorem zs61 {α : Type} {f : α → List Value} {l : List α} {t i q : Nat} {b : α} {x : Operand} {A : Option Addr} (h : VL Tryz.prog m n B w0 ops Q rest ((d, .agg (f b).toArray) :: env) H) (hx : evo env x = some (sptr A (i * q)) := by exact rfl) (hr : Rd B w0 H A (l.flatMap f) := by (exact zr; done)) (hb : l[i]? = some b := by assumption) (hq : ∀ a, (f a).length = q := by exact fun _ => rfl) (ho : Nat.blt 0 q = true := by exact rfl) (ht : look T.ag t = some q := by exact rfl) (hn : Nat.ble (d + 1) n.k = true := by exact rfl) : VL Tryz.prog m n B w0 ops Q (⟨some d, .load t x, ty, pos, after, none⟩ :: rest) env H := Qt T hx hr hb hq ho ht hn h
theorem zs62 {x y : Operand} {k : IntKind} {a b : Int} {tys : Array TypeId} (h1 : a < b → VL Tryz.prog m n B w0 ops Q rest ((d, .int k b) :: env) H) (h2 : b ≤ a → VL Tryz.prog m n B w0 ops Q rest ((d, .int k a) :: env) H) (hx : evo env x = some (.int k a) := by exact rfl) (hy : evo env y = some (.int k b) := by exact rfl) (hn : Nat.ble (d + 1) n.k = true := by exact rfl) : VL Tryz.prog m n B w0 ops Q (⟨some d, .call ⟨.builtin .max, #[x, y], tys⟩, ty, pos, after, none⟩ :: rest) env H := Yf9 hx hy hn h1 h2
theorem zs63 {xt yt : TypeId} {x y : Operand} {a b : Bool} (h : VL Tryz.prog m n B w0 ops Q rest ((d, .bool (!(a == b))) :: env) H) (hx : evo env x = some (.bool a) := by exact rfl) (hy : evo env y = some (.bool b) := by exact rfl) (hn : Nat.ble (d + 1) n.k = true := by exact rfl) (ht : WY Tryz.prog xt = true := by kernel_rfl) : VL Tryz.prog m n B w0 ops Q (⟨some d, .binOp .neq xt x y yt, ty, pos, after, none⟩ :: rest) env H := YjM hx hy hn ht h
theorem zs64 {xt yt : TypeId} {x y : Operand} {a b : Bool} (h : VL Tryz.prog m n B w0 ops Q rest ((d, .bool (a == b)) :: env) H) (hx : evo env x = some (.bool a) := by exact rfl) (hy : evo env y = some (.bool b) := by exact rfl) (hn : Nat.ble (d + 1) n.k = true := by exact rfl) (ht : WY Tryz.prog xt = true := by kernel_rfl) : VL Tryz.prog m n B w0 ops Q (⟨some d, .binOp .eql xt x y yt, ty, pos, after, none⟩ :: rest) env H := YjL hx hy hn ht h
theorem zs65  (h : VQ n B w0 Q .normal env H)  : VL Tryz.prog none n B w0 ops Q [] env H := Yie h
theorem zs66  (h : VQ n B w0 Q .normal env H)  : VL Tryz.prog (some none) n B w0 ops Q [] env H := YjV h
theorem zs68 {y : Code} (h : VC Tryz.prog n B w0 y Q env H)  : VQ n B w0 (Exit.then (wpR Tryz.prog n.r y Q) Q) .normal env H := Ycz h
theorem zs69 {x y : Code} (h : VC Tryz.prog n B w0 x (Exit.then (wpR Tryz.prog n.r y Q) Q) env H)  : VC Tryz.prog n B w0 (.seq x y) Q env H := Zx h
theorem zs70 {id : Nat} {l : List Oper} (h : VL Tryz.prog none n B w0 l.toArray Q l env H)  : VC Tryz.prog n B w0 (.region id l.toArray false) Q env H := XH h
theorem zs71 {c : Operand} {x y : Code} (h : VC Tryz.prog n B w0 x Q env H) (hc : evo env c = some (.bool true) := by exact rfl) : VC Tryz.prog n B w0 (.cond c x y) Q env H := Yci hc h
theorem zs72 {c : Operand} {x y : Code} (h : VC Tryz.prog n B w0 y Q env H) (hc : evo env c = some (.bool false) := by exact rfl) : VC Tryz.prog n B w0 (.cond c x y) Q env H := Ya2 hc h
theorem zs73 {id : Nat} {c : Code} (h : VC Tryz.prog n B w0 c (Exit.inBlock id Q) env H)  : VC Tryz.prog n B w0 (.block id c) Q env H := Ydh h
theorem zs74  (h : VQ n B w0 Q .ret env H)  : VC Tryz.prog n B w0 .ret Q env H := Yla h
theorem zs75 {id : Nat} (h : VQ n B w0 Q (.exit id) env H)  : VC Tryz.prog n B w0 (.exit id) Q env H := YjJ h
theorem zs76  (h : VQ n B w0 Q .normal env H)  : VC Tryz.prog n B w0 .skip Q env H := YjK h
theorem zs77 {K : Act → World → Prop} (h : VQ n B w0 Q .ret env H)  : VQ n B w0 (Exit.then K Q) .ret env H := YdF h
theorem zs78 {id : Nat} (h : VQ n B w0 Q .ret env H)  : VQ n B w0 (Exit.inBlock id Q) .ret env H := Ycy h
theorem zs79 {id : Nat} (h : VQ n B w0 Q .normal env H)  : VQ n B w0 (Exit.inBlock id Q) .normal env H := O2 h
theorem zs80 {K : Act → World → Prop} {id : Nat} (h : VQ n B w0 Q (.exit id) env H)  : VQ n B w0 (Exit.then K Q) (.exit id) env H := YcA h
theorem zs81 {id : Nat} (h : VQ n B w0 Q .normal env H)  : VQ n B w0 (Exit.inBlock id Q) (.exit id) env H := Ya6 h
theorem zs82 {id id' : Nat} (h : VQ n B w0 Q (.exit id') env H) (hne : Nat.beq id' id = false := by exact rfl) : VQ n B w0 (Exit.inBlock id Q) (.exit id') env H := QA hne h
theorem zs83 {id : Nat} {l : List Oper} (h : VL Tryz.prog (some none) n B w0 l.toArray Q l env H) (hq : (l.all fun o => !eff o) = true := by exact rfl) (hm : Tryz.prog.follows .mixedOrders = true := by kernel_rfl) (hB : Region.lexB .any l.toArray = true := by kernel_rfl) : VC Tryz.prog n B w0 (.region id l.toArray true) Q env H := Yh9 hq hm hB h
theorem zs84 {id : Nat} {l : List Oper} (h : VL Tryz.prog (some none) n B w0 l.toArray Q l env H) (hq : (l.all fun o => !effW o) = true := by exact rfl) (hm : Tryz.prog.follows .mixedOrders = true := by kernel_rfl) (hB : Region.lexB .any l.toArray = true := by kernel_rfl) : VC Tryz.prog n B w0 (.region id l.toArray true) Q env H := Yh8 hq hm hB h
theorem zs87 {o : Oper} {F HF : List HP} (h : VL Tryz.prog none n B w0 ops (Ydf Tryz.prog B w0 ops Q H rest) [o] env HF) (he : eff o = true := by exact rfl) (hg : o.guard = none := by exact rfl) (happ : App H F HF := by (exact zp; done)) : VL Tryz.prog (some (some F)) n B w0 ops Q (o :: rest) env H := YjP he hg happ h
theorem zs90 {l : List Oper} {F : List HP} {i : Nat} {t : OT} {o : Oper} (h : VL Tryz.prog (some (some F)) n B w0 ops (VO Tryz.prog B w0 ops l Q H t) [o] env H) (ho : nthO l i = o := by (simp only [nthO]; rfl)) : VT Tryz.prog n B w0 ops l Q (.n1 i t) env H F := YlW ho h
theorem zs91 {l : List Oper} {F : List HP} {i j : Nat} {t u : OT} {o o' : Oper} (h : VL Tryz.prog (some (some F)) n B w0 ops (VO Tryz.prog B w0 ops l Q H t) [o] env H) (h' : VL Tryz.prog (some (some F)) n B w0 ops (VO Tryz.prog B w0 ops l Q H u) [o'] env H) (ho : nthO l i = o := by (simp only [nthO]; rfl)) (ho' : nthO l j = o' := by (simp only [nthO]; rfl)) : VT Tryz.prog n B w0 ops l Q (.n2 i t j u) env H F := YlX ho ho' h h'
theorem zs93 {l : List Oper} (h : VL Tryz.prog none n B w0 ops Q l env H)  : VQ n B w0 (X5 Tryz.prog ops Q l) .normal env H := Yiv h
theorem zs94  (h : VQ n B w0 Q .normal env H)  : VQ n B w0 (Only Q) .normal env H := Yj0 h
theorem zg1 {m : Mode} {d : Nat} {op : Op} {ty : TypeId} {pos : String} {after : Array Edge} {j : Nat} {b : Bool} (h : VL Tryz.prog m n B w0 ops Q (⟨some d, op, ty, pos, after, some (j, b)⟩ :: rest) env H) : VL Tryz.prog m n B w0 ops Q (⟨some d, op, ty, pos, after, some (j, b)⟩ :: rest) env H := h
theorem zg2 {s f : Nat} {x : Operand} (h : VL Tryz.prog m n B w0 ops Q (⟨some d, .fieldAddr s x f, ty, pos, after, none⟩ :: rest) env H) : VL Tryz.prog m n B w0 ops Q (⟨some d, .fieldAddr s x f, ty, pos, after, none⟩ :: rest) env H := h
theorem zg3 {t : Nat} {x : Operand} (h : VL Tryz.prog m n B w0 ops Q (⟨some d, .load t x, ty, pos, after, none⟩ :: rest) env H) : VL Tryz.prog m n B w0 ops Q (⟨some d, .load t x, ty, pos, after, none⟩ :: rest) env H := h
theorem zg4 {tx : Nat} {x : Operand} (h : VL Tryz.prog m n B w0 ops Q (⟨some d, .call ⟨.builtin .len, #[x], #[tx]⟩, ty, pos, after, none⟩ :: rest) env H) : VL Tryz.prog m n B w0 ops Q (⟨some d, .call ⟨.builtin .len, #[x], #[tx]⟩, ty, pos, after, none⟩ :: rest) env H := h
theorem zg5 {t : Nat} {x y : Operand} (h : VL Tryz.prog m n B w0 ops Q (⟨some d, .indexAddr t x y, ty, pos, after, none⟩ :: rest) env H) : VL Tryz.prog m n B w0 ops Q (⟨some d, .indexAddr t x y, ty, pos, after, none⟩ :: rest) env H := h
theorem zg6 {c x y : Operand} (h : VL Tryz.prog m n B w0 ops Q (⟨some d, .pick c x y, ty, pos, after, none⟩ :: rest) env H) : VL Tryz.prog m n B w0 ops Q (⟨some d, .pick c x y, ty, pos, after, none⟩ :: rest) env H := h
theorem zg7  (h : VL Tryz.prog m n B w0 ops Q (⟨some d, .binOp .eql xt x y yt, ty, pos, after, none⟩ :: rest) env H) : VL Tryz.prog m n B w0 ops Q (⟨some d, .binOp .eql xt x y yt, ty, pos, after, none⟩ :: rest) env H := h
theorem zg8  (h : VL Tryz.prog m n B w0 ops Q (⟨some d, .binOp .neq xt x y yt, ty, pos, after, none⟩ :: rest) env H) : VL Tryz.prog m n B w0 ops Q (⟨some d, .binOp .neq xt x y yt, ty, pos, after, none⟩ :: rest) env H := h
theorem zg9 {t : Nat} {x lo hi : Operand} (h : VL Tryz.prog m n B w0 ops Q (⟨some d, .slice t x (some lo) (some hi) none, ty, pos, after, none⟩ :: rest) env H) : VL Tryz.prog m n B w0 ops Q (⟨some d, .slice t x (some lo) (some hi) none, ty, pos, after, none⟩ :: rest) env H := h
theorem zg10 {t : Nat} {x lo : Operand} (h : VL Tryz.prog m n B w0 ops Q (⟨some d, .slice t x (some lo) none none, ty, pos, after, none⟩ :: rest) env H) : VL Tryz.prog m n B w0 ops Q (⟨some d, .slice t x (some lo) none none, ty, pos, after, none⟩ :: rest) env H := h
theorem zg11 {t : Nat} {x hi : Operand} (h : VL Tryz.prog m n B w0 ops Q (⟨some d, .slice t x none (some hi) none, ty, pos, after, none⟩ :: rest) env H) : VL Tryz.prog m n B w0 ops Q (⟨some d, .slice t x none (some hi) none, ty, pos, after, none⟩ :: rest) env H := h
theorem zg12 {t : Nat} {x y : Operand} (h : VL Tryz.prog m n B w0 ops Q (⟨some d, .index t x y, ty, pos, after, none⟩ :: rest) env H) : VL Tryz.prog m n B w0 ops Q (⟨some d, .index t x y, ty, pos, after, none⟩ :: rest) env H := h
theorem zg13  (h : VL Tryz.prog m n B w0 ops Q (⟨some d, .binOp .add xt x y yt, ty, pos, after, none⟩ :: rest) env H) : VL Tryz.prog m n B w0 ops Q (⟨some d, .binOp .add xt x y yt, ty, pos, after, none⟩ :: rest) env H := h
theorem zg14  (h : VL Tryz.prog m n B w0 ops Q (⟨some d, .binOp .sub xt x y yt, ty, pos, after, none⟩ :: rest) env H) : VL Tryz.prog m n B w0 ops Q (⟨some d, .binOp .sub xt x y yt, ty, pos, after, none⟩ :: rest) env H := h
theorem zg15  (h : VL Tryz.prog m n B w0 ops Q (⟨some d, .binOp .mul xt x y yt, ty, pos, after, none⟩ :: rest) env H) : VL Tryz.prog m n B w0 ops Q (⟨some d, .binOp .mul xt x y yt, ty, pos, after, none⟩ :: rest) env H := h
theorem zg16  (h : VL Tryz.prog m n B w0 ops Q (⟨some d, .binOp .quo xt x y yt, ty, pos, after, none⟩ :: rest) env H) : VL Tryz.prog m n B w0 ops Q (⟨some d, .binOp .quo xt x y yt, ty, pos, after, none⟩ :: rest) env H := h
theorem zg17  (h : VL Tryz.prog m n B w0 ops Q (⟨some d, .binOp .rem xt x y yt, ty, pos, after, none⟩ :: rest) env H) : VL Tryz.prog m n B w0 ops Q (⟨some d, .binOp .rem xt x y yt, ty, pos, after, none⟩ :: rest) env H := h
theorem zg18  (h : VL Tryz.prog m n B w0 ops Q (⟨some d, .binOp .shr xt x y yt, ty, pos, after, none⟩ :: rest) env H) : VL Tryz.prog m n B w0 ops Q (⟨some d, .binOp .shr xt x y yt, ty, pos, after, none⟩ :: rest) env H := h
theorem zg19 {src dst : TypeId} (h : VL Tryz.prog m n B w0 ops Q (⟨some d, .convert src dst x, ty, pos, after, none⟩ :: rest) env H) : VL Tryz.prog m n B w0 ops Q (⟨some d, .convert src dst x, ty, pos, after, none⟩ :: rest) env H := h
theorem zg20 {x : Operand} {xt : TypeId} (h : VL Tryz.prog m n B w0 ops Q (⟨some d, .unOp .not xt x, ty, pos, after, none⟩ :: rest) env H) : VL Tryz.prog m n B w0 ops Q (⟨some d, .unOp .not xt x, ty, pos, after, none⟩ :: rest) env H := h
theorem zg21 {t : Nat} {x y : Operand} (h : VL Tryz.prog m n B w0 ops Q (⟨some d, .call ⟨.builtin .append, #[x, y], #[t, t]⟩, ty, pos, after, none⟩ :: rest) env H) : VL Tryz.prog m n B w0 ops Q (⟨some d, .call ⟨.builtin .append, #[x, y], #[t, t]⟩, ty, pos, after, none⟩ :: rest) env H := h
theorem zg22 {t : Nat} {x y : Operand} (h : VL Tryz.prog m n B w0 ops Q (⟨none, .store t x y, ty, pos, after, none⟩ :: rest) env H) : VL Tryz.prog m n B w0 ops Q (⟨none, .store t x y, ty, pos, after, none⟩ :: rest) env H := h
theorem zg23 {t : TypeId} {x : Operand} (h : VL Tryz.prog m n B w0 ops Q (⟨some d, .box t x, ty, pos, after, none⟩ :: rest) env H) : VL Tryz.prog m n B w0 ops Q (⟨some d, .box t x, ty, pos, after, none⟩ :: rest) env H := h
theorem zg24 {t : TypeId} (h : VL Tryz.prog m n B w0 ops Q (⟨some d, .alloc t, ty, pos, after, none⟩ :: rest) env H) : VL Tryz.prog m n B w0 ops Q (⟨some d, .alloc t, ty, pos, after, none⟩ :: rest) env H := h
theorem zg25 {t : TypeId} {parts : List (Nat × Operand)} (h : VL Tryz.prog m n B w0 ops Q (⟨some d, .build t parts.toArray, ty, pos, after, none⟩ :: rest) env H) : VL Tryz.prog m n B w0 ops Q (⟨some d, .build t parts.toArray, ty, pos, after, none⟩ :: rest) env H := h
theorem zg26 {t len : Nat} {parts : List (Nat × Operand)} (h : VL Tryz.prog m n B w0 ops Q (⟨some d, .buildSlice t len parts.toArray, ty, pos, after, none⟩ :: rest) env H) : VL Tryz.prog m n B w0 ops Q (⟨some d, .buildSlice t len parts.toArray, ty, pos, after, none⟩ :: rest) env H := h
theorem zg27 {c : Operand} {x y : Code} (h : VC Tryz.prog n B w0 (.cond c x y) Q env H) : VC Tryz.prog n B w0 (.cond c x y) Q env H := h
theorem zg28 {id : Nat} {l : List Oper} (h : VC Tryz.prog n B w0 (.region id l.toArray true) Q env H) : VC Tryz.prog n B w0 (.region id l.toArray true) Q env H := h
theorem zg29 {fn : Fn} {caps : List Operand} (h : VL Tryz.prog m n B w0 ops Q (⟨some d, .makeFunc fn #[] caps.toArray, ty, pos, after, none⟩ :: rest) env H) : VL Tryz.prog m n B w0 ops Q (⟨some d, .makeFunc fn #[] caps.toArray, ty, pos, after, none⟩ :: rest) env H := h
end
end Go.Eng
namespace Go.Proofs.YtmalhidldgfeoaaGreatDoor
open Go.RowKit Go.Eng Go.Nw
structure RowM where
  A : Option Addr
  cap : Nat
  xs : List Int
structure NetM where
  nodes : Int
  pA : Option Addr
  pcap : Nat
  rows : List RowM
  noise : Int
  thr : Int
  lA : Option Addr
  lcap : Nat
  links : List Lk
  mA : Option Addr
  mcap : Nat
  margin : List Int
def NetM.net (n : NetM) : Net := ⟨n.nodes, n.rows.map (·.xs), n.noise, n.thr, n.links, n.margin⟩
def NetM.val (n : NetM) : Value := .agg #[.int .i64 n.nodes, .slice n.pA n.rows.length n.pcap, .int .i64 n.noise, .int .i64 n.thr, .slice n.lA n.links.length n.lcap, .slice n.mA n.margin.length n.mcap]
def rowF (r : RowM) : List Value := [.slice r.A r.xs.length r.cap]
def numF (z : Int) : List Value := [.int .i64 z]
def lkF (l : Lk) : List Value := [.int .i64 l.1, .int .i64 l.2.1, .int .i64 l.2.2]
def lkV (l : Lk) : Value := .agg #[.int .i64 l.1, .int .i64 l.2.1, .int .i64 l.2.2]
structure NetM.In (B : Nat) (w0 : World) (H : List HP) (n : NetM) : Prop where
  pw : Rd B w0 H n.pA (n.rows.flatMap rowF)
  rw_ : ∀ r ∈ n.rows, Rd B w0 H r.A (r.xs.flatMap numF)
  lk : Rd B w0 H n.lA (n.links.flatMap lkF)
  mg : Rd B w0 H n.mA (n.margin.flatMap numF)
  s1 : n.rows.length ≤ 9223372036854775807
  s2 : ∀ r ∈ n.rows, r.xs.length ≤ 9223372036854775807
  s3 : n.links.length ≤ 9223372036854775807
  s4 : n.margin.length ≤ 9223372036854775807
theorem NetM.In.cons {B : Nat} {w0 : World} {H : List HP} {n : NetM} {X : HP} (h : n.In B w0 H) : n.In B w0 (X :: H) :=
  ⟨h.pw.cons, fun r hr => (h.rw_ r hr).cons, h.lk.cons, h.mg.cons, h.s1, h.s2, h.s3, h.s4⟩
theorem Ybd {α : Type} (val : α → Value) (p : α → Bool) (l : List α) (f : Nat) (cs : List Value) (hen : ∀ xs w, (callFunc f xs).run Tryz.prog w = .ok (.enter f xs) w) (hlen : l.length ≤ 9223372036854775807) {A : Option Addr} {cap B : Nat} {w0 : World} {H : List HP} {w : World} (hr : Rd B w0 H A (l.flatMap fun a => [val a]))
    (hp : ∀ a ∈ l, ∀ w, St B w0 H w → Calls Tryz.prog f ([val a] ++ cs).toArray w (Post B w0 fun v K => v = .bool (p a) ∧ K = H)) (hw : St B w0 H w) :
    Calls Tryz.prog 228 [.slice A l.length cap, .func (.func f) #[] cs.toArray].toArray w (Post B w0 fun v K => v = .int .i64 (Yq p l 0) ∧ K = H) := by
  refine Yf Tryz.func228 Tryz.ntmps228 rfl rfl hw ?_
  repeat' (first | refine zgb ?_ | fail)
  refine Yn (fun (k : Nat) => [(8, .int .i64 k), (7, .int .i64 l.length), (0, .slice A l.length cap), (1, .func (.func f) #[] cs.toArray)]) (fun _ => H) (fun k => k ≤ l.length ∧ Yq p l 0 = Yq p (l.drop k) k) (fun k => l.length - k) 0 ⟨Nat.zero_le _, by simp⟩ ?_ (fun w hw => hw) ?_
  · exact zu
  rintro k ⟨hk, hi⟩ K hK
  by_cases hlt : k < l.length
  · obtain ⟨a, ha⟩ : ∃ a, l[k]? = some a := ⟨_, List.getElem?_eq_getElem hlt⟩
    have hpa := hp a (List.mem_of_getElem? ha)
    rw [Jo p l ha] at hi
    repeat' (first | ((first | apply YD (cs := cs)); exact rfl; exact hen; exact za; exact rfl; exact fun _ hw => hpa _ hw) | refine zgd ?_ | (refine zge ?_ ?_ <;> intro _ <;> try (exfalso; omega)) | fail)
    cases hpv : p a
    · rw [hpv] at hi
      repeat' (first | refine zgd ?_ | fail)
      apply hK (k + 1)
      · exact ⟨by omega, hi⟩
      · omega
      · exact zu
      · exact fun w hw => hw
    · rw [hpv] at hi
      repeat' (first | refine zgc ?_ | fail)
      apply Yg; exact rfl; exact rfl
      exact ⟨by rw [hi]; rfl, rfl⟩
  · repeat' (first | refine zgc ?_ | (refine zge ?_ ?_ <;> intro _ <;> try (exfalso; omega)) | fail)
    apply Yg; exact rfl; exact rfl
    rw [hi, List.drop_eq_nil_of_le (by omega)]
    exact ⟨rfl, rfl⟩
theorem ZC {α : Type} (val : α → Value) (p : α → Bool) (l : List α) (f : Nat) (cs : List Value) (hen : ∀ xs w, (callFunc f xs).run Tryz.prog w = .ok (.enter f xs) w) (hlen : l.length ≤ 9223372036854775807) {A : Option Addr} {cap B : Nat} {w0 : World} {H : List HP} {w : World} (hr : Rd B w0 H A (l.flatMap fun a => [val a]))
    (hp : ∀ a ∈ l, ∀ w, St B w0 H w → Calls Tryz.prog f ([val a] ++ cs).toArray w (Post B w0 fun v K => v = .bool (p a) ∧ K = H)) (hw : St B w0 H w) :
    Calls Tryz.prog 164 [.slice A l.length cap, .func (.func f) #[] cs.toArray].toArray w (Post B w0 fun v K => v = .bool (l.any p) ∧ K = H) := by
  refine Yf Tryz.func164 Tryz.ntmps164 rfl rfl hw ?_
  have hia := Vk p l 0 (by omega)
  repeat' (first | ((first | apply Ya Yk5 | apply Yb Yk5); exact za; exact rfl; exact fun _ hw => (Ybd val p l f cs hen hlen hr hp hw)) | refine zga ?_ | (refine zgf ?_ ?_ <;> intro _ <;> try (exfalso; omega)) | fail)
  all_goals (apply Yg; exact rfl; exact rfl)
  · rename_i h; exact ⟨by rw [hia.1 h], rfl⟩
  · rename_i h
    have : ¬ l.any p = true := fun e => by have := hia.2 e; omega
    exact ⟨by rw [Bool.eq_false_iff.2 this], rfl⟩
theorem Ybe {α : Type} (val : α → Value) (p : α → Bool) (l : List α) (f : Nat) (cs : List Value) (hen : ∀ xs w, (callFunc f xs).run Tryz.prog w = .ok (.enter f xs) w) (hlen : l.length ≤ 9223372036854775807) {A : Option Addr} {cap B : Nat} {w0 : World} {H : List HP} {w : World} (hr : Rd B w0 H A (l.flatMap fun a => [val a]))
    (hp : ∀ a ∈ l, ∀ w, St B w0 H w → Calls Tryz.prog f ([val a] ++ cs).toArray w (Post B w0 fun v K => v = .bool (p a) ∧ K = H)) (hw : St B w0 H w) :
    Calls Tryz.prog 227 [.slice A l.length cap, .func (.func f) #[] cs.toArray].toArray w (Post B w0 fun v K => v = .int .i64 (Yq p l 0) ∧ K = H) := by
  refine Yf Tryz.func227 Tryz.ntmps227 rfl rfl hw ?_
  repeat' (first | refine zgb ?_ | fail)
  refine Yn (fun (k : Nat) => [(8, .int .i64 k), (7, .int .i64 l.length), (0, .slice A l.length cap), (1, .func (.func f) #[] cs.toArray)]) (fun _ => H) (fun k => k ≤ l.length ∧ Yq p l 0 = Yq p (l.drop k) k) (fun k => l.length - k) 0 ⟨Nat.zero_le _, by simp⟩ ?_ (fun w hw => hw) ?_
  · exact zu
  rintro k ⟨hk, hi⟩ K hK
  by_cases hlt : k < l.length
  · obtain ⟨a, ha⟩ : ∃ a, l[k]? = some a := ⟨_, List.getElem?_eq_getElem hlt⟩
    have hpa := hp a (List.mem_of_getElem? ha)
    rw [Jo p l ha] at hi
    repeat' (first | ((first | apply YD (cs := cs)); exact rfl; exact hen; exact za; exact rfl; exact fun _ hw => hpa _ hw) | refine zgd ?_ | (refine zge ?_ ?_ <;> intro _ <;> try (exfalso; omega)) | fail)
    cases hpv : p a
    · rw [hpv] at hi
      repeat' (first | refine zgd ?_ | fail)
      apply hK (k + 1)
      · exact ⟨by omega, hi⟩
      · omega
      · exact zu
      · exact fun w hw => hw
    · rw [hpv] at hi
      repeat' (first | refine zgc ?_ | fail)
      apply Yg; exact rfl; exact rfl
      exact ⟨by rw [hi]; rfl, rfl⟩
  · repeat' (first | refine zgc ?_ | (refine zge ?_ ?_ <;> intro _ <;> try (exfalso; omega)) | fail)
    apply Yg; exact rfl; exact rfl
    rw [hi, List.drop_eq_nil_of_le (by omega)]
    exact ⟨rfl, rfl⟩
theorem JS {α : Type} (val : α → Value) (p : α → Bool) (l : List α) (f : Nat) (cs : List Value) (hen : ∀ xs w, (callFunc f xs).run Tryz.prog w = .ok (.enter f xs) w) (hlen : l.length ≤ 9223372036854775807) {A : Option Addr} {cap B : Nat} {w0 : World} {H : List HP} {w : World} (hr : Rd B w0 H A (l.flatMap fun a => [val a]))
    (hp : ∀ a ∈ l, ∀ w, St B w0 H w → Calls Tryz.prog f ([val a] ++ cs).toArray w (Post B w0 fun v K => v = .bool (p a) ∧ K = H)) (hw : St B w0 H w) :
    Calls Tryz.prog 160 [.slice A l.length cap, .func (.func f) #[] cs.toArray].toArray w (Post B w0 fun v K => v = .bool (l.any p) ∧ K = H) := by
  refine Yf Tryz.func160 Tryz.ntmps160 rfl rfl hw ?_
  have hia := Vk p l 0 (by omega)
  repeat' (first | ((first | apply Ya Yk4 | apply Yb Yk4); exact za; exact rfl; exact fun _ hw => (Ybe val p l f cs hen hlen hr hp hw)) | refine zga ?_ | (refine zgf ?_ ?_ <;> intro _ <;> try (exfalso; omega)) | fail)
  all_goals (apply Yg; exact rfl; exact rfl)
  · rename_i h; exact ⟨by rw [hia.1 h], rfl⟩
  · rename_i h
    have : ¬ l.any p = true := fun e => by have := hia.2 e; omega
    exact ⟨by rw [Bool.eq_false_iff.2 this], rfl⟩
theorem Yah {α : Type} (val : α → Value) (p : α → Bool) (l : List α) (f : Nat) (cs : List Value) (hen : ∀ xs w, (callFunc f xs).run Tryz.prog w = .ok (.enter f xs) w) (hlen : l.length ≤ 9223372036854775807) {A : Option Addr} {cap B : Nat} {w0 : World} {H : List HP} {w : World} (hr : Rd B w0 H A (l.flatMap fun a => [val a]))
    (hp : ∀ a ∈ l, ∀ w, St B w0 H w → Calls Tryz.prog f ([val a] ++ cs).toArray w (Post B w0 fun v K => v = .bool (p a) ∧ K = H)) (hw : St B w0 H w) :
    Calls Tryz.prog 284 [.slice A l.length cap, .func (.func f) #[] cs.toArray].toArray w (Post B w0 fun v K => v = .int .i64 (Yq p l 0) ∧ K = H) := by
  refine Yf Tryz.func284 Tryz.ntmps284 rfl rfl hw ?_
  repeat' (first | refine zgb ?_ | fail)
  refine Yn (fun (k : Nat) => [(8, .int .i64 k), (7, .int .i64 l.length), (0, .slice A l.length cap), (1, .func (.func f) #[] cs.toArray)]) (fun _ => H) (fun k => k ≤ l.length ∧ Yq p l 0 = Yq p (l.drop k) k) (fun k => l.length - k) 0 ⟨Nat.zero_le _, by simp⟩ ?_ (fun w hw => hw) ?_
  · exact zu
  rintro k ⟨hk, hi⟩ K hK
  by_cases hlt : k < l.length
  · obtain ⟨a, ha⟩ : ∃ a, l[k]? = some a := ⟨_, List.getElem?_eq_getElem hlt⟩
    have hpa := hp a (List.mem_of_getElem? ha)
    rw [Jo p l ha] at hi
    repeat' (first | ((first | apply YD (cs := cs)); exact rfl; exact hen; exact za; exact rfl; exact fun _ hw => hpa _ hw) | refine zgd ?_ | (refine zge ?_ ?_ <;> intro _ <;> try (exfalso; omega)) | fail)
    cases hpv : p a
    · rw [hpv] at hi
      repeat' (first | refine zgd ?_ | fail)
      apply hK (k + 1)
      · exact ⟨by omega, hi⟩
      · omega
      · exact zu
      · exact fun w hw => hw
    · rw [hpv] at hi
      repeat' (first | refine zgc ?_ | fail)
      apply Yg; exact rfl; exact rfl
      exact ⟨by rw [hi]; rfl, rfl⟩
  · repeat' (first | refine zgc ?_ | (refine zge ?_ ?_ <;> intro _ <;> try (exfalso; omega)) | fail)
    apply Yg; exact rfl; exact rfl
    rw [hi, List.drop_eq_nil_of_le (by omega)]
    exact ⟨rfl, rfl⟩
theorem Wm {α : Type} (val : α → Value) (p : α → Bool) (l : List α) (f : Nat) (cs : List Value) (hen : ∀ xs w, (callFunc f xs).run Tryz.prog w = .ok (.enter f xs) w) (hlen : l.length ≤ 9223372036854775807) {A : Option Addr} {cap B : Nat} {w0 : World} {H : List HP} {w : World} (hr : Rd B w0 H A (l.flatMap fun a => [val a]))
    (hp : ∀ a ∈ l, ∀ w, St B w0 H w → Calls Tryz.prog f ([val a] ++ cs).toArray w (Post B w0 fun v K => v = .bool (p a) ∧ K = H)) (hw : St B w0 H w) :
    Calls Tryz.prog 244 [.slice A l.length cap, .func (.func f) #[] cs.toArray].toArray w (Post B w0 fun v K => v = .bool (l.any p) ∧ K = H) := by
  refine Yf Tryz.func244 Tryz.ntmps244 rfl rfl hw ?_
  have hia := Vk p l 0 (by omega)
  repeat' (first | ((first | apply Ya Yk7 | apply Yb Yk7); exact za; exact rfl; exact fun _ hw => (Yah val p l f cs hen hlen hr hp hw)) | refine zga ?_ | (refine zgf ?_ ?_ <;> intro _ <;> try (exfalso; omega)) | fail)
  all_goals (apply Yg; exact rfl; exact rfl)
  · rename_i h; exact ⟨by rw [hia.1 h], rfl⟩
  · rename_i h
    have : ¬ l.any p = true := fun e => by have := hia.2 e; omega
    exact ⟨by rw [Bool.eq_false_iff.2 this], rfl⟩
theorem Yhl (x : Int) {B : Nat} {w0 : World} {H : List HP} {w : World} (hw : St B w0 H w) : Calls Tryz.prog 158 [.int .i64 x].toArray w (Post B w0 fun v K => v = .bool false ∧ K = H) := by
  refine Yf Tryz.func158 Tryz.ntmps158 rfl rfl hw ?_
  repeat' (first | refine zga ?_ | (refine zge ?_ ?_ <;> intro _ <;> try (exfalso; omega)) | fail)
  apply Yg; exact rfl; exact rfl
  exact ⟨rfl, rfl⟩
theorem V1 (x y : Int) {B : Nat} {w0 : World} {H : List HP} {w : World} (hw : St B w0 H w) : Calls Tryz.prog 99 [.int .i64 x, .int .i64 y].toArray w (Post B w0 fun v K => v = .int .i64 (cmpI x y) ∧ K = H) := by
  refine Yf Tryz.func99 Tryz.ntmps99 rfl rfl hw ?_
  unfold cmpI
  repeat' (first | ((first | apply Ya YkY | apply Yb YkY); exact za; exact rfl; exact fun _ hw => (Yhl _ hw)) | refine zgb ?_ | (refine zge ?_ ?_ <;> intro _ <;> try (exfalso; omega)) | fail)
  all_goals (((repeat apply Ys); apply Yg; exact rfl; exact rfl; refine ⟨congrArg _ ?_, rfl⟩); (repeat (first | refine Xh (by omega) ?_ | refine Xi (by omega) ?_)); rfl)
open Go.RowKit Go.Eng Go.Nw
def cmpV (a b : List Int) : Int := if Jp a b = true then -1 else if Jp b a = true then 1 else 0
theorem Ybc (a b : List Int) (hla : a.length ≤ 1000000000000) (hlb : b.length ≤ 1000000000000) {A1 A2 : Option Addr} {c1 c2 B : Nat} {w0 : World} {H : List HP} {w : World} (hr1 : Rd B w0 H A1 (a.flatMap numF)) (hr2 : Rd B w0 H A2 (b.flatMap numF)) (hw : St B w0 H w) :
    Calls Tryz.prog 178 [.slice A1 a.length c1, .slice A2 b.length c2].toArray w (Post B w0 fun v K => v = .int .i64 (cmpV a b) ∧ K = H) := by
  refine Yf Tryz.func178 Tryz.ntmps178 rfl rfl hw ?_
  repeat' (first | refine zgb ?_ | fail)
  refine Yn (fun (i : Nat) => [(11, .int .i64 i), (10, .int .i64 a.length), (9, .slice A1 a.length c1), (0, .slice A1 a.length c1), (1, .slice A2 b.length c2)]) (fun _ => H) (fun i => i ≤ a.length ∧ i ≤ b.length ∧ Jp a b = Jp (a.drop i) (b.drop i) ∧ Jp b a = Jp (b.drop i) (a.drop i)) (fun i => a.length - i) 0 ⟨Nat.zero_le _, Nat.zero_le _, rfl, rfl⟩ ?_ (fun w hw => hw) ?_
  · exact zu
  rintro i ⟨hi, hib, e1, e2⟩ K hK
  by_cases hlt : i < a.length
  · obtain ⟨x, hx⟩ : ∃ x, a[i]? = some x := ⟨_, List.getElem?_eq_getElem hlt⟩
    by_cases hltb : i < b.length
    · obtain ⟨y, hy⟩ : ∃ y, b[i]? = some y := ⟨_, List.getElem?_eq_getElem hltb⟩
      have d1 := Yel hx hy
      have d2 := Yel hy hx
      have hcm := fun {w : World} (hw : St B w0 H w) => V1 x y hw
      by_cases hxy : x = y
      · rw [if_neg (fun h => h hxy)] at d1
        rw [if_neg (fun h => h hxy.symm)] at d2
        rw [show cmpI x y = 0 by unfold cmpI; rw [if_neg (by omega), if_neg (by omega)]] at hcm
        repeat' (first | ((first | apply Ya en99 | apply Yb en99); exact za; exact rfl; exact fun _ hw => (hcm hw)) | refine zgd ?_ | (refine zgf ?_ ?_ <;> intro _ <;> try (exfalso; omega)) | fail)
        apply hK (i + 1)
        · exact ⟨by omega, by omega, e1.trans d1, e2.trans d2⟩
        · omega
        · exact zu
        · exact fun w hw => hw
      · rw [if_pos hxy] at d1
        rw [if_pos (Ne.symm hxy)] at d2
        clear hK
        rcases Int.lt_or_gt_of_ne hxy with h | h
        · rw [show cmpI x y = -1 by unfold cmpI; rw [if_pos h]] at hcm
          have hv : cmpV a b = -1 := by unfold cmpV; rw [e1, d1, if_pos (decide_eq_true h)]
          rw [hv]
          repeat' (first | ((first | apply Ya en99 | apply Yb en99); exact za; exact rfl; exact fun _ hw => (hcm hw)) | refine zgd ?_ | (refine zgf ?_ ?_ <;> intro _ <;> try (exfalso; omega)) | fail)
          apply Yg; exact rfl; exact rfl; exact ⟨rfl, rfl⟩
        · rw [show cmpI x y = 1 by unfold cmpI; rw [if_neg (by omega), if_pos h]] at hcm
          have hv : cmpV a b = 1 := by unfold cmpV; rw [e1, d1, decide_eq_false (by omega), if_neg (by decide), e2, d2, if_pos (decide_eq_true h)]
          rw [hv]
          repeat' (first | ((first | apply Ya en99 | apply Yb en99); exact za; exact rfl; exact fun _ hw => (hcm hw)) | refine zgd ?_ | (refine zgf ?_ ?_ <;> intro _ <;> try (exfalso; omega)) | fail)
          apply Yg; exact rfl; exact rfl; exact ⟨rfl, rfl⟩
    · obtain rfl : i = b.length := by omega
      clear hK
      have hv : cmpV a b = 1 := by
        unfold cmpV
        rw [e1, e2, List.drop_length, List.drop_eq_getElem_cons hlt]
        rfl
      rw [hv]
      repeat' (first | refine zgd ?_ | (refine zgf ?_ ?_ <;> intro _ <;> try (exfalso; omega)) | fail)
      apply Yg; exact rfl; exact rfl; exact ⟨rfl, rfl⟩
  · obtain rfl : i = a.length := by omega
    clear hK
    rw [List.drop_length] at e1 e2
    by_cases hl : a.length < b.length
    · have hv : cmpV a b = -1 := by
        unfold cmpV
        rw [e1, List.drop_eq_getElem_cons hl]
        rfl
      rw [hv]
      repeat' (first | refine zgc ?_ | (refine zge ?_ ?_ <;> intro _ <;> try (exfalso; omega)) | fail)
      apply Yg; exact rfl; exact rfl; exact ⟨rfl, rfl⟩
    · have hv : cmpV a b = 0 := by
        unfold cmpV
        rw [e1, e2, List.drop_eq_nil_of_le (by omega)]
        rfl
      rw [hv]
      repeat' (first | refine zgc ?_ | (refine zge ?_ ?_ <;> intro _ <;> try (exfalso; omega)) | fail)
      apply Yg; exact rfl; exact rfl; exact ⟨rfl, rfl⟩
open Go.Nw
abbrev Cel := Int × Int × Int × Int × Int
def nums (c : Cel) : List Int := [c.1, c.2.1, c.2.2.1, c.2.2.2.1, c.2.2.2.2]
def Z0 (a b : Cel) : Bool := Jp (nums a) (nums b)
theorem Yb1 : ∀ {a b c : List Int}, Jp a b = true → Jp b c = true → Jp a c = true
  | _, _, [], _, h => by cases ‹List Int› <;> cases h
  | [], _, _ :: _, _, _ => rfl
  | _ :: _, [], _ :: _, h, _ => by cases h
  | x :: a, y :: b, z :: c, h1, h2 => by
    unfold Jp at h1 h2 ⊢
    by_cases e1 : x = y
    · subst e1
      rw [if_neg (fun h => h rfl)] at h1
      by_cases e2 : x = z
      · subst e2
        rw [if_neg (fun h => h rfl)] at h2 ⊢
        exact Yb1 h1 h2
      · rw [if_pos e2] at h2 ⊢; exact h2
    · rw [if_pos e1] at h1
      have h3 := of_decide_eq_true h1
      by_cases e2 : y = z
      · subst e2
        rw [if_pos e1]; exact h1
      · rw [if_pos e2] at h2
        have h4 := of_decide_eq_true h2
        rw [if_pos (by omega)]
        exact decide_eq_true (by omega)
theorem Ybw {a b c : Cel} (h1 : Z0 a b = true) (h2 : Z0 b c = true) : Z0 a c = true := Yb1 h1 h2
def insE (x n : Int) : Bool := decide (0 ≤ x ∧ x < n)
structure Sch where
  len : Int
  off : Int
  cells : List Cel
def Zm (s : Sch) (c : Cel) : Bool := insE c.1 s.len && insE c.2.1 s.off
def JF (s : Sch) (c : Cel) : Bool := Zm s c && insE c.2.2.1 32 && insE c.2.2.2.1 32 && insE c.2.2.2.2 256
def ZZ (s : Sch) : Bool := decide (1 ≤ s.len ∧ s.len ≤ 512 ∧ 1 ≤ s.off ∧ s.off ≤ 16)
def Yp (s : Sch) (i : Nat) : Cel := s.cells.getD i (0, 0, 0, 0, 0)
def Jh (s : Sch) (i : Nat) : Bool := JF s (Yp s i) && (decide (i = 0) || Z0 (Yp s (i - 1)) (Yp s i))
def Y7 (s : Sch) : Bool := ZZ s && decide (s.cells.length ≤ 512) && (List.range s.cells.length).all (Jh s)
theorem QE {p : Nat → Bool} {k : Nat} : (List.range (k + 1)).all p = ((List.range k).all p && p k) := by
  rw [List.range_succ, List.all_append]; simp
theorem YcC {p : Nat → Bool} {i k : Nat} (hi : i < k) (h : p i = false) : (List.range k).all p = false := by
  rw [List.all_eq_false]
  exact ⟨i, List.mem_range.2 hi, by rw [h]; decide⟩
theorem YcB {p : Nat → Bool} {i k : Nat} (h : (List.range k).all p = true) (hi : i < k) : p i = true := List.all_eq_true.1 h i (List.mem_range.2 hi)
theorem ZB {s : Sch} {i : Nat} {c : Cel} (h : s.cells[i]? = some c) : Yp s i = c := by
  unfold Yp; rw [List.getD_eq_getElem?_getD, h]; rfl
theorem YH {s : Sch} {i : Nat} (h : i < s.cells.length) : s.cells[i]? = some (Yp s i) := by
  unfold Yp; rw [List.getD_eq_getElem?_getD, List.getElem?_eq_getElem h]; rfl
theorem WM {s : Sch} {i : Nat} (h : i < s.cells.length) : Yp s i ∈ s.cells := List.mem_of_getElem? (YH h)
structure Frm (s : Sch) : Prop where
  sized : ZZ s = true
  few : s.cells.length ≤ 512
  formed : ∀ c ∈ s.cells, JF s c = true
  ord : s.cells.Pairwise fun a b => Z0 a b = true
theorem Wx {α : Type} {lt : α → α → Bool} (htr : ∀ {a b c}, lt a b = true → lt b c = true → lt a c = true) {l : List α} (h : ∀ i, ∀ a b, l[i]? = some a → l[i + 1]? = some b → lt a b = true) : l.Pairwise fun a b => lt a b = true := by
  induction l with
  | nil => exact .nil
  | cons x l ih =>
    have h1 := ih fun i a b ha hb => h (i + 1) a b (by simpa using ha) (by simpa using hb)
    refine .cons (fun y hy => ?_) h1
    cases l with
    | nil => cases hy
    | cons z l =>
      have hz := h 0 x z rfl rfl
      rcases List.mem_cons.1 hy with rfl | hy
      · exact hz
      · exact htr hz ((List.pairwise_cons.1 h1).1 y hy)
theorem Wq {s : Sch} : Y7 s = true ↔ Frm s := by
  unfold Y7
  simp only [Bool.and_eq_true, decide_eq_true_eq]
  constructor
  · rintro ⟨⟨h1, h2⟩, h3⟩
    have hc : ∀ i, i < s.cells.length → Jh s i = true := fun i hi => YcB h3 hi
    refine ⟨h1, h2, fun c hc2 => ?_, ?_⟩
    · obtain ⟨i, hi⟩ := List.mem_iff_getElem?.1 hc2
      have := hc i (List.getElem?_eq_some_iff.1 hi).1
      unfold Jh at this
      rw [ZB hi] at this
      simp only [Bool.and_eq_true] at this
      exact this.1
    · refine Wx (lt := Z0) (fun h1 h2 => Ybw h1 h2) fun i a b ha hb => ?_
      have := hc (i + 1) (List.getElem?_eq_some_iff.1 hb).1
      unfold Jh at this
      rw [ZB hb, Nat.add_sub_cancel, ZB ha] at this
      simp only [Bool.and_eq_true, Bool.or_eq_true, decide_eq_true_eq] at this
      rcases this.2 with h | h
      · omega
      · exact h
  · intro h
    refine ⟨⟨h.sized, h.few⟩, List.all_eq_true.2 fun i hi => ?_⟩
    have hi := List.mem_range.1 hi
    unfold Jh
    rw [h.formed _ (WM hi), Bool.true_and, Bool.or_eq_true, decide_eq_true_eq]
    rcases Nat.eq_zero_or_pos i with h0 | h0
    · exact .inl h0
    · right
      obtain ⟨h1, h2⟩ := List.getElem?_eq_some_iff.1 (YH (s := s) (i := i - 1) (by omega))
      obtain ⟨h3, h4⟩ := List.getElem?_eq_some_iff.1 (YH (s := s) hi)
      have := List.pairwise_iff_getElem.1 h.ord (i - 1) i h1 h3 (by omega)
      rw [h2, h4] at this
      exact this
abbrev Flw := Int × Int × Int × Int × Int × Int
def YX (nodes : Int) (f : Flw) : Int :=
  if f.1 < 0 ∨ 255 < f.1 ∨ insE f.2.1 nodes = false ∨ insE f.2.2.1 nodes = false then 2
  else if f.2.2.2.1 < 1 ∨ 512 < f.2.2.2.1 ∨ f.2.2.2.2.1 < 0 ∨ f.2.2.2.1 ≤ f.2.2.2.2.1 ∨ f.2.2.2.2.2 < 1 ∨ f.2.2.2.1 < f.2.2.2.2.2 then 2
  else if f.2.1 = f.2.2.1 then 1 else 0
def XA (l : List Flw) (i : Nat) : Flw := l.getD i (0, 0, 0, 0, 0, 0)
def YG (f : Nat → Int) : Nat → Nat → Int × Int
  | 0, _ => (-1, 0)
  | r + 1, i => if f i = 0 then YG f r (i + 1) else ((i : Int), f i)
theorem Y3 {f : Nat → Int} : ∀ {r i : Nat}, (YG f r i).2 = 0 ↔ ∀ k, i ≤ k → k < i + r → f k = 0
  | 0, i => by simp [YG]; intro k h1 h2; omega
  | r + 1, i => by
    unfold YG
    split
    · rename_i h
      rw [Y3]
      constructor
      · intro h1 k hk1 hk2
        rcases Nat.eq_or_lt_of_le hk1 with rfl | h2
        · exact h
        · exact h1 k (by omega) (by omega)
      · intro h1 k hk1 hk2
        exact h1 k (by omega) (by omega)
    · rename_i h
      constructor
      · intro h1; exact absurd h1 h
      · intro h1; exact absurd (h1 i (Nat.le_refl _) (by omega)) h
theorem Q4 {f : Nat → Int} : ∀ {r i : Nat}, (YG f r i).2 = 0 → (YG f r i).1 = -1
  | 0, i, _ => rfl
  | r + 1, i, h => by
    unfold YG at h ⊢
    split at h
    · rw [if_pos ‹_›]; exact Q4 h
    · exact absurd h ‹_›
def Y4 (nodes : Int) (l : List Flw) (i : Nat) : Int := if YX nodes (XA l i) ≠ 0 then YX nodes (XA l i) else if 0 < i ∧ (XA l i).1 ≤ (XA l (i - 1)).1 then 5 else 0
def YR (nodes : Int) (l : List Flw) : Int × Int :=
  if nodes < 2 ∨ 32 < nodes then (-1, 2) else if 16 < l.length then (-1, 8) else YG (Y4 nodes l) l.length 0
def Z2 (l : List Flw) (id : Int) : Int := Yq (fun f => decide (f.1 = id)) l 0
open Go.RowKit Go.Eng Go.Nw
theorem YiG (xs : List Int) {A : Option Addr} {cap : Nat} (n : NetM) (g : Nat) {B : Nat} {w0 : World} {H : List HP} {w : World} (hw : St B w0 (blk g (.cells #[.int .i64 n.nodes, .slice n.pA n.rows.length n.pcap, .int .i64 n.noise, .int .i64 n.thr, .slice n.lA n.links.length n.lcap, .slice n.mA n.margin.length n.mcap] 26 (0, 0)) :: H) w) :
    Calls Tryz.prog 161 [.slice A xs.length cap, .pointer (some ⟨g, 0, none⟩)].toArray w (Post B w0 fun v K => v = .bool (wide n.nodes xs) ∧ K = blk g (.cells #[.int .i64 n.nodes, .slice n.pA n.rows.length n.pcap, .int .i64 n.noise, .int .i64 n.thr, .slice n.lA n.links.length n.lcap, .slice n.mA n.margin.length n.mcap] 26 (0, 0)) :: H) := by
  refine Yf Tryz.func161 Tryz.ntmps161 rfl rfl hw ?_
  unfold wide
  repeat' (first | refine zgb ?_ | (refine zge ?_ ?_ <;> intro _ <;> try (exfalso; omega)) | fail)
  · rename_i h
    apply Yg; exact rfl; exact rfl
    exact ⟨by rw [decide_eq_true h], rfl⟩
  · rename_i h
    apply Yg; exact rfl; exact rfl
    exact ⟨by rw [decide_eq_false (by omega)], rfl⟩
theorem YiH (p : Int) {B : Nat} {w0 : World} {H : List HP} {w : World} (hw : St B w0 H w) : Calls Tryz.prog 162 [.int .i64 p].toArray w (Post B w0 fun v K => v = .bool (Zl p) ∧ K = H) := by
  refine Yf Tryz.func162 Tryz.ntmps162 rfl rfl hw ?_
  unfold Zl
  repeat' (first | refine zgc ?_ | (refine zge ?_ ?_ <;> intro _ <;> try (exfalso; omega)) | fail)
  · apply Yg; exact rfl; exact rfl
    exact ⟨by rw [decide_eq_true (by omega)], rfl⟩
  · apply Yg; exact rfl; exact rfl
    exact ⟨by rw [decide_eq_true (by omega)], rfl⟩
  · apply Yg; exact rfl; exact rfl
    exact ⟨by rw [decide_eq_false (by omega)], rfl⟩
theorem YiI (xs : List Int) (hl : xs.length ≤ 9223372036854775807) {A : Option Addr} {cap : Nat} (g : Nat) {B : Nat} {w0 : World} {H : List HP} {w : World} (hr : Rd B w0 H A (xs.flatMap numF)) (hw : St B w0 (blk g (.cells #[.func (.func 162) #[] #[]] 195 (0, 0)) :: H) w) :
    Calls Tryz.prog 163 [.slice A xs.length cap, .pointer (some ⟨g, 0, none⟩)].toArray w (Post B w0 fun v K => v = .bool (xs.any Zl) ∧ K = blk g (.cells #[.func (.func 162) #[] #[]] 195 (0, 0)) :: H) := by
  refine Yf Tryz.func163 Tryz.ntmps163 rfl rfl hw ?_
  repeat' (first | ((first | apply Ya YbF | apply Yb YbF); exact za; exact rfl; exact fun _ hw => (ZC (fun z : Int => .int .i64 z) Zl xs 162 [] Ymc hl hr.cons (fun a _ _ hw => YiH a hw) hw)) | refine zga ?_ | fail)
  apply Yg; exact rfl; exact rfl
  exact ⟨rfl, rfl⟩
theorem YdJ (n : NetM) (p : List Int → Bool) : (n.rows.any fun r => p r.xs) = n.net.power.any p := by simp [NetM.net, List.any_map, Function.comp_def]
theorem O4 (n : NetM) {B : Nat} {w0 : World} {H : List HP} {w : World} (hin : n.In B w0 H) (hw : St B w0 H w) :
    Calls Tryz.prog 108 [n.val].toArray w (Post B w0 fun v K => v = .int .i64 (Vz n.net) ∧ K = H) := by
  refine Yf Tryz.func108 Tryz.ntmps108 rfl rfl hw ?_
  obtain ⟨hpw, hrw, hlk, hmg, hs1, hs2, hs3, hs4⟩ := hin
  have e1 : n.net.power.length = n.rows.length := by simp [NetM.net]
  have e2 : n.net.nodes = n.nodes := rfl
  unfold Vz
  rw [e1, e2, ← YdJ, ← YdJ n (fun r => r.any Zl)]
  repeat' (first | (apply zg29; (apply Yj; exact za ; exact rfl)) | refine zgc ?_ | (refine zge ?_ ?_ <;> intro _ <;> try (exfalso; omega)) | (refine zgh ?_; intro _) | fail)
  · ((repeat apply Ys); apply Yg; exact rfl; exact rfl; refine ⟨congrArg _ ?_, rfl⟩)
    (repeat (first | refine Xh (by omega) ?_ | refine Xi (by omega) ?_))
    rfl
  rename_i g _
  repeat' (first | ((first | apply Ya YiN | apply Yb YiN); exact za; exact rfl; exact fun _ hw => (JS (fun r : RowM => .slice r.A r.xs.length r.cap) (fun r => wide n.nodes r.xs) n.rows 161 [.pointer (some ⟨g, 0, none⟩)] Ymb hs1 hpw.cons (fun a _ _ hw => YiG a.xs n g hw) hw)) | refine zgc ?_ | fail)
  cases hc : (n.rows.any fun r => wide n.nodes r.xs)
  rotate_left
  · repeat' (first | refine zgb ?_ | fail)
    ((repeat apply Ys); apply Yg; exact rfl; exact rfl; refine ⟨congrArg _ ?_, rfl⟩)
    rw [if_neg (by omega)]; rfl
  repeat' (first | (apply zg29; (apply Yj; exact za ; exact rfl)) | refine zgd ?_ | (refine zgh ?_; intro _) | fail)
  rename_i g2
  apply Ya YiN
  exact za
  exact rfl
  exact fun _ hw => JS (fun r : RowM => .slice r.A r.xs.length r.cap) (fun r => r.xs.any Zl) n.rows 163 [.pointer (some ⟨g2, 0, none⟩)] Ymd hs1 hpw.cons.cons (fun a ha _ hw => YiI a.xs (hs2 a ha) g2 (hrw a ha).cons hw) hw
  cases hd : (n.rows.any fun r => r.xs.any Zl)
  · repeat' (first | refine zgb ?_ | fail)
    ((repeat apply Ys); apply Yg; exact rfl; exact rfl; refine ⟨congrArg _ ?_, rfl⟩)
    rw [if_neg (by omega)]; rfl
  · repeat' (first | refine zgb ?_ | fail)
    ((repeat apply Ys); apply Yg; exact rfl; exact rfl; refine ⟨congrArg _ ?_, rfl⟩)
    rw [if_neg (by omega)]; rfl
end Go.Proofs.YtmalhidldgfeoaaGreatDoor
namespace Go.Nw
theorem Yd1 {x y : Int} : cmpI x y < 0 ↔ x < y := by unfold cmpI; split <;> (try split) <;> omega
theorem WP {x y : Int} : cmpI x y = 0 ↔ x = y := by unfold cmpI; split <;> (try split) <;> omega
theorem Jk {a b : Lk} : cmpL a b < 0 ↔ a.1 < b.1 ∨ (a.1 = b.1 ∧ a.2.1 < b.2.1) := by
  have h1 := @Yd1 a.1 b.1
  have h2 := @WP a.1 b.1
  have h3 := @Yd1 a.2.1 b.2.1
  unfold cmpL; split <;> omega
theorem JR {a b : Lk} : cmpL a b = 0 ↔ a.1 = b.1 ∧ a.2.1 = b.2.1 := by
  have h2 := @WP a.1 b.1
  have h3 := @WP a.2.1 b.2.1
  unfold cmpL; split <;> omega
structure OkL (n : Net) (i : Nat) : Prop where
  f0 : 0 ≤ (lnk n i).1
  f1 : (lnk n i).1 < n.nodes
  t0 : 0 ≤ (lnk n i).2.1
  t1 : (lnk n i).2.1 < n.nodes
  ne : (lnk n i).1 ≠ (lnk n i).2.1
  l0 : 0 ≤ (lnk n i).2.2
  l1 : (lnk n i).2.2 ≤ 7
  ord : 0 < i → cmpL (lnk n (i - 1)) (lnk n i) < 0
  m0 : 0 ≤ mar n i
  m1 : mar n i ≤ powr n (lnk n i).1 (lnk n i).2.1
theorem Ykj {n : Net} {i : Nat} (h : UO n i = 0) : OkL n i := by
  unfold UO at h
  by_cases h1 : ¬ (0 ≤ (lnk n i).1 ∧ (lnk n i).1 < n.nodes) ∨ ¬ (0 ≤ (lnk n i).2.1 ∧ (lnk n i).2.1 < n.nodes) ∨ (lnk n i).1 = (lnk n i).2.1 ∨ (lnk n i).2.2 < 0 ∨ 7 < (lnk n i).2.2
  · rw [if_pos h1] at h; omega
  rw [if_neg h1] at h
  by_cases h2 : 0 < i ∧ 0 ≤ cmpL (lnk n (i - 1)) (lnk n i)
  · rw [if_pos h2] at h; omega
  rw [if_neg h2] at h
  by_cases h3 : mar n i < 0 ∨ powr n (lnk n i).1 (lnk n i).2.1 < mar n i
  · rw [if_pos h3] at h; omega
  constructor <;> omega
structure Ok (n : Net) : Prop where
  n0 : 2 ≤ n.nodes
  n1 : n.nodes ≤ 32
  p0 : (n.power.length : Int) = n.nodes
  p1 : ∀ r ∈ n.power, (r.length : Int) = n.nodes
  p2 : ∀ r ∈ n.power, ∀ p ∈ r, 0 ≤ p ∧ p ≤ 68719476736
  z0 : 0 ≤ n.noise
  z1 : n.noise ≤ 68719476736
  t0 : 1000 ≤ n.thr
  t1 : n.thr ≤ 100000
  k0 : n.links.length ≤ 128
  k1 : n.margin.length = n.links.length
  lk : ∀ i, i < n.links.length → OkL n i
theorem Yep {n : Net} : ∀ (r i : Nat), Jq n r i = 0 → ∀ j, i ≤ j → j < i + r → OkL n j
  | 0, _, _, j, h1, h2 => by omega
  | r + 1, i, h, j, h1, h2 => by
    unfold Jq at h
    by_cases h0 : UO n i = 0
    · rw [if_pos h0] at h
      by_cases e : i = j
      · subst e; exact Ykj h0
      · exact Yep r (i + 1) h j (by omega) (by omega)
    · rw [if_neg h0] at h; exact absurd h h0
theorem Xe {n : Net} (h : YF n = 0) : Ok n := by
  unfold YF at h
  by_cases h1 : n.nodes < 2 ∨ 32 < n.nodes
  · rw [if_pos h1] at h; omega
  rw [if_neg h1] at h
  by_cases h2 : Vz n ≠ 0
  · rw [if_pos h2] at h; exact absurd h h2
  rw [if_neg h2] at h
  by_cases h3 : n.noise < 0 ∨ 68719476736 < n.noise ∨ n.thr < 1000 ∨ 100000 < n.thr
  · rw [if_pos h3] at h; omega
  rw [if_neg h3] at h
  by_cases h4 : 128 < n.links.length
  · rw [if_pos h4] at h; omega
  rw [if_neg h4] at h
  by_cases h5 : n.margin.length ≠ n.links.length
  · rw [if_pos h5] at h; omega
  rw [if_neg h5] at h
  obtain ⟨t1, t2, t3⟩ := YeS (Classical.not_not.1 h2)
  exact ⟨by omega, by omega, t1, t2, t3, by omega, by omega, by omega, by omega, by omega, Classical.not_not.1 h5, fun i hi => Yep _ _ h i (Nat.zero_le _) (by omega)⟩
theorem YaR {n : Net} (h : Ok n) : ∀ (i j : Nat), i < j → j < n.links.length → cmpL (lnk n i) (lnk n j) < 0 := by
  intro i j
  induction j with
  | zero => intro h1; omega
  | succ j ih =>
    intro h1 h2
    have h3 := (h.lk (j + 1) h2).ord (by omega)
    rw [Nat.add_sub_cancel] at h3
    by_cases e : i = j
    · subst e; exact h3
    · have h4 := ih (by omega) (by omega)
      rw [Jk] at *
      omega
def OF (a b : Int) (l : Lk) : Bool := decide (l.1 = a) && decide (l.2.1 = b)
def YC (n : Net) (a b : Int) : Int := Yq (OF a b) n.links 0
theorem Ws {α : Type} {p : α → Bool} : ∀ {l : List α} {k : Int}, (∀ a ∈ l, p a = false) → Yq p l k = -1
  | [], _, _ => rfl
  | a :: l, k, h => by
    rw [Yq, h a List.mem_cons_self, if_neg (by simp)]
    exact Ws fun b hb => h b (List.mem_cons_of_mem _ hb)
theorem U0 {α : Type} {p : α → Bool} : ∀ {l : List α} {k : Int} {i : Nat} {a : α}, l[i]? = some a → p a = true → (∀ j b, j < i → l[j]? = some b → p b = false) → Yq p l k = k + i
  | [], _, _, _, h, _, _ => by simp at h
  | b :: l, k, 0, a, h, hp, _ => by
    obtain rfl : b = a := by simpa using h
    rw [Yq, if_pos hp]; simp
  | b :: l, k, i + 1, a, h, hp, hn => by
    have hb := hn 0 b (by omega) (by simp)
    rw [Yq, if_neg (by rw [hb]; simp), U0 (i := i) (a := a) (by simpa using h) hp fun j c hj hc => hn (j + 1) c (by omega) (by simpa using hc)]
    omega
theorem Vj {α : Type} {p : α → Bool} : ∀ {l : List α} {k : Int}, 0 ≤ k → Yq p l k = -1 ∨ (k ≤ Yq p l k ∧ Yq p l k < k + l.length)
  | [], _, _ => .inl rfl
  | a :: l, k, h => by
    unfold Yq
    by_cases hp : p a = true
    · rw [if_pos hp]; simp only [List.length_cons]; omega
    · rw [if_neg hp]
      rcases @Vj _ p l (k + 1) (by omega) with h1 | h1
      · exact .inl h1
      · simp only [List.length_cons]; omega
theorem Wt {α : Type} {p : α → Bool} : ∀ {l : List α} {k : Int} {i : Nat}, 0 ≤ k → Yq p l k = k + i → ∃ a, l[i]? = some a ∧ p a = true
  | [], k, i, h0, h => by simp [Yq] at h; omega
  | a :: l, k, i, h0, h => by
    unfold Yq at h
    by_cases hp : p a = true
    · rw [if_pos hp] at h
      obtain rfl : i = 0 := by omega
      exact ⟨a, by simp, hp⟩
    · rw [if_neg hp] at h
      cases i with
      | zero =>
        rcases @Vj _ p l (k + 1) (by omega) with h1 | h1 <;> omega
      | succ i =>
        obtain ⟨b, h1, h2⟩ := Wt (p := p) (i := i) (l := l) (k := k + 1) (by omega) (by omega)
        exact ⟨b, by simpa using h1, h2⟩
theorem JH {n : Net} {i : Nat} {l : Lk} (h : n.links[i]? = some l) : lnk n i = l := by simp [lnk, List.getD, h]
theorem YcT {n : Net} {i : Nat} {z : Int} (h : n.margin[i]? = some z) : mar n i = z := by simp [mar, List.getD, h]
theorem Yeq (n : Net) {i : Nat} (h : i < n.links.length) : n.links[i]? = some (lnk n i) := by simp [lnk, List.getD, h]
theorem Yea {n : Net} (h : Ok n) {a b c : Int} {k : Nat} (hk : k ≤ n.links.length) (h1 : ∀ j, j < k → cmpL (lnk n j) (a, b, c) < 0) (h2 : ∀ j, k ≤ j → j < n.links.length → 0 ≤ cmpL (lnk n j) (a, b, c)) :
    YC n a b = if k < n.links.length ∧ cmpL (lnk n k) (a, b, c) = 0 then (k : Int) else -1 := by
  unfold YC
  have hlow : ∀ j l, j < k → n.links[j]? = some l → OF a b l = false := fun j l hj hl => by
    have := h1 j hj
    rw [JH hl, Jk] at this
    simp only [OF, Bool.and_eq_false_iff, decide_eq_false_iff_not]
    simp only at this
    omega
  by_cases hc : k < n.links.length ∧ cmpL (lnk n k) (a, b, c) = 0
  · rw [if_pos hc, U0 (Yeq n hc.1) (by have := JR.1 hc.2; simp only at this; simp [OF, this]) hlow]
    omega
  · rw [if_neg hc]
    refine Ws fun l hl => ?_
    obtain ⟨j, hj, rfl⟩ := List.mem_iff_getElem.1 hl
    by_cases hjk : j < k
    · exact hlow j _ hjk (List.getElem?_eq_getElem hj)
    · have e : lnk n j = n.links[j] := JH (List.getElem?_eq_getElem hj)
      have h3 : cmpL (lnk n j) (a, b, c) ≠ 0 := by
        by_cases ejk : j = k
        · subst ejk; exact fun e => hc ⟨hj, e⟩
        · intro e0
          have h4 := YaR h k j (by omega) hj
          have h5 := h2 k (Nat.le_refl _) (by omega)
          rw [JR] at e0
          rw [Jk] at h4
          have h6 : ¬ cmpL (lnk n k) (a, b, c) < 0 := by omega
          rw [Jk] at h6
          simp only at *
          omega
      rw [e, Ne, JR] at h3
      simp only at h3
      simp only [OF, Bool.and_eq_false_iff, decide_eq_false_iff_not]
      omega
def ZX (n : Net) (s d : Int) : Bool := decide (n.thr * (n.noise + d) ≤ s * 1000)
def WI (n : Net) (i : Nat) : Bool := decide (0 ≤ YC n (lnk n i).2.1 (lnk n i).1) && (ZX n (mar n i) 0 && ZX n (mar n (YC n (lnk n i).2.1 (lnk n i).1).toNat) 0)
theorem Yke {n : Net} (h : Ok n) {d : Int} (h0 : 0 ≤ d) (h1 : d ≤ 8796093022208) : -9223372036854775808 ≤ n.thr * (n.noise + d) ∧ n.thr * (n.noise + d) ≤ 9223372036854775807 := by
  have h2 := h.t0; have h3 := h.t1; have h4 := h.z0; have h5 := h.z1
  have h6 : 0 ≤ n.thr * (n.noise + d) := Int.mul_nonneg (by omega) (by omega)
  have h7 : n.thr * (n.noise + d) ≤ 100000 * (n.noise + d) := Int.mul_le_mul_of_nonneg_right h3 (by omega)
  omega
theorem Yi1 {n : Net} (h : Ok n) {i : Nat} (hi : i < n.links.length) : 0 ≤ mar n i ∧ mar n i ≤ 68719476736 := by
  have hl := h.lk i hi
  refine ⟨hl.m0, Int.le_trans hl.m1 ?_⟩
  unfold powr
  have e1 : (lnk n i).1.toNat < n.power.length := by have := h.p0; have := hl.f1; have := hl.f0; omega
  rw [show n.power.getD (lnk n i).1.toNat [] = n.power[(lnk n i).1.toNat] by simp [List.getD, e1]]
  have hm := List.getElem_mem e1
  have e2 : (lnk n i).2.1.toNat < (n.power[(lnk n i).1.toNat]).length := by have := h.p1 _ hm; have := hl.t1; have := hl.t0; omega
  rw [show (n.power[(lnk n i).1.toNat]).getD (lnk n i).2.1.toNat 0 = (n.power[(lnk n i).1.toNat])[(lnk n i).2.1.toNat] by simp [List.getD, e2]]
  exact (h.p2 _ hm _ (List.getElem_mem e2)).2
theorem ZJ {n : Net} {a b : Int} (h : 0 ≤ YC n a b) : (YC n a b).toNat < n.links.length := by
  rcases @Vj _ (OF a b) n.links 0 (by omega) with h1 | h1 <;> unfold YC at h ⊢ <;> omega
theorem V8 {n : Net} {a b : Int} (h : 0 ≤ YC n a b) : (lnk n (YC n a b).toNat).1 = a ∧ (lnk n (YC n a b).toNat).2.1 = b := by
  obtain ⟨l, h1, h2⟩ := @Wt _ (OF a b) n.links 0 (YC n a b).toNat (by omega) (by unfold YC at *; omega)
  rw [JH h1]
  simpa [OF] using h2
end Go.Nw
namespace Go.Proofs.YtmalhidldgfeoaaGreatDoor
open Go.RowKit Go.Eng Go.Nw
abbrev netB (g : Nat) (n : NetM) : HP := blk g (.cells #[.int .i64 n.nodes, .slice n.pA n.rows.length n.pcap, .int .i64 n.noise, .int .i64 n.thr, .slice n.lA n.links.length n.lcap, .slice n.mA n.margin.length n.mcap] 26 (0, 0))
def YV : List Int → Int
  | [] => 0
  | a :: l => if a ≠ 0 then a else YV l
theorem YcQ (l : List Int) {k : Nat} {a : Int} (h : l[k]? = some a) : YV (l.drop k) = if a ≠ 0 then a else YV (l.drop (k + 1)) := by
  obtain ⟨hk, rfl⟩ := List.getElem?_eq_some_iff.1 h
  rw [List.drop_eq_getElem_cons hk, YV]
theorem YgG (l : List Int) (hlen : l.length ≤ 1000) {A : Option Addr} {cap B : Nat} {w0 : World} {H : List HP} {w : World} (hr : Rd B w0 H A (l.flatMap numF)) (hw : St B w0 H w) :
    Calls Tryz.prog 98 [.slice A l.length cap].toArray w (Post B w0 fun v K => v = .int .i64 (YV l) ∧ K = H) := by
  refine Yf Tryz.func98 Tryz.ntmps98 rfl rfl hw ?_
  repeat' (first | refine zgb ?_ | fail)
  refine Yn (fun (k : Nat) => [(8, .int .i64 k), (7, .int .i64 l.length), (6, .slice A l.length cap), (3, .int .i64 0)]) (fun _ => H) (fun k => k ≤ l.length ∧ YV l = YV (l.drop k)) (fun k => l.length - k) 0 ⟨Nat.zero_le _, by simp⟩ ?_ (fun w hw => hw) ?_
  · exact zu
  rintro k ⟨hk, hi⟩ K hK
  by_cases hlt : k < l.length
  · obtain ⟨a, ha⟩ : ∃ a, l[k]? = some a := ⟨_, List.getElem?_eq_getElem hlt⟩
    rw [YcQ l ha] at hi
    repeat' (first | refine zgd ?_ | (refine zge ?_ ?_ <;> intro _ <;> try (exfalso; omega)) | fail)
    · rename_i h
      rw [if_pos h] at hi
      ((repeat apply Ys); apply Yg; exact rfl; exact rfl; refine ⟨congrArg _ ?_, rfl⟩)
      rw [hi]
    · rename_i h
      rw [if_neg (by omega)] at hi
      repeat' (first | fail)
      apply hK (k + 1)
      · exact ⟨by omega, hi⟩
      · omega
      · exact zu
      · exact fun w hw => hw
  · repeat' (first | refine zgc ?_ | (refine zge ?_ ?_ <;> intro _ <;> try (exfalso; omega)) | fail)
    ((repeat apply Ys); apply Yg; exact rfl; exact rfl; refine ⟨congrArg _ ?_, rfl⟩)
    rw [hi, List.drop_eq_nil_of_le (by omega)]; rfl
theorem YlB (x y : Int) : YV [x, y] = if x = 0 then y else x := by
  simp only [YV]
  by_cases h : x = 0
  · by_cases h2 : y = 0 <;> simp [h, h2]
  · simp [h]
theorem Z7 (a b : Lk) {B : Nat} {w0 : World} {H : List HP} {w : World} (hw : St B w0 H w) : Calls Tryz.prog 166 [lkV a, lkV b].toArray w (Post B w0 fun v K => v = .int .i64 (cmpL a b) ∧ K = H) := by
  refine Yf Tryz.func166 Tryz.ntmps166 rfl rfl hw ?_
  repeat' (first | refine zga ?_ | (refine zgh ?_; intro _) | fail)
  apply Y0 [0, 1, 2, 3, 5, 6, 7, 8, 4, 9, 10, 11, 12] [] [true, true]
  kernel_rfl
  kernel_rfl
  exact zy
  (simp only [Yl, nthO]; rfl)
  exact rfl
  repeat' (first | ((first | apply Ya en99 | apply Yb en99); exact za; exact rfl; exact fun _ hw => (V1 _ _ hw)) | (apply Yi; (repeat (first | with_reducible exact Yh | (with_reducible apply Yd; (repeat (first | with_reducible exact Ye | with_reducible apply Yc)))))) | refine zgd ?_ | (refine zgh ?_; intro _) | fail)
  rename_i g
  first | apply Ya en98 | apply Yb en98
  exact za
  exact rfl
  exact fun _ hw => (YgG [cmpI a.1 b.1, cmpI a.2.1 b.2.1] (by simp) (Rd.blk (g := g) (cs := #[.int .i64 (cmpI a.1 b.1), .int .i64 (cmpI a.2.1 b.2.1)]) zm) hw)
  repeat' (first | (apply Yi; (repeat (first | with_reducible exact Yh | (with_reducible apply Yd; (repeat (first | with_reducible exact Ye | with_reducible apply Yc)))))) | refine zgd ?_ | fail)
  ((repeat apply Ys); apply Yg; exact rfl; exact rfl; refine ⟨congrArg _ ?_, rfl⟩)
  rw [YlB]; rfl
theorem Wl (n : NetM) (g : Nat) (a : Int) {B : Nat} {w0 : World} {H : List HP} {w : World} (hm : netB g n ∈ H) (hw : St B w0 H w) :
    Calls Tryz.prog 165 [.int .i64 a, .pointer (some ⟨g, 0, none⟩)].toArray w (Post B w0 fun v K => v = .bool (decide (0 ≤ a ∧ a < n.nodes)) ∧ K = H) := by
  refine Yf Tryz.func165 Tryz.ntmps165 rfl rfl hw ?_
  repeat' (first | refine zgc ?_ | (refine zgf ?_ ?_ <;> intro _ <;> try (exfalso; omega)) | fail)
  · apply Yg; exact rfl; exact rfl
    exact ⟨by rw [decide_eq_true (by omega)], rfl⟩
  · apply Yg; exact rfl; exact rfl
    exact ⟨by rw [decide_eq_false (by omega)], rfl⟩
  · apply Yg; exact rfl; exact rfl
    exact ⟨by rw [decide_eq_false (by omega)], rfl⟩
open Go.RowKit Go.Eng Go.Nw
theorem YeC {n : Net} {a b : Int} {r : List Int} {p : Int} (h1 : n.power[a.toNat]? = some r) (h2 : r[b.toNat]? = some p) : powr n a b = p := by simp [powr, List.getD, h1, h2]
theorem QM (n : NetM) (i : Nat) {B : Nat} {w0 : World} {H : List HP} {w : World} (hin : n.In B w0 H) (hi : i < n.links.length) (hml : n.margin.length = n.links.length) (ht : Vz n.net = 0) (hw : St B w0 H w) :
    Calls Tryz.prog 109 [n.val, .int .i64 i].toArray w (Post B w0 fun v K => v = .int .i64 (UO n.net i) ∧ K = H) := by
  refine Yf Tryz.func109 Tryz.ntmps109 rfl rfl hw ?_
  obtain ⟨hpw, hrw, hlk, hmg, hs1, hs2, hs3, hs4⟩ := hin
  obtain ⟨t1, t2, t3⟩ := YeS ht
  obtain ⟨l, hl⟩ : ∃ l, n.links[i]? = some l := ⟨_, List.getElem?_eq_getElem hi⟩
  obtain ⟨z, hz⟩ : ∃ z, n.margin[i]? = some z := ⟨_, List.getElem?_eq_getElem (by omega)⟩
  have e1 : lnk n.net i = l := JH hl
  have e2 : mar n.net i = z := YcT hz
  have e3 : n.net.nodes = n.nodes := rfl
  have e4 : n.net.power.length = n.rows.length := by simp [NetM.net]
  rw [e4, e3] at t1
  unfold UO
  rw [e1, e2, e3]
  by_cases h1 : 0 ≤ l.1 ∧ l.1 < n.nodes
  rotate_left
  · skip
    repeat' (first | ((first | apply Zz (cs := [_]) | apply Zy (cs := [_])); exact rfl; exact Ygp; exact za; exact rfl; exact fun _ hw => (Wl n _ _ zm hw); all_goals (intro hB; (try simp only [decide_eq_true_eq, decide_eq_false_iff_not] at hB); try (exfalso; omega))) | (apply zg29; (apply Yj; exact za ; exact rfl)) | refine zgd ?_ | (refine zgh ?_; intro _) | fail)
    all_goals (((repeat apply Ys); apply Yg; exact rfl; exact rfl; refine ⟨congrArg _ ?_, rfl⟩); (repeat (first | refine Xh (by omega) ?_ | refine Xi (by omega) ?_)); rfl)
  by_cases h2 : 0 ≤ l.2.1 ∧ l.2.1 < n.nodes
  rotate_left
  · skip
    repeat' (first | ((first | apply Zz (cs := [_]) | apply Zy (cs := [_])); exact rfl; exact Ygp; exact za; exact rfl; exact fun _ hw => (Wl n _ _ zm hw); all_goals (intro hB; (try simp only [decide_eq_true_eq, decide_eq_false_iff_not] at hB); try (exfalso; omega))) | (apply zg29; (apply Yj; exact za ; exact rfl)) | refine zgd ?_ | (refine zgh ?_; intro _) | fail)
    all_goals (((repeat apply Ys); apply Yg; exact rfl; exact rfl; refine ⟨congrArg _ ?_, rfl⟩); (repeat (first | refine Xh (by omega) ?_ | refine Xi (by omega) ?_)); rfl)
  obtain ⟨r, hr⟩ : ∃ r, n.rows[l.1.toNat]? = some r := ⟨_, List.getElem?_eq_getElem (by omega)⟩
  have hrm : r ∈ n.rows := List.mem_of_getElem? hr
  have hrr := hrw r hrm
  have hrs := hs2 r hrm
  have hrl : (r.xs.length : Int) = n.nodes := t2 r.xs (List.mem_map.2 ⟨r, hrm, rfl⟩)
  obtain ⟨p, hp⟩ : ∃ p, r.xs[l.2.1.toNat]? = some p := ⟨_, List.getElem?_eq_getElem (by omega)⟩
  rw [YeC (n := n.net) (r := r.xs) (by simp [NetM.net, hr]) hp]
  by_cases h0 : 0 < i
  · obtain ⟨q, hq⟩ : ∃ q, n.links[((i : Int) - 1).toNat]? = some q := ⟨_, List.getElem?_eq_getElem (by omega)⟩
    rw [show lnk n.net (i - 1) = q from JH (by rw [show i - 1 = ((i : Int) - 1).toNat by omega]; exact hq)]
    repeat' (first | ((first | apply Zz (cs := [_]) | apply Zy (cs := [_])); exact rfl; exact Ygp; exact za; exact rfl; exact fun _ hw => (Wl n _ _ zm hw); all_goals (intro hB; (try simp only [decide_eq_true_eq, decide_eq_false_iff_not] at hB); try (exfalso; omega))) | ((first | apply Ya YbG | apply Yb YbG); exact za; exact rfl; exact fun _ hw => (Z7 q l hw)) | (apply zg29; (apply Yj; exact za ; exact rfl)) | refine zgd ?_ | (refine zgf ?_ ?_ <;> intro _ <;> try (exfalso; omega)) | (refine zgh ?_; intro _) | fail)
    all_goals (((repeat apply Ys); apply Yg; exact rfl; exact rfl; refine ⟨congrArg _ ?_, rfl⟩); (repeat (first | refine Xh (by omega) ?_ | refine Xi (by omega) ?_)); rfl)
  · skip
    repeat' (first | ((first | apply Zz (cs := [_]) | apply Zy (cs := [_])); exact rfl; exact Ygp; exact za; exact rfl; exact fun _ hw => (Wl n _ _ zm hw); all_goals (intro hB; (try simp only [decide_eq_true_eq, decide_eq_false_iff_not] at hB); try (exfalso; omega))) | ((first | apply Ya YbG | apply Yb YbG); exact za; exact rfl; exact fun _ hw => (Z7 _ _ hw)) | (apply zg29; (apply Yj; exact za ; exact rfl)) | refine zgd ?_ | (refine zgf ?_ ?_ <;> intro _ <;> try (exfalso; omega)) | (refine zgh ?_; intro _) | fail)
    all_goals (((repeat apply Ys); apply Yg; exact rfl; exact rfl; refine ⟨congrArg _ ?_, rfl⟩); (repeat (first | refine Xh (by omega) ?_ | refine Xi (by omega) ?_)); rfl)
theorem YT (n : NetM) {B : Nat} {w0 : World} {H : List HP} {w : World} (hin : n.In B w0 H) (hw : St B w0 H w) :
    Calls Tryz.prog 50 [n.val].toArray w (Post B w0 fun v K => v = .int .i64 (YF n.net) ∧ K = H) := by
  refine Yf Tryz.func50 Tryz.ntmps50 rfl rfl hw ?_
  have e3 : n.net.nodes = n.nodes := rfl
  have e5 : n.net.noise = n.noise := rfl
  have e6 : n.net.thr = n.thr := rfl
  have e7 : n.net.links = n.links := rfl
  have e8 : n.net.margin = n.margin := rfl
  have hs1 := hin.s1
  have hs3 := hin.s3
  have hs4 := hin.s4
  unfold YF
  rw [e3, e5, e6, e7, e8]
  (apply Zx; apply XH; apply Xv; exact rfl; exact rfl; intro g)
  repeat' (first | ((first | apply Ya YkR | apply Yb YkR); exact za; exact rfl; exact fun _ hw => (O4 n hin.cons hw)) | refine zgc ?_ | (refine zge ?_ ?_ <;> intro _ <;> try (exfalso; omega)) | fail)
  any_goals (((repeat apply Ys); apply Yg; exact rfl; exact rfl; refine ⟨congrArg _ ?_, rfl⟩); (repeat (first | refine Xh (by omega) ?_ | refine Xi (by omega) ?_)); rfl)
  have ht : Vz n.net = 0 := by assumption
  refine Yn (fun (k : Nat) => [(54, .int .i64 k), (53, .int .i64 n.links.length), (1, .pointer (some ⟨g, 0, none⟩))]) (fun _ => netB g n :: H) (fun k => k ≤ n.links.length ∧ Jq n.net n.links.length 0 = Jq n.net (n.links.length - k) k) (fun k => n.links.length - k) 0 ⟨Nat.zero_le _, rfl⟩ ?_ (fun w hw => hw) ?_
  · exact zu
  rintro k ⟨hk, hi⟩ K hK
  by_cases hlt : k < n.links.length
  · skip
    repeat' (first | ((first | apply Ya YkS | apply Yb YkS); exact za; exact rfl; exact fun _ hw => (QM n k hin.cons hlt (by omega) ht hw)) | refine zgd ?_ | (refine zge ?_ ?_ <;> intro _ <;> try (exfalso; omega)) | fail)
    · ((repeat apply Ys); apply Yg; exact rfl; exact rfl; refine ⟨congrArg _ ?_, rfl⟩)
      (repeat (first | refine Xh (by omega) ?_ | refine Xi (by omega) ?_))
      rw [hi]; exact (Yeo n.net hlt (by assumption)).symm
    · apply hK (k + 1)
      · exact ⟨by omega, by rw [hi]; exact Yen n.net hlt (by assumption)⟩
      · omega
      · exact zu
      · exact fun w hw => hw
  · repeat' (first | refine zgc ?_ | (refine zge ?_ ?_ <;> intro _ <;> try (exfalso; omega)) | fail)
    ((repeat apply Ys); apply Yg; exact rfl; exact rfl; refine ⟨congrArg _ ?_, rfl⟩)
    (repeat (first | refine Xh (by omega) ?_ | refine Xi (by omega) ?_))
    rw [hi, show n.links.length - k = 0 by omega]; rfl
open Go.RowKit Go.Eng Go.Nw
theorem YeO (n : NetM) (t : Lk) {B : Nat} {w0 : World} {H : List HP} {w : World} (hin : n.In B w0 H) (hok : Ok n.net) (hw : St B w0 H w) :
    Calls Tryz.prog 214 [.slice n.lA n.links.length n.lcap, lkV t, .func (.func 166) #[] #[]].toArray w (Post B w0 fun v K => ∃ k : Nat,
      v = .tuple #[.int .i64 k, .bool (decide (k < n.links.length ∧ cmpL (lnk n.net k) t = 0))] ∧ k ≤ n.links.length ∧ (∀ j, j < k → cmpL (lnk n.net j) t < 0) ∧ (∀ j, k ≤ j → j < n.links.length → 0 ≤ cmpL (lnk n.net j) t) ∧ K = H) := by
  refine Yf Tryz.func214 Tryz.ntmps214 rfl rfl hw ?_
  obtain ⟨hpw, hrw, hlk, hmg, hs1, hs2, hs3, hs4⟩ := hin
  have hl8 : n.links.length ≤ 128 := hok.k0
  (apply Zx; apply XH; apply Xv; exact rfl; exact rfl; intro g)
  repeat' (first | refine zgb ?_ | fail)
  refine Ydi (fun (lo hi : Nat) => [(9, .int .i64 lo), (10, .int .i64 hi), (8, .int .i64 n.links.length), (0, .slice n.lA n.links.length n.lcap), (2, .func (.func 166) #[] #[]), (4, .pointer (some ⟨g, 0, none⟩))]) (fun _ _ => blk g (.cells #[.int .i64 t.1, .int .i64 t.2.1, .int .i64 t.2.2] 172 (0, 0)) :: H)
    (fun lo hi => lo ≤ hi ∧ hi ≤ n.links.length ∧ (∀ j, j < lo → cmpL (lnk n.net j) t < 0) ∧ (∀ j, hi ≤ j → j < n.links.length → 0 ≤ cmpL (lnk n.net j) t)) (fun lo hi => hi - lo) 0 n.links.length ⟨by omega, by omega, fun j hj => by omega, fun j h1 h2 => by omega⟩ ?_ (fun w hw => hw) ?_
  · exact zu
  rintro lo hi ⟨h1, h2, h3, h4⟩ K hK
  by_cases hlt : lo < hi
  · obtain ⟨b, hb⟩ : ∃ b, n.links[(((lo : Int) + hi) / 2).toNat]? = some b := ⟨_, List.getElem?_eq_getElem (by omega)⟩
    have hm : (((lo : Int) + hi) / 2).toNat = (lo + hi) / 2 := by omega
    have eb : lnk n.net ((lo + hi) / 2) = b := by rw [← hm]; exact JH hb
    repeat' (first | ((first | apply YD (cs := []) | apply Y2 (cs := [])); exact rfl; exact YbG; exact za; exact rfl; exact fun _ hw => (Z7 b t hw)) | refine zgd ?_ | (refine zge ?_ ?_ <;> intro _ <;> try (exfalso; omega)) | fail)
    · rename_i hc
      apply hK ((lo + hi) / 2 + 1) hi
      · refine ⟨by omega, by omega, fun j hj => ?_, h4⟩
        by_cases e : j = (lo + hi) / 2
        · rw [e, eb]; exact hc
        · have h5 := YaR hok j ((lo + hi) / 2) (by omega) (by show _ < n.links.length; omega)
          rw [eb] at h5
          rw [Jk] at *
          omega
      · omega
      · exact zu
      · exact fun w hw => hw
    · rename_i hc
      apply hK lo ((lo + hi) / 2)
      · refine ⟨by omega, by omega, h3, fun j hj hjl => ?_⟩
        by_cases e : j = (lo + hi) / 2
        · rw [e, eb]; exact hc
        · have h5 := YaR hok ((lo + hi) / 2) j (by omega) hjl
          rw [eb] at h5
          have h6 : ¬ cmpL b t < 0 := by omega
          have h7 : ¬ cmpL (lnk n.net j) t < 0 := by
            rw [Jk] at *
            omega
          omega
      · omega
      · exact zu
      · exact fun w hw => hw
  · obtain rfl : lo = hi := by omega
    by_cases hl : lo < n.links.length
    · obtain ⟨b, hb⟩ : ∃ b, n.links[lo]? = some b := ⟨_, List.getElem?_eq_getElem hl⟩
      have eb : lnk n.net lo = b := JH hb
      repeat' (first | ((first | apply YD (cs := []) | apply Y2 (cs := [])); exact rfl; exact YbG; exact za; exact rfl; exact fun _ hw => (Z7 b t hw)) | refine zgd ?_ | (refine zgf ?_ ?_ <;> intro _ <;> try (exfalso; omega)) | fail)
      all_goals (apply Ys; apply Yt; exact rfl; exact rfl; exact rfl; refine ⟨lo, ?_, h2, h3, h4, rfl⟩; rw [eb])
      · rw [decide_eq_true ⟨hl, by assumption⟩]
      · rw [decide_eq_false fun hc => absurd hc.2 (by assumption)]
    · repeat' (first | refine zgd ?_ | (refine zge ?_ ?_ <;> intro _ <;> try (exfalso; omega)) | fail)
      apply Ys; apply Yt; exact rfl; exact rfl; exact rfl
      refine ⟨lo, ?_, h2, h3, h4, rfl⟩
      rw [decide_eq_false fun hc => hl hc.1]
theorem WU (n : NetM) (a b : Int) {B : Nat} {w0 : World} {H : List HP} {w : World} (hin : n.In B w0 H) (hok : Ok n.net) (hw : St B w0 H w) :
    Calls Tryz.prog 155 [n.val, .int .i64 a, .int .i64 b].toArray w (Post B w0 fun v K => v = .int .i64 (YC n.net a b) ∧ K = H) := by
  refine Yf Tryz.func155 Tryz.ntmps155 rfl rfl hw ?_
  (apply Zx; apply XH; apply Xv; exact rfl; exact rfl; intro g)
  repeat' (first | refine zgd ?_ | fail)
  apply Yr _ Ymn
  exact za
  exact rfl
  exact fun _ hw => (YeO n (a, b, 0) hin.cons hok (hw))
  rintro _ _ ⟨k, rfl, hk, h1, h2, rfl⟩
  have hf := Yea hok hk h1 h2
  rw [hf]
  by_cases hc : k < n.links.length ∧ cmpL (lnk n.net k) (a, b, 0) = 0
  · rw [decide_eq_true hc]
    repeat' (first | refine zgc ?_ | fail)
    ((repeat apply Ys); apply Yg; exact rfl; exact rfl; refine ⟨congrArg _ ?_, rfl⟩)
    exact (if_pos hc).symm
  · rw [decide_eq_false hc]
    repeat' (first | refine zgd ?_ | fail)
    ((repeat apply Ys); apply Yg; exact rfl; exact rfl; refine ⟨congrArg _ ?_, rfl⟩)
    exact (if_neg hc).symm
def Zh (n : Net) (a b : Int) : Int := if YF n ≠ 0 then -1 else YC n a b
theorem XZ (n : NetM) (a b : Int) {B : Nat} {w0 : World} {H : List HP} {w : World} (hin : n.In B w0 H) (hw : St B w0 H w) :
    Calls Tryz.prog 95 [n.val, .int .i64 a, .int .i64 b].toArray w (Post B w0 fun v K => v = .int .i64 (Zh n.net a b) ∧ K = H) := by
  refine Yf Tryz.func95 Tryz.ntmps95 rfl rfl hw ?_
  unfold Zh
  repeat' (first | ((first | apply Ya en50 | apply Yb en50); exact za; exact rfl; exact fun _ hw => (YT n hin.cons hw)) | ((first | apply Ya YbE | apply Yb YbE); exact za; exact rfl; exact fun _ hw => (WU n _ _ hin.cons (Xe (by assumption)) hw)) | refine zgc ?_ | (refine zge ?_ ?_ <;> intro _ <;> try (exfalso; omega)) | (refine zgh ?_; intro _) | fail)
  all_goals (((repeat apply Ys); apply Yg; exact rfl; exact rfl; refine ⟨congrArg _ ?_, rfl⟩); (repeat (first | refine Xh (by omega) ?_ | refine Xi (by omega) ?_)); rfl)
theorem Yaa (n : NetM) (s d : Int) {B : Nat} {w0 : World} {H : List HP} {w : World} (hok : Ok n.net) (hs : 0 ≤ s ∧ s ≤ 8796093022208) (hd : 0 ≤ d ∧ d ≤ 8796093022208) (hw : St B w0 H w) :
    Calls Tryz.prog 171 [n.val, .int .i64 s, .int .i64 d].toArray w (Post B w0 fun v K => v = .bool (ZX n.net s d) ∧ K = H) := by
  refine Yf Tryz.func171 Tryz.ntmps171 rfl rfl hw ?_
  have hb : -9223372036854775808 ≤ n.thr * (n.noise + d) ∧ n.thr * (n.noise + d) ≤ 9223372036854775807 := Yke hok hd.1 hd.2
  have hz0 : 0 ≤ n.noise := hok.z0
  have hz1 : n.noise ≤ 68719476736 := hok.z1
  unfold ZX
  show VC Tryz.prog _ B w0 _ (bodyPost Tryz.prog _ (Post B w0 fun v K => v = .bool (decide (n.thr * (n.noise + d) ≤ s * 1000)) ∧ K = H)) _ _
  repeat' (first | refine zgd ?_ | (refine zgf ?_ ?_ <;> intro _ <;> try (exfalso; omega)) | (refine zgh ?_; intro _) | fail)
  · (repeat apply Ys); apply Yg; exact rfl; exact rfl
    exact ⟨by rw [decide_eq_true (by assumption)], rfl⟩
  · (repeat apply Ys); apply Yg; exact rfl; exact rfl
    exact ⟨by rw [decide_eq_false (by omega)], rfl⟩
def Ua (n : Net) (s d : Int) : Bool := decide (YF n = 0) && (decide (0 ≤ s ∧ 0 ≤ d ∧ s ≤ 8796093022208 ∧ d ≤ 8796093022208) && ZX n s d)
theorem Qq (n : NetM) (s d : Int) {B : Nat} {w0 : World} {H : List HP} {w : World} (hin : n.In B w0 H) (hw : St B w0 H w) :
    Calls Tryz.prog 115 [n.val, .int .i64 s, .int .i64 d].toArray w (Post B w0 fun v K => v = .bool (Ua n.net s d) ∧ K = H) := by
  refine Yf Tryz.func115 Tryz.ntmps115 rfl rfl hw ?_
  unfold Ua
  by_cases h0 : YF n.net = 0
  rotate_left
  · rw [decide_eq_false h0]
    repeat' (first | ((first | apply Ya en50 | apply Yb en50); exact za; exact rfl; exact fun _ hw => (YT n hin.cons hw)) | refine zgc ?_ | (refine zge ?_ ?_ <;> intro _ <;> try (exfalso; omega)) | (refine zgh ?_; intro _) | fail)
    (repeat apply Ys); apply Yg; exact rfl; exact rfl
    exact ⟨rfl, rfl⟩
  rw [decide_eq_true h0]
  by_cases h1 : 0 ≤ s ∧ 0 ≤ d ∧ s ≤ 8796093022208 ∧ d ≤ 8796093022208
  rotate_left
  · rw [decide_eq_false h1]
    repeat' (first | ((first | apply Ya en50 | apply Yb en50); exact za; exact rfl; exact fun _ hw => (YT n hin.cons hw)) | refine zgc ?_ | (refine zgf ?_ ?_ <;> intro _ <;> try (exfalso; omega)) | (refine zgh ?_; intro _) | fail)
    all_goals ((repeat apply Ys); apply Yg; exact rfl; exact rfl; exact ⟨rfl, rfl⟩)
  rw [decide_eq_true h1]
  repeat' (first | ((first | apply Ya en50 | apply Yb en50); exact za; exact rfl; exact fun _ hw => (YT n hin.cons hw)) | ((first | apply Ya Ygr | apply Yb Ygr); exact za; exact rfl; exact fun _ hw => (Yaa n _ _ (Xe h0) (by omega) (by omega) hw)) | refine zgc ?_ | (refine zgf ?_ ?_ <;> intro _ <;> try (exfalso; omega)) | (refine zgh ?_; intro _) | fail)
  all_goals ((repeat apply Ys); apply Yg; exact rfl; exact rfl; exact ⟨rfl, rfl⟩)
theorem YeX (n : NetM) (i : Nat) {B : Nat} {w0 : World} {H : List HP} {w : World} (hin : n.In B w0 H) (hok : Ok n.net) (hi : i < n.links.length) (hw : St B w0 H w) :
    Calls Tryz.prog 169 [n.val, .int .i64 i].toArray w (Post B w0 fun v K => v = .bool (WI n.net i) ∧ K = H) := by
  refine Yf Tryz.func169 Tryz.ntmps169 rfl rfl hw ?_
  obtain ⟨hpw, hrw, hlk, hmg, hs1, hs2, hs3, hs4⟩ := id hin
  have hml : n.margin.length = n.links.length := hok.k1
  obtain ⟨l, hl⟩ : ∃ l, n.links[i]? = some l := ⟨_, List.getElem?_eq_getElem hi⟩
  obtain ⟨z, hz⟩ : ∃ z, n.margin[i]? = some z := ⟨_, List.getElem?_eq_getElem (by omega)⟩
  have e1 : lnk n.net i = l := JH hl
  have e2 : mar n.net i = z := YcT hz
  have hzb := Yi1 hok hi
  unfold WI
  rw [e2] at hzb
  rw [e1, e2]
  by_cases hb : 0 ≤ YC n.net l.2.1 l.1
  · have hlt : (YC n.net l.2.1 l.1).toNat < n.links.length := ZJ hb
    obtain ⟨y, hy⟩ : ∃ y, n.margin[(YC n.net l.2.1 l.1).toNat]? = some y := ⟨_, List.getElem?_eq_getElem (by omega)⟩
    have e3 : mar n.net (YC n.net l.2.1 l.1).toNat = y := YcT hy
    have hyb := Yi1 hok hlt
    rw [e3] at hyb
    rw [e3, decide_eq_true hb]
    repeat' (first | ((first | apply Ya YbE | apply Yb YbE); exact za; exact rfl; exact fun _ hw => (WU n _ _ hin.cons hok hw)) | ((first | apply XJ Ygr | apply XI Ygr); exact za; exact rfl; exact fun _ hw => (Yaa n _ _ hok (by omega) (by omega) hw); all_goals (intro hB; (try simp only [decide_eq_true_eq, decide_eq_false_iff_not] at hB); try (exfalso; omega))) | refine zgd ?_ | (refine zgf ?_ ?_ <;> intro _ <;> try (exfalso; omega)) | (refine zgh ?_; intro _) | fail)
    all_goals ((repeat apply Ys); apply Yg; exact rfl; exact rfl; refine ⟨?_, rfl⟩; simp_all)
  · rw [decide_eq_false hb]
    repeat' (first | ((first | apply Ya YbE | apply Yb YbE); exact za; exact rfl; exact fun _ hw => (WU n _ _ hin.cons hok hw)) | refine zgd ?_ | (refine zgf ?_ ?_ <;> intro _ <;> try (exfalso; omega)) | (refine zgh ?_; intro _) | fail)
    all_goals ((repeat apply Ys); apply Yg; exact rfl; exact rfl; exact ⟨rfl, rfl⟩)
def Uo (n : Net) (i : Int) : Bool := decide (YF n = 0) && (decide (0 ≤ i ∧ i < n.links.length) && WI n i.toNat)
theorem On (n : NetM) (i : Int) {B : Nat} {w0 : World} {H : List HP} {w : World} (hin : n.In B w0 H) (hw : St B w0 H w) :
    Calls Tryz.prog 113 [n.val, .int .i64 i].toArray w (Post B w0 fun v K => v = .bool (Uo n.net i) ∧ K = H) := by
  refine Yf Tryz.func113 Tryz.ntmps113 rfl rfl hw ?_
  have hs3 := hin.s3
  have e7 : n.net.links = n.links := rfl
  unfold Uo
  rw [e7]
  by_cases h0 : YF n.net = 0
  rotate_left
  · rw [decide_eq_false h0]
    repeat' (first | ((first | apply Ya en50 | apply Yb en50); exact za; exact rfl; exact fun _ hw => (YT n hin.cons hw)) | refine zgc ?_ | (refine zgf ?_ ?_ <;> intro _ <;> try (exfalso; omega)) | (refine zgh ?_; intro _) | fail)
    all_goals ((repeat apply Ys); apply Yg; exact rfl; exact rfl; exact ⟨rfl, rfl⟩)
  rw [decide_eq_true h0]
  by_cases h1 : 0 ≤ i ∧ i < n.links.length
  rotate_left
  · rw [decide_eq_false h1]
    repeat' (first | ((first | apply Ya en50 | apply Yb en50); exact za; exact rfl; exact fun _ hw => (YT n hin.cons hw)) | refine zgc ?_ | (refine zgf ?_ ?_ <;> intro _ <;> try (exfalso; omega)) | (refine zgh ?_; intro _) | fail)
    all_goals ((repeat apply Ys); apply Yg; exact rfl; exact rfl; exact ⟨rfl, rfl⟩)
  rw [decide_eq_true h1]
  obtain ⟨k, rfl⟩ : ∃ k : Nat, i = k := ⟨i.toNat, by omega⟩
  repeat' (first | ((first | apply Ya en50 | apply Yb en50); exact za; exact rfl; exact fun _ hw => (YT n hin.cons hw)) | ((first | apply Ya YkZ | apply Yb YkZ); exact za; exact rfl; exact fun _ hw => (YeX n _ hin.cons (Xe h0) (by omega) hw)) | refine zgc ?_ | (refine zgf ?_ ?_ <;> intro _ <;> try (exfalso; omega)) | (refine zgh ?_; intro _) | fail)
  all_goals ((repeat apply Ys); apply Yg; exact rfl; exact rfl; exact ⟨rfl, rfl⟩)
open Go.RowKit Go.Eng Go.Nw
def Xa (n : Net) (a b : Int) : Bool := decide (0 ≤ YC n a b) && (decide (0 ≤ YC n b a) && (ZX n (mar n (YC n a b).toNat) 0 && ZX n (mar n (YC n b a).toNat) 0))
theorem Yhb {n : Net} (h : Ok n) {i : Nat} (hi : i < n.links.length) : YC n (lnk n i).1 (lnk n i).2.1 = i := by
  have h1 : ∀ j, j < i → cmpL (lnk n j) ((lnk n i).1, (lnk n i).2.1, (lnk n i).2.2) < 0 := fun j hj => YaR h j i hj hi
  have h2 : ∀ j, i ≤ j → j < n.links.length → 0 ≤ cmpL (lnk n j) ((lnk n i).1, (lnk n i).2.1, (lnk n i).2.2) := fun j hj hl => by
    by_cases e : i = j
    · subst e
      have : cmpL (lnk n i) ((lnk n i).1, (lnk n i).2.1, (lnk n i).2.2) = 0 := JR.2 ⟨rfl, rfl⟩
      omega
    · have h3 := YaR h i j (by omega) hl
      have h4 : ¬ cmpL (lnk n j) ((lnk n i).1, (lnk n i).2.1, (lnk n i).2.2) < 0 := by
        rw [Jk] at *
        simp only
        omega
      omega
  rw [Yea h (Nat.le_of_lt hi) h1 h2, if_pos ⟨hi, JR.2 ⟨rfl, rfl⟩⟩]
theorem OY {n : Net} (h : Ok n) {i : Nat} (hi : i < n.links.length) : WI n i = Xa n (lnk n i).1 (lnk n i).2.1 := by
  unfold WI Xa
  rw [Yhb h hi]
  simp
open Go.RowKit Go.Eng Go.Nw
def Yz (c : Cel) : Int := c.2.2.1
def toC (c : Cel) : Int := c.2.2.2.1
def Xo (c : Cel) : Int := c.2.2.2.2
def Un (a b : Cel) : Bool := decide (Yz a = Yz b ∨ Yz a = toC b ∨ toC a = Yz b ∨ toC a = toC b)
def VH (n : Net) (l : List Flw) (s : Sch) (i : Nat) : Int :=
  if Zm s (Yp s i) = false then 2
  else if Xa n (Yz (Yp s i)) (toC (Yp s i)) = false ∨ Z2 l (Xo (Yp s i)) < 0 then 7
  else if 0 < i ∧ Z0 (Yp s (i - 1)) (Yp s i) = false then 5 else 0
def Ju (s : Sch) (i : Nat) : Bool := (List.range i).any fun k => decide ((Yp s k).1 = (Yp s i).1) && Un (Yp s i) (Yp s k)
def Xn (c d : Cel) : Bool := decide (d.1 = c.1 ∧ d.2.1 = c.2.1)
def Og (s : Sch) (i : Nat) : List Cel := s.cells.filter (Xn (Yp s i))
def Xf (s : Sch) (i : Nat) : Nat := ((s.cells.take i).filter (Xn (Yp s i))).length
def celL (l : List Cel) (i : Nat) : Cel := l.getD i (0, 0, 0, 0, 0)
def powN (n : Net) (a b : Int) : Int := if insE a n.nodes = true ∧ insE b n.nodes = true then powr n a b else 0
def XY (n : Net) (l : List Cel) (j : Nat) (node : Int) : Nat → Int
  | 0 => 0
  | k + 1 => XY n l j node k + if k = j then 0 else powN n (Yz (celL l k)) node + powN n (toC (celL l k)) node
def Ug (n : Net) (c : Cel) : Bool := !(insE (Yz c) n.nodes) || !(insE (toC c) n.nodes)
def V2 (n : Net) (l : List Cel) (i node : Int) : Int :=
  if YF n ≠ 0 ∨ i < 0 ∨ l.length ≤ i ∨ insE node n.nodes = false ∨ l.any (Ug n) = true then 0 else XY n l i.toNat node l.length
def Jl (n : Net) (s : Sch) (i : Nat) : Bool :=
  !(Ua n (mar n (YC n (Yz (Yp s i)) (toC (Yp s i))).toNat) (V2 n (Og s i) (Xf s i) (toC (Yp s i)))) || !(Ua n (mar n (YC n (toC (Yp s i)) (Yz (Yp s i))).toNat) (V2 n (Og s i) (Xf s i) (Yz (Yp s i))))
def Zq (n : Net) (l : List Flw) (s : Sch) : Int :=
  if YF n ≠ 0 then 1 else if (YR n.nodes l).2 ≠ 0 then 1 else if ZZ s = false then 2
  else if (l.any fun f => decide (s.len.tmod f.2.2.2.1 ≠ 0)) = true then 11 else if 512 < s.cells.length then 8 else 0
def Ji (n : Net) (l : List Flw) (s : Sch) : Int × Int := YG (VH n l s) s.cells.length 0
def VD (s : Sch) : Int × Int := YG (fun i => if Ju s i = true then 6 else 0) s.cells.length 0
def YbB (n : Net) (s : Sch) : Int × Int := YG (fun i => if Jl n s i = true then 16 else 0) s.cells.length 0
def schE (n : Net) (l : List Flw) (s : Sch) : Int × Int :=
  if Zq n l s ≠ 0 then (-1, Zq n l s) else if (Ji n l s).2 ≠ 0 then Ji n l s else if (VD s).2 ≠ 0 then VD s else YbB n s
theorem UZ {n : Net} (h : Ok n) {u v : Int} (hg : Xa n u v = true) : (0 ≤ u ∧ u < n.nodes) ∧ (0 ≤ v ∧ v < n.nodes) ∧ u ≠ v ∧ 0 ≤ YC n u v ∧ 0 ≤ YC n v u := by
  unfold Xa at hg
  simp only [Bool.and_eq_true, decide_eq_true_eq] at hg
  obtain ⟨h1, h2, _⟩ := hg
  obtain ⟨k1, k2⟩ := V8 h1
  have := h.lk _ (ZJ h1)
  have a1 := this.f0; have a2 := this.f1; have a3 := this.t0; have a4 := this.t1; have a5 := this.ne
  rw [k1] at a1 a2 a5
  rw [k2] at a3 a4 a5
  exact ⟨⟨a1, a2⟩, ⟨a3, a4⟩, a5, h1, h2⟩
theorem YjC {n : Net} (h : YF n = 0) (a b : Int) : Uo n (Zh n a b) = Xa n a b := by
  have hok := Xe h
  unfold Uo Zh
  rw [if_neg (by omega), decide_eq_true h, Bool.true_and]
  by_cases h0 : 0 ≤ YC n a b
  · have hl := ZJ h0
    rw [OY hok hl, (V8 h0).1, (V8 h0).2, decide_eq_true (by omega), Bool.true_and]
  · rw [decide_eq_false (by omega), Bool.false_and]
    unfold Xa
    rw [decide_eq_false h0, Bool.false_and]
theorem Yjs {s : Sch} {i : Nat} (h : i < s.cells.length) : (Og s i)[Xf s i]? = some (Yp s i) := by
  have h1 := YH h
  obtain ⟨h2, h3⟩ := List.getElem?_eq_some_iff.1 h1
  have hsp : s.cells = s.cells.take i ++ Yp s i :: s.cells.drop (i + 1) := by
    rw [← h3, List.getElem_cons_drop, List.take_append_drop]
  unfold Og Xf
  have hp : Xn (Yp s i) (Yp s i) = true := by unfold Xn; simp
  have hf : s.cells.filter (Xn (Yp s i)) = (s.cells.take i).filter (Xn (Yp s i)) ++ Yp s i :: (s.cells.drop (i + 1)).filter (Xn (Yp s i)) := by
    conv => lhs; rw [hsp]
    rw [List.filter_append, List.filter_cons, if_pos hp]
  rw [hf, List.getElem?_append_right (Nat.le_refl _), Nat.sub_self]
  rfl
theorem YlD {n : Net} (h : Ok n) {a b : Int} (ha : 0 ≤ a ∧ a < n.nodes) (hb : 0 ≤ b ∧ b < n.nodes) : 0 ≤ powr n a b ∧ powr n a b ≤ 68719476736 := by
  have hp := h.p0
  obtain ⟨r, hr⟩ : ∃ r, n.power[a.toNat]? = some r := ⟨_, List.getElem?_eq_getElem (by omega)⟩
  have hrm := List.mem_of_getElem? hr
  have hl := h.p1 r hrm
  obtain ⟨p, hpe⟩ : ∃ p, r[b.toNat]? = some p := ⟨_, List.getElem?_eq_getElem (by omega)⟩
  have := h.p2 r hrm p (List.mem_of_getElem? hpe)
  have e1 : n.power.getD a.toNat [] = r := by rw [List.getD_eq_getElem?_getD, hr]; rfl
  have e2 : r.getD b.toNat 0 = p := by rw [List.getD_eq_getElem?_getD, hpe]; rfl
  unfold powr
  rw [e1, e2]
  exact this
theorem Vw {n : Net} (h : Ok n) (a b : Int) : 0 ≤ powN n a b ∧ powN n a b ≤ 68719476736 := by
  unfold powN
  split
  · rename_i hc
    unfold insE at hc
    simp only [decide_eq_true_eq] at hc
    exact YlD h hc.1 hc.2
  · omega
theorem Ygj {n : Net} (h : Ok n) (l : List Cel) (j : Nat) (node : Int) : ∀ k : Nat, 0 ≤ XY n l j node k ∧ XY n l j node k ≤ (k : Int) * 137438953472
  | 0 => by simp [XY]
  | k + 1 => by
    have h1 := Ygj h l j node k
    have h2 := Vw h (Yz (celL l k)) node
    have h3 := Vw h (toC (celL l k)) node
    unfold XY
    split <;> omega
open Go.RowKit Go.Eng Go.Nw
def atE (s : Sch) (slot : Int) : List Cel := if Y7 s = false ∨ slot < 0 then [] else s.cells.filter fun c => decide (c.1 = slot.tmod s.len)
def movC (d : Int) (c : Cel) : Cel := (c.1 + d, c.2)
def repC (s : Sch) (k : Nat) : List Cel := (List.range k).flatMap fun i : Nat => s.cells.map (movC ((i : Int) * s.len))
open Go.RowKit Go.Eng Go.Nw
def celF (c : Cel) : List Value := [.int .i64 c.1, .int .i64 c.2.1, .int .i64 c.2.2.1, .int .i64 c.2.2.2.1, .int .i64 c.2.2.2.2]
def celV (c : Cel) : Value := .agg #[.int .i64 c.1, .int .i64 c.2.1, .int .i64 c.2.2.1, .int .i64 c.2.2.2.1, .int .i64 c.2.2.2.2]
structure SchM where
  len : Int
  off : Int
  A : Option Addr
  cap : Nat
  cells : List Cel
def SchM.sch (s : SchM) : Sch := ⟨s.len, s.off, s.cells⟩
def SchM.val (s : SchM) : Value := .agg #[.int .i64 s.len, .int .i64 s.off, .slice s.A s.cells.length s.cap]
theorem Yfo (a b : Cel) : cmpV (nums a) (nums b) < 0 ↔ Z0 a b = true := by
  unfold cmpV Z0
  by_cases h1 : Jp (nums a) (nums b) = true
  · rw [if_pos h1]; simp [h1]
  · rw [if_neg h1]
    split <;> simp [h1]
theorem Ww (c : Cel) {B : Nat} {w0 : World} {H : List HP} {w : World} (hw : St B w0 H w) :
    Calls Tryz.prog 105 [celV c].toArray w (Post B w0 fun v K => v = celV c ∧ K = H) := by
  refine Yf Tryz.func105 Tryz.ntmps105 rfl rfl hw ?_
  repeat' (first | (apply zg7; first | (refine zs15 ?_ ?_ <;> intro _ <;> try (exfalso; omega)) | (refine zs21 ?_ ?_ <;> intro _ _ <;> try (exfalso; omega)) | (refine zs23 ?_ ?_ <;> intro _) | refine zs64 ?_) | (apply zg8; first | (refine zs16 ?_ ?_ <;> intro _ <;> try (exfalso; omega)) | (refine zs22 ?_ ?_ <;> intro _ _ <;> try (exfalso; omega)) | (refine zs24 ?_ ?_ <;> intro _) | refine zs63 ?_) | (apply zg12; first | (refine zs29 ?_; intro _ _)) | (apply zg13; first | refine zs30 ?_ | (refine zs33 ?_; intro _ _)) | (apply zg14; first | refine zs31 ?_ | (refine zs34 ?_; intro _ _)) | (apply zg15; first | refine zs32 ?_ | (refine zs35 ?_; intro _ _)) | (apply zg21; first | (refine zs49 ?_; intro _ _)) | (apply zg23; first | (refine zs52 ?_; intro _) | (refine zs53 ?_; intro _)) | (apply zg24; first | (refine zs54 ?_; intro _)) | (apply zg26; first | (refine zs56 ?_; intro _)) | (apply zg29; first | (apply Yj; exact za ; exact rfl) | (apply Ym; exact za ; exact rfl)) | (apply Yi; (repeat (first | with_reducible exact Yh | (with_reducible apply Yd; (repeat (first | with_reducible exact Ye | with_reducible apply Yc)))))) | apply (zs91 ?_ ?_) | (apply Yo; (repeat (first | with_reducible exact Yh | (with_reducible apply Yd; (repeat (first | with_reducible exact Ye | with_reducible apply Yc)))))) | refine zgd ?_ | (refine zgf ?_ ?_ <;> intro _ <;> try (exfalso; omega)) | fail)
  (apply YdD T (H2 := H); exact rfl; exact rfl; exact zm; exact rfl; exact rfl; exact zk; exact ⟨rfl, rfl⟩)
set_option maxRecDepth 10000 in
set_option maxHeartbeats 2000000 in
theorem YfJ (a b : Cel) {B : Nat} {w0 : World} {H : List HP} {w : World} (hw : St B w0 H w) :
    Calls Tryz.prog 120 [celV a, celV b, .func (.func 105) #[] #[]].toArray w (Post B w0 fun v K => v = .int .i64 (cmpV (nums a) (nums b)) ∧ K = H) := by
  refine Yf Tryz.func120 Tryz.ntmps120 rfl rfl hw ?_
  apply Zx
  iterate 5 (first | (apply zg7; first | (refine zs15 ?_ ?_ <;> intro _ <;> try (exfalso; omega)) | (refine zs21 ?_ ?_ <;> intro _ _ <;> try (exfalso; omega)) | (refine zs23 ?_ ?_ <;> intro _) | refine zs64 ?_) | (apply zg8; first | (refine zs16 ?_ ?_ <;> intro _ <;> try (exfalso; omega)) | (refine zs22 ?_ ?_ <;> intro _ _ <;> try (exfalso; omega)) | (refine zs24 ?_ ?_ <;> intro _) | refine zs63 ?_) | (apply zg12; first | (refine zs29 ?_; intro _ _)) | (apply zg13; first | refine zs30 ?_ | (refine zs33 ?_; intro _ _)) | (apply zg14; first | refine zs31 ?_ | (refine zs34 ?_; intro _ _)) | (apply zg15; first | refine zs32 ?_ | (refine zs35 ?_; intro _ _)) | (apply zg21; first | (refine zs49 ?_; intro _ _)) | (apply zg23; first | (refine zs52 ?_; intro _) | (refine zs53 ?_; intro _)) | (apply zg24; first | (refine zs54 ?_; intro _)) | (apply zg26; first | (refine zs56 ?_; intro _)) | (apply zg29; first | (apply Yj; exact za ; exact rfl) | (apply Ym; exact za ; exact rfl)) | (apply Yi; (repeat (first | with_reducible exact Yh | (with_reducible apply Yd; (repeat (first | with_reducible exact Ye | with_reducible apply Yc)))))) | apply (zs91 ?_ ?_) | (apply Yo; (repeat (first | with_reducible exact Yh | (with_reducible apply Yd; (repeat (first | with_reducible exact Ye | with_reducible apply Yc)))))) | refine zgd ?_ | (refine zgf ?_ ?_ <;> intro _ <;> try (exfalso; omega)) | fail)
  apply Ycz
  apply Zx
  refine Zb (fun (z : Nat × Nat) => [(7, .pointer (some ⟨z.1, 0, none⟩)), (8, .pointer (some ⟨z.2, 0, none⟩))]) (fun z => blk z.1 (.cells (celF a).toArray 183 (0, 0)) :: blk z.2 (.cells (celF b).toArray 183 (0, 0)) :: H) ?_ ?_
  · intro K hK
    apply Wa (.n1 0 (.n1 1 (.n1 3 (.n1 4 (.n3 2 (.n3 5 (.n2 6 (.n1 7 .done) 7 (.n1 6 .done)) 6 (.n2 5 (.n1 7 .done) 7 (.n1 5 .done)) 7 (.n2 5 (.n1 6 .done) 6 (.n1 5 .done))) 6 (.n2 2 (.n2 5 (.n1 7 .done) 7 (.n1 5 .done)) 7 (.n1 2 (.n1 5 .done))) 7 (.n2 2 (.n2 5 (.n1 6 .done) 6 (.n1 5 .done)) 6 (.n1 2 (.n1 5 .done)))))))) [8, 9] [true, true]
    kernel_rfl
    kernel_rfl
    exact zy
    (simp only [Yl, nthO]; rfl)
    repeat' (first | ((first | apply YD (cs := []) | apply Y2 (cs := [])); exact rfl; exact YiK; exact za; exact rfl; exact fun _ hw => (Ww _ hw)) | (apply YkL; (simp only [nthO]; rfl); (simp only [nthO]; rfl); (simp only [nthO]; rfl)) | (apply Yge; (simp only [nthO]; rfl); (simp only [nthO]; rfl)) | (apply Ygd; (simp only [nthO]; rfl)) | (apply Wg; (repeat (first | with_reducible exact Yh | (with_reducible apply Yd; (repeat (first | with_reducible exact Ye | with_reducible apply Yc)))))) | (apply zg7; first | (refine zs15 ?_ ?_ <;> intro _ <;> try (exfalso; omega)) | (refine zs21 ?_ ?_ <;> intro _ _ <;> try (exfalso; omega)) | (refine zs23 ?_ ?_ <;> intro _) | refine zs64 ?_) | (apply zg8; first | (refine zs16 ?_ ?_ <;> intro _ <;> try (exfalso; omega)) | (refine zs22 ?_ ?_ <;> intro _ _ <;> try (exfalso; omega)) | (refine zs24 ?_ ?_ <;> intro _) | refine zs63 ?_) | (apply zg12; first | (refine zs29 ?_; intro _ _)) | (apply zg13; first | refine zs30 ?_ | (refine zs33 ?_; intro _ _)) | (apply zg14; first | refine zs31 ?_ | (refine zs34 ?_; intro _ _)) | (apply zg15; first | refine zs32 ?_ | (refine zs35 ?_; intro _ _)) | (apply zg21; first | (refine zs49 ?_; intro _ _)) | (apply zg23; first | (refine zs52 ?_; intro _) | (refine zs53 ?_; intro _)) | (apply zg24; first | (refine zs54 ?_; intro _)) | (apply zg26; first | (refine zs56 ?_; intro _)) | (apply zg29; first | (apply Yj; exact za ; exact rfl) | (apply Ym; exact za ; exact rfl)) | (apply Yi; (repeat (first | with_reducible exact Yh | (with_reducible apply Yd; (repeat (first | with_reducible exact Ye | with_reducible apply Yc)))))) | apply (zs91 ?_ ?_) | (apply Yo; (repeat (first | with_reducible exact Yh | (with_reducible apply Yd; (repeat (first | with_reducible exact Ye | with_reducible apply Yc)))))) | refine zgd ?_ | (refine zgf ?_ ?_ <;> intro _ <;> try (exfalso; omega)) | fail)
    all_goals (
      rename_i ga gb
      first
        | (refine hK (ga, gb) _ _ zu ?_; dsimp only [celF]; exact zk; done)
        | (refine hK (gb, ga) _ _ zu ?_; dsimp only [celF]; exact zk; done))
  rintro ⟨g1, g2⟩
  dsimp only
  have hA : Rd B w0 (blk g1 (.cells (celF a).toArray 183 (0, 0)) :: blk g2 (.cells (celF b).toArray 183 (0, 0)) :: H) (some ⟨g1, 0, none⟩) ((nums a).flatMap numF) := Rd.blk (cs := (celF a).toArray) (.head _)
  have hB : Rd B w0 (blk g1 (.cells (celF a).toArray 183 (0, 0)) :: blk g2 (.cells (celF b).toArray 183 (0, 0)) :: H) (some ⟨g2, 0, none⟩) ((nums b).flatMap numF) := Rd.blk (cs := (celF b).toArray) (.tail _ (.head _))
  repeat' (first | (apply Wd T (e := 3); exact rfl; exact rfl; exact rfl) | ((first | apply Ya Yk2 | apply Yb Yk2); exact za; exact rfl; exact fun _ hw => (Ybc (nums a) (nums b) (by simp [nums]) (by simp [nums]) hA hB hw)) | (apply zg7; first | (refine zs15 ?_ ?_ <;> intro _ <;> try (exfalso; omega)) | (refine zs21 ?_ ?_ <;> intro _ _ <;> try (exfalso; omega)) | (refine zs23 ?_ ?_ <;> intro _) | refine zs64 ?_) | (apply zg8; first | (refine zs16 ?_ ?_ <;> intro _ <;> try (exfalso; omega)) | (refine zs22 ?_ ?_ <;> intro _ _ <;> try (exfalso; omega)) | (refine zs24 ?_ ?_ <;> intro _) | refine zs63 ?_) | (apply zg12; first | (refine zs29 ?_; intro _ _)) | (apply zg13; first | refine zs30 ?_ | (refine zs33 ?_; intro _ _)) | (apply zg14; first | refine zs31 ?_ | (refine zs34 ?_; intro _ _)) | (apply zg15; first | refine zs32 ?_ | (refine zs35 ?_; intro _ _)) | (apply zg21; first | (refine zs49 ?_; intro _ _)) | (apply zg23; first | (refine zs52 ?_; intro _) | (refine zs53 ?_; intro _)) | (apply zg24; first | (refine zs54 ?_; intro _)) | (apply zg26; first | (refine zs56 ?_; intro _)) | (apply zg29; first | (apply Yj; exact za ; exact rfl) | (apply Ym; exact za ; exact rfl)) | (apply Yi; (repeat (first | with_reducible exact Yh | (with_reducible apply Yd; (repeat (first | with_reducible exact Ye | with_reducible apply Yc)))))) | apply (zs91 ?_ ?_) | (apply Yo; (repeat (first | with_reducible exact Yh | (with_reducible apply Yd; (repeat (first | with_reducible exact Ye | with_reducible apply Yc)))))) | refine zgd ?_ | (refine zgf ?_ ?_ <;> intro _ <;> try (exfalso; omega)) | fail)
  apply Yk H
  · exact zk
  apply Yg; exact rfl; exact rfl
  exact ⟨rfl, rfl⟩
theorem UI (a b : Cel) {B : Nat} {w0 : World} {H : List HP} {w : World} (hw : St B w0 H w) :
    Calls Tryz.prog 62 [celV a, celV b].toArray w (Post B w0 fun v K => v = .int .i64 (cmpV (nums a) (nums b)) ∧ K = H) := by
  refine Yf Tryz.func62 Tryz.ntmps62 rfl rfl hw ?_
  repeat' (first | ((first | apply Ya YkT | apply Yb YkT); exact za; exact rfl; exact fun _ hw => (YfJ a b hw)) | (apply zg7; first | (refine zs15 ?_ ?_ <;> intro _ <;> try (exfalso; omega)) | (refine zs21 ?_ ?_ <;> intro _ _ <;> try (exfalso; omega)) | (refine zs23 ?_ ?_ <;> intro _) | refine zs64 ?_) | (apply zg8; first | (refine zs16 ?_ ?_ <;> intro _ <;> try (exfalso; omega)) | (refine zs22 ?_ ?_ <;> intro _ _ <;> try (exfalso; omega)) | (refine zs24 ?_ ?_ <;> intro _) | refine zs63 ?_) | (apply zg12; first | (refine zs29 ?_; intro _ _)) | (apply zg13; first | refine zs30 ?_ | (refine zs33 ?_; intro _ _)) | (apply zg14; first | refine zs31 ?_ | (refine zs34 ?_; intro _ _)) | (apply zg15; first | refine zs32 ?_ | (refine zs35 ?_; intro _ _)) | (apply zg21; first | (refine zs49 ?_; intro _ _)) | (apply zg23; first | (refine zs52 ?_; intro _) | (refine zs53 ?_; intro _)) | (apply zg24; first | (refine zs54 ?_; intro _)) | (apply zg26; first | (refine zs56 ?_; intro _)) | (apply zg29; first | (apply Yj; exact za ; exact rfl) | (apply Ym; exact za ; exact rfl)) | (apply Yi; (repeat (first | with_reducible exact Yh | (with_reducible apply Yd; (repeat (first | with_reducible exact Ye | with_reducible apply Yc)))))) | apply (zs91 ?_ ?_) | (apply Yo; (repeat (first | with_reducible exact Yh | (with_reducible apply Yd; (repeat (first | with_reducible exact Ye | with_reducible apply Yc)))))) | refine zgd ?_ | (refine zgf ?_ ?_ <;> intro _ <;> try (exfalso; omega)) | fail)
  apply Yk H
  · exact zk
  apply Yg; exact rfl; exact rfl
  exact ⟨rfl, rfl⟩
theorem OE (x n : Int) {B : Nat} {w0 : World} {H : List HP} {w : World} (hw : St B w0 H w) :
    Calls Tryz.prog 168 [.int .i64 x, .int .i64 n].toArray w (Post B w0 fun v K => v = .bool (insE x n) ∧ K = H) := by
  refine Yf Tryz.func168 Tryz.ntmps168 rfl rfl hw ?_
  repeat' (first | (apply zg7; first | (refine zs15 ?_ ?_ <;> intro _ <;> try (exfalso; omega)) | (refine zs21 ?_ ?_ <;> intro _ _ <;> try (exfalso; omega)) | (refine zs23 ?_ ?_ <;> intro _) | refine zs64 ?_) | (apply zg8; first | (refine zs16 ?_ ?_ <;> intro _ <;> try (exfalso; omega)) | (refine zs22 ?_ ?_ <;> intro _ _ <;> try (exfalso; omega)) | (refine zs24 ?_ ?_ <;> intro _) | refine zs63 ?_) | (apply zg12; first | (refine zs29 ?_; intro _ _)) | (apply zg13; first | refine zs30 ?_ | (refine zs33 ?_; intro _ _)) | (apply zg14; first | refine zs31 ?_ | (refine zs34 ?_; intro _ _)) | (apply zg15; first | refine zs32 ?_ | (refine zs35 ?_; intro _ _)) | (apply zg21; first | (refine zs49 ?_; intro _ _)) | (apply zg23; first | (refine zs52 ?_; intro _) | (refine zs53 ?_; intro _)) | (apply zg24; first | (refine zs54 ?_; intro _)) | (apply zg26; first | (refine zs56 ?_; intro _)) | (apply zg29; first | (apply Yj; exact za ; exact rfl) | (apply Ym; exact za ; exact rfl)) | (apply Yi; (repeat (first | with_reducible exact Yh | (with_reducible apply Yd; (repeat (first | with_reducible exact Ye | with_reducible apply Yc)))))) | apply (zs91 ?_ ?_) | (apply Yo; (repeat (first | with_reducible exact Yh | (with_reducible apply Yd; (repeat (first | with_reducible exact Ye | with_reducible apply Yc)))))) | refine zgd ?_ | (refine zgf ?_ ?_ <;> intro _ <;> try (exfalso; omega)) | fail)
  all_goals (
    apply Yg; exact rfl; exact rfl
    first
      | exact ⟨by rw [show insE x n = true from decide_eq_true (by omega)], rfl⟩
      | exact ⟨by rw [show insE x n = false from decide_eq_false (by omega)], rfl⟩)
theorem OL (s : SchM) (c : Cel) {B : Nat} {w0 : World} {H : List HP} {w : World} (hw : St B w0 H w) :
    Calls Tryz.prog 112 [s.val, celV c].toArray w (Post B w0 fun v K => v = .bool (Zm s.sch c) ∧ K = H) := by
  refine Yf Tryz.func112 Tryz.ntmps112 rfl rfl hw ?_
  repeat' (first | ((first | apply XJ Ygq | apply XI Ygq); exact za; exact rfl; exact fun _ hw => (OE _ _ hw); all_goals (intro hB; (try simp only [decide_eq_true_eq, decide_eq_false_iff_not] at hB); try (exfalso; omega))) | (apply zg7; first | (refine zs15 ?_ ?_ <;> intro _ <;> try (exfalso; omega)) | (refine zs21 ?_ ?_ <;> intro _ _ <;> try (exfalso; omega)) | (refine zs23 ?_ ?_ <;> intro _) | refine zs64 ?_) | (apply zg8; first | (refine zs16 ?_ ?_ <;> intro _ <;> try (exfalso; omega)) | (refine zs22 ?_ ?_ <;> intro _ _ <;> try (exfalso; omega)) | (refine zs24 ?_ ?_ <;> intro _) | refine zs63 ?_) | (apply zg12; first | (refine zs29 ?_; intro _ _)) | (apply zg13; first | refine zs30 ?_ | (refine zs33 ?_; intro _ _)) | (apply zg14; first | refine zs31 ?_ | (refine zs34 ?_; intro _ _)) | (apply zg15; first | refine zs32 ?_ | (refine zs35 ?_; intro _ _)) | (apply zg21; first | (refine zs49 ?_; intro _ _)) | (apply zg23; first | (refine zs52 ?_; intro _) | (refine zs53 ?_; intro _)) | (apply zg24; first | (refine zs54 ?_; intro _)) | (apply zg26; first | (refine zs56 ?_; intro _)) | (apply zg29; first | (apply Yj; exact za ; exact rfl) | (apply Ym; exact za ; exact rfl)) | (apply Yi; (repeat (first | with_reducible exact Yh | (with_reducible apply Yd; (repeat (first | with_reducible exact Ye | with_reducible apply Yc)))))) | apply (zs91 ?_ ?_) | (apply Yo; (repeat (first | with_reducible exact Yh | (with_reducible apply Yd; (repeat (first | with_reducible exact Ye | with_reducible apply Yc)))))) | refine zgd ?_ | (refine zgf ?_ ?_ <;> intro _ <;> try (exfalso; omega)) | fail)
  all_goals (
    apply Yk H
    · exact zk
    apply Yg; exact rfl; exact rfl
    exact ⟨by simp [Zm, SchM.sch, *], rfl⟩)
theorem OC (s : SchM) (c : Cel) {B : Nat} {w0 : World} {H : List HP} {w : World} (hw : St B w0 H w) :
    Calls Tryz.prog 117 [s.val, celV c].toArray w (Post B w0 fun v K => v = .bool (JF s.sch c) ∧ K = H) := by
  refine Yf Tryz.func117 Tryz.ntmps117 rfl rfl hw ?_
  repeat' (first | ((first | apply XJ JB | apply XI JB); exact za; exact rfl; exact fun _ hw => (OL s c hw); all_goals (intro hB; (try simp only [decide_eq_true_eq, decide_eq_false_iff_not] at hB); try (exfalso; omega))) | ((first | apply XJ Ygq | apply XI Ygq); exact za; exact rfl; exact fun _ hw => (OE _ _ hw); all_goals (intro hB; (try simp only [decide_eq_true_eq, decide_eq_false_iff_not] at hB); try (exfalso; omega))) | (apply zg7; first | (refine zs15 ?_ ?_ <;> intro _ <;> try (exfalso; omega)) | (refine zs21 ?_ ?_ <;> intro _ _ <;> try (exfalso; omega)) | (refine zs23 ?_ ?_ <;> intro _) | refine zs64 ?_) | (apply zg8; first | (refine zs16 ?_ ?_ <;> intro _ <;> try (exfalso; omega)) | (refine zs22 ?_ ?_ <;> intro _ _ <;> try (exfalso; omega)) | (refine zs24 ?_ ?_ <;> intro _) | refine zs63 ?_) | (apply zg12; first | (refine zs29 ?_; intro _ _)) | (apply zg13; first | refine zs30 ?_ | (refine zs33 ?_; intro _ _)) | (apply zg14; first | refine zs31 ?_ | (refine zs34 ?_; intro _ _)) | (apply zg15; first | refine zs32 ?_ | (refine zs35 ?_; intro _ _)) | (apply zg21; first | (refine zs49 ?_; intro _ _)) | (apply zg23; first | (refine zs52 ?_; intro _) | (refine zs53 ?_; intro _)) | (apply zg24; first | (refine zs54 ?_; intro _)) | (apply zg26; first | (refine zs56 ?_; intro _)) | (apply zg29; first | (apply Yj; exact za ; exact rfl) | (apply Ym; exact za ; exact rfl)) | (apply Yi; (repeat (first | with_reducible exact Yh | (with_reducible apply Yd; (repeat (first | with_reducible exact Ye | with_reducible apply Yc)))))) | apply (zs91 ?_ ?_) | (apply Yo; (repeat (first | with_reducible exact Yh | (with_reducible apply Yd; (repeat (first | with_reducible exact Ye | with_reducible apply Yc)))))) | refine zgd ?_ | (refine zgf ?_ ?_ <;> intro _ <;> try (exfalso; omega)) | fail)
  all_goals (
    apply Yk H
    · exact zk
    apply Yg; exact rfl; exact rfl
    exact ⟨by simp [JF, *], rfl⟩)
theorem YaO (s : SchM) {B : Nat} {w0 : World} {H : List HP} {w : World} (hw : St B w0 H w) :
    Calls Tryz.prog 52 [s.val].toArray w (Post B w0 fun v K => v = .bool (ZZ s.sch) ∧ K = H) := by
  refine Yf Tryz.func52 Tryz.ntmps52 rfl rfl hw ?_
  have e1 : s.sch.len = s.len := rfl
  have e2 : s.sch.off = s.off := rfl
  repeat' (first | (apply zg7; first | (refine zs15 ?_ ?_ <;> intro _ <;> try (exfalso; omega)) | (refine zs21 ?_ ?_ <;> intro _ _ <;> try (exfalso; omega)) | (refine zs23 ?_ ?_ <;> intro _) | refine zs64 ?_) | (apply zg8; first | (refine zs16 ?_ ?_ <;> intro _ <;> try (exfalso; omega)) | (refine zs22 ?_ ?_ <;> intro _ _ <;> try (exfalso; omega)) | (refine zs24 ?_ ?_ <;> intro _) | refine zs63 ?_) | (apply zg12; first | (refine zs29 ?_; intro _ _)) | (apply zg13; first | refine zs30 ?_ | (refine zs33 ?_; intro _ _)) | (apply zg14; first | refine zs31 ?_ | (refine zs34 ?_; intro _ _)) | (apply zg15; first | refine zs32 ?_ | (refine zs35 ?_; intro _ _)) | (apply zg21; first | (refine zs49 ?_; intro _ _)) | (apply zg23; first | (refine zs52 ?_; intro _) | (refine zs53 ?_; intro _)) | (apply zg24; first | (refine zs54 ?_; intro _)) | (apply zg26; first | (refine zs56 ?_; intro _)) | (apply zg29; first | (apply Yj; exact za ; exact rfl) | (apply Ym; exact za ; exact rfl)) | (apply Yi; (repeat (first | with_reducible exact Yh | (with_reducible apply Yd; (repeat (first | with_reducible exact Ye | with_reducible apply Yc)))))) | apply (zs91 ?_ ?_) | (apply Yo; (repeat (first | with_reducible exact Yh | (with_reducible apply Yd; (repeat (first | with_reducible exact Ye | with_reducible apply Yc)))))) | refine zgd ?_ | (refine zgf ?_ ?_ <;> intro _ <;> try (exfalso; omega)) | fail)
  all_goals (
    apply Yk H
    · exact zk
    apply Yg; exact rfl; exact rfl
    first
      | exact ⟨by rw [show ZZ s.sch = true from decide_eq_true (by omega)], rfl⟩
      | exact ⟨by rw [show ZZ s.sch = false from decide_eq_false (by omega)], rfl⟩)
open Go.RowKit Go.Eng Go.Nw
theorem YiE {s : Sch} {i : Nat} (hi : i < s.cells.length) (h : Jh s i = false) : Y7 s = false := by
  unfold Y7
  rw [YcC hi h, Bool.and_false]
set_option maxRecDepth 10000 in
set_option maxHeartbeats 1000000 in
theorem JW (s : SchM) {B : Nat} {w0 : World} {H : List HP} {w : World} (hr : Rd B w0 H s.A (s.cells.flatMap celF)) (hl : s.cells.length ≤ 1000000000000) (hw : St B w0 H w) :
    Calls Tryz.prog 58 [s.val].toArray w (Post B w0 fun v K => v = .bool (Y7 s.sch) ∧ K = H) := by
  refine Yf Tryz.func58 Tryz.ntmps58 rfl rfl hw ?_
  have e1 : s.sch.cells = s.cells := rfl
  repeat' (first | ((first | apply XJ en52 | apply XI en52); exact za; exact rfl; exact fun _ hw => (YaO s hw); all_goals (intro hB; (try simp only [decide_eq_true_eq, decide_eq_false_iff_not] at hB); try (exfalso; omega))) | (apply zg7; first | (refine zs15 ?_ ?_ <;> intro _ <;> try (exfalso; omega)) | (refine zs21 ?_ ?_ <;> intro _ _ <;> try (exfalso; omega)) | (refine zs23 ?_ ?_ <;> intro _) | refine zs64 ?_) | (apply zg8; first | (refine zs16 ?_ ?_ <;> intro _ <;> try (exfalso; omega)) | (refine zs22 ?_ ?_ <;> intro _ _ <;> try (exfalso; omega)) | (refine zs24 ?_ ?_ <;> intro _) | refine zs63 ?_) | (apply zg12; first | (refine zs29 ?_; intro _ _)) | (apply zg13; first | refine zs30 ?_ | (refine zs33 ?_; intro _ _)) | (apply zg14; first | refine zs31 ?_ | (refine zs34 ?_; intro _ _)) | (apply zg15; first | refine zs32 ?_ | (refine zs35 ?_; intro _ _)) | (apply zg21; first | (refine zs49 ?_; intro _ _)) | (apply zg23; first | (refine zs52 ?_; intro _) | (refine zs53 ?_; intro _)) | (apply zg24; first | (refine zs54 ?_; intro _)) | (apply zg26; first | (refine zs56 ?_; intro _)) | (apply zg29; first | (apply Yj; exact za ; exact rfl) | (apply Ym; exact za ; exact rfl)) | (apply Yi; (repeat (first | with_reducible exact Yh | (with_reducible apply Yd; (repeat (first | with_reducible exact Ye | with_reducible apply Yc)))))) | apply (zs91 ?_ ?_) | (apply Yo; (repeat (first | with_reducible exact Yh | (with_reducible apply Yd; (repeat (first | with_reducible exact Ye | with_reducible apply Yc)))))) | refine zgd ?_ | (refine zgf ?_ ?_ <;> intro _ <;> try (exfalso; omega)) | fail)
  · apply Yk H
    · exact zk
    apply Yg; exact rfl; exact rfl
    exact ⟨by rw [show Y7 s.sch = false by unfold Y7; rw [e1, decide_eq_false (by omega), Bool.and_false, Bool.false_and]], rfl⟩
  rotate_left
  · apply Yk H
    · exact zk
    apply Yg; exact rfl; exact rfl
    exact ⟨by simp [Y7, *], rfl⟩
  rename_i g _
  refine Yn (fun (i : Nat) => [(17, .int .i64 i), (16, .int .i64 s.cells.length), (15, .slice s.A s.cells.length s.cap), (1, .pointer (some ⟨g, 0, none⟩))]) (fun _ => blk g (.cells #[.int .i64 s.len, .int .i64 s.off, .slice s.A s.cells.length s.cap] 30 (0, 0)) :: H) (fun i => i ≤ s.cells.length ∧ (List.range i).all (Jh s.sch) = true) (fun i => s.cells.length - i) 0 ⟨Nat.zero_le _, rfl⟩ ?_ (fun w hw => hw) ?_
  · exact zu
  rintro i ⟨hi, hall⟩ K hK
  have hr := hr.cons (X := blk g (.cells #[.int .i64 s.len, .int .i64 s.off, .slice s.A s.cells.length s.cap] 30 (0, 0)))
  by_cases hlt : i < s.cells.length
  · have hget : s.cells[i]? = some (Yp s.sch i) := YH (s := s.sch) hlt
    have hgo : Jh s.sch i = false → Y7 s.sch = false := YiE (s := s.sch) hlt
    have hst : Jh s.sch i = true → (List.range (i + 1)).all (Jh s.sch) = true := fun h => by rw [QE, hall, h]; rfl
    rcases Nat.eq_zero_or_pos i with h0 | h0
    · subst h0
      repeat' (first | ((first | apply XJ Ygm | apply XI Ygm); exact za; exact rfl; exact fun _ hw => (OC s _ hw); all_goals (intro hB; (try simp only [decide_eq_true_eq, decide_eq_false_iff_not] at hB); try (exfalso; omega))) | (apply zg7; first | (refine zs15 ?_ ?_ <;> intro _ <;> try (exfalso; omega)) | (refine zs21 ?_ ?_ <;> intro _ _ <;> try (exfalso; omega)) | (refine zs23 ?_ ?_ <;> intro _) | refine zs64 ?_) | (apply zg8; first | (refine zs16 ?_ ?_ <;> intro _ <;> try (exfalso; omega)) | (refine zs22 ?_ ?_ <;> intro _ _ <;> try (exfalso; omega)) | (refine zs24 ?_ ?_ <;> intro _) | refine zs63 ?_) | (apply zg12; first | (refine zs29 ?_; intro _ _)) | (apply zg13; first | refine zs30 ?_ | (refine zs33 ?_; intro _ _)) | (apply zg14; first | refine zs31 ?_ | (refine zs34 ?_; intro _ _)) | (apply zg15; first | refine zs32 ?_ | (refine zs35 ?_; intro _ _)) | (apply zg21; first | (refine zs49 ?_; intro _ _)) | (apply zg23; first | (refine zs52 ?_; intro _) | (refine zs53 ?_; intro _)) | (apply zg24; first | (refine zs54 ?_; intro _)) | (apply zg26; first | (refine zs56 ?_; intro _)) | (apply zg29; first | (apply Yj; exact za ; exact rfl) | (apply Ym; exact za ; exact rfl)) | (apply Yi; (repeat (first | with_reducible exact Yh | (with_reducible apply Yd; (repeat (first | with_reducible exact Ye | with_reducible apply Yc)))))) | apply (zs91 ?_ ?_) | (apply Yo; (repeat (first | with_reducible exact Yh | (with_reducible apply Yd; (repeat (first | with_reducible exact Ye | with_reducible apply Yc)))))) | refine zgd ?_ | (refine zgf ?_ ?_ <;> intro _ <;> try (exfalso; omega)) | fail)
      · apply hK (0 + 1)
        · exact ⟨by omega, hst (by simp [Jh, *])⟩
        · omega
        · exact zu
        · exact zk
      · apply Yk H
        · exact zk
        apply Yg; exact rfl; exact rfl
        exact ⟨by rw [hgo (by simp [Jh, *])], rfl⟩
    · have hget2 : s.cells[((i : Int) - 1).toNat]? = some (Yp s.sch (i - 1)) := by
        rw [show ((i : Int) - 1).toNat = i - 1 by omega]
        exact YH (s := s.sch) (show i - 1 < s.cells.length by omega)
      repeat' (first | ((first | apply XJ Ygm | apply XI Ygm); exact za; exact rfl; exact fun _ hw => (OC s _ hw); all_goals (intro hB; (try simp only [decide_eq_true_eq, decide_eq_false_iff_not] at hB); try (exfalso; omega))) | ((first | apply Ya en62 | apply Yb en62); exact za; exact rfl; exact fun _ hw => (UI _ _ hw)) | (apply zg7; first | (refine zs15 ?_ ?_ <;> intro _ <;> try (exfalso; omega)) | (refine zs21 ?_ ?_ <;> intro _ _ <;> try (exfalso; omega)) | (refine zs23 ?_ ?_ <;> intro _) | refine zs64 ?_) | (apply zg8; first | (refine zs16 ?_ ?_ <;> intro _ <;> try (exfalso; omega)) | (refine zs22 ?_ ?_ <;> intro _ _ <;> try (exfalso; omega)) | (refine zs24 ?_ ?_ <;> intro _) | refine zs63 ?_) | (apply zg12; first | (refine zs29 ?_; intro _ _)) | (apply zg13; first | refine zs30 ?_ | (refine zs33 ?_; intro _ _)) | (apply zg14; first | refine zs31 ?_ | (refine zs34 ?_; intro _ _)) | (apply zg15; first | refine zs32 ?_ | (refine zs35 ?_; intro _ _)) | (apply zg21; first | (refine zs49 ?_; intro _ _)) | (apply zg23; first | (refine zs52 ?_; intro _) | (refine zs53 ?_; intro _)) | (apply zg24; first | (refine zs54 ?_; intro _)) | (apply zg26; first | (refine zs56 ?_; intro _)) | (apply zg29; first | (apply Yj; exact za ; exact rfl) | (apply Ym; exact za ; exact rfl)) | (apply Yi; (repeat (first | with_reducible exact Yh | (with_reducible apply Yd; (repeat (first | with_reducible exact Ye | with_reducible apply Yc)))))) | apply (zs91 ?_ ?_) | (apply Yo; (repeat (first | with_reducible exact Yh | (with_reducible apply Yd; (repeat (first | with_reducible exact Ye | with_reducible apply Yc)))))) | refine zgd ?_ | (refine zgf ?_ ?_ <;> intro _ <;> try (exfalso; omega)) | fail)
      all_goals first
        | (apply hK (i + 1)
           · refine ⟨by omega, hst ?_⟩
             have hc : cmpV (nums (Yp s.sch (i - 1))) (nums (Yp s.sch i)) < 0 := by omega
             simp [Jh, (Yfo _ _).1 hc, *]
           · omega
           · exact zu
           · exact zk
           done)
        | (apply Yk H
           · exact zk
           apply Yg; exact rfl; exact rfl
           refine ⟨?_, rfl⟩
           rw [hgo]
           first
             | (simp [Jh, *]; done)
             | (have hc : ¬ cmpV (nums (Yp s.sch (i - 1))) (nums (Yp s.sch i)) < 0 := by omega
                have hd : Z0 (Yp s.sch (i - 1)) (Yp s.sch i) = false := by
                  rw [Yfo] at hc
                  simpa using hc
                simp [Jh, hd]
                omega))
  · repeat' (first | (apply zg7; first | (refine zs15 ?_ ?_ <;> intro _ <;> try (exfalso; omega)) | (refine zs21 ?_ ?_ <;> intro _ _ <;> try (exfalso; omega)) | (refine zs23 ?_ ?_ <;> intro _) | refine zs64 ?_) | (apply zg8; first | (refine zs16 ?_ ?_ <;> intro _ <;> try (exfalso; omega)) | (refine zs22 ?_ ?_ <;> intro _ _ <;> try (exfalso; omega)) | (refine zs24 ?_ ?_ <;> intro _) | refine zs63 ?_) | (apply zg12; first | (refine zs29 ?_; intro _ _)) | (apply zg13; first | refine zs30 ?_ | (refine zs33 ?_; intro _ _)) | (apply zg14; first | refine zs31 ?_ | (refine zs34 ?_; intro _ _)) | (apply zg15; first | refine zs32 ?_ | (refine zs35 ?_; intro _ _)) | (apply zg21; first | (refine zs49 ?_; intro _ _)) | (apply zg23; first | (refine zs52 ?_; intro _) | (refine zs53 ?_; intro _)) | (apply zg24; first | (refine zs54 ?_; intro _)) | (apply zg26; first | (refine zs56 ?_; intro _)) | (apply zg29; first | (apply Yj; exact za ; exact rfl) | (apply Ym; exact za ; exact rfl)) | (apply Yi; (repeat (first | with_reducible exact Yh | (with_reducible apply Yd; (repeat (first | with_reducible exact Ye | with_reducible apply Yc)))))) | apply (zs91 ?_ ?_) | (apply Yo; (repeat (first | with_reducible exact Yh | (with_reducible apply Yd; (repeat (first | with_reducible exact Ye | with_reducible apply Yc)))))) | refine zgd ?_ | (refine zgf ?_ ?_ <;> intro _ <;> try (exfalso; omega)) | fail)
    apply Yk H
    · exact zk
    apply Yg; exact rfl; exact rfl
    refine ⟨?_, rfl⟩
    rw [show i = s.cells.length by omega] at hall
    rw [show Y7 s.sch = true by unfold Y7; rw [e1, hall, decide_eq_true (by omega)]; simp [*]]
end Go.Proofs.YtmalhidldgfeoaaGreatDoor
namespace Go.Eng
open Go.RowKit
theorem YjI {P : Program} {n : Shp} {B : Nat} {w0 : World} {Q : Exit → Act → World → Prop} {env : Env} {H : List HP} {c : Code} {e size k cap : Nat} {A : Option Addr} {xs : List Value} (hm : sl e size A k cap xs ∈ H) (h : k ≤ cap → VC P n B w0 c Q env H) : VC P n B w0 c Q env H := by
  refine ⟨fun a w ha hw => ?_⟩
  have hown := hw.sl hm
  have hkc : k ≤ cap := by
    rcases hown.2 with ⟨e1, e2⟩ | ⟨g, c, cur, e1, _, _, e4, _⟩
    · omega
    · injection e1 with _ _ e3; omega
  exact (h hkc).run a w ha hw
end Go.Eng
namespace Go.Proofs.YtmalhidldgfeoaaGreatDoor
open Go.RowKit Go.Eng Go.Nw
theorem YaU (A : Option Addr) (cap size : Nat) : subA A 0 cap size = A := by
  unfold subA
  split
  · rfl
  · cases A with
    | none => rfl
    | some a => simp [Addr.add]
def cels (A : Option Addr) (cap : Nat) (l : List Cel) : HP := sl 40 5 A l.length cap (l.flatMap celF)
theorem Yg5 (A : Option Addr) (cap : Nat) (l : List Cel) (c : Cel) : sl 40 5 A (l.length + 1) cap (l.flatMap celF ++ celF c) = cels A cap (l ++ [c]) := by
  unfold cels; simp
theorem UV (A : Option Addr) (cap : Nat) (l : List Cel) (c : Cel) : sl 40 5 A (l.length + 1) cap (l.flatMap celF ++ #[Value.int .i64 c.1, .int .i64 c.2.1, .int .i64 c.2.2.1, .int .i64 c.2.2.2.1, .int .i64 c.2.2.2.2].toList) = cels A cap (l ++ [c]) := Yg5 A cap l c
theorem Yam (l : List Cel) (c : Cel) : l.length + 1 = (l ++ [c]).length := by simp
theorem Rd.cels {B : Nat} {w0 : World} {H : List HP} {A : Option Addr} {cap : Nat} {l : List Cel} (h : cels A cap l ∈ H) : Rd B w0 H A (l.flatMap celF) := .sl h
section
variable {m : Eng.Mode} {n : Shp} {B d : Nat} {w0 : World} {ops : Array Oper} {Q : Exit → Act → World → Prop} {rest : List Oper} {env : Env} {H : List HP} {ty : TypeId} {pos : String} {after : Array Edge}
end
open Go.RowKit Go.Eng Go.Nw
set_option maxRecDepth 10000 in
theorem YdZ (l : List Cel) (hlen : l.length ≤ 1000000) {A : Option Addr} {cap B : Nat} {w0 : World} {H : List HP} {w : World} (hr : Rd B w0 H A (l.flatMap celF)) (hw : St B w0 H w) :
    Calls Tryz.prog 64 [.slice A l.length cap].toArray w (Post B w0 fun v K => ∃ A' cap', v = .slice A' l.length cap' ∧ K = cels A' cap' l :: H) := by
  cases A with
  | none =>
    have hl : l = [] := by
      cases l with
      | nil => rfl
      | cons x l =>
        obtain ⟨g, o, e, _⟩ := hr w hw 0 _ rfl
        cases e
    subst hl
    refine Yf Tryz.func64 Tryz.ntmps64 rfl rfl hw ?_
    repeat' (first | (apply Us; exact rfl; exact rfl; exact rfl) | (apply zg7; first | (refine zs15 ?_ ?_ <;> intro _ <;> try (exfalso; omega)) | (refine zs21 ?_ ?_ <;> intro _ _ <;> try (exfalso; omega)) | (refine zs23 ?_ ?_ <;> intro _) | refine zs64 ?_) | (apply zg8; first | (refine zs16 ?_ ?_ <;> intro _ <;> try (exfalso; omega)) | (refine zs22 ?_ ?_ <;> intro _ _ <;> try (exfalso; omega)) | (refine zs24 ?_ ?_ <;> intro _) | refine zs63 ?_) | (apply zg12; first | (refine zs29 ?_; intro _ _)) | (apply zg13; first | refine zs30 ?_ | (refine zs33 ?_; intro _ _)) | (apply zg14; first | refine zs31 ?_ | (refine zs34 ?_; intro _ _)) | (apply zg15; first | refine zs32 ?_ | (refine zs35 ?_; intro _ _)) | (apply zg21; first | (refine zs49 ?_; intro _ _)) | (apply zg23; first | (refine zs52 ?_; intro _) | (refine zs53 ?_; intro _)) | (apply zg24; first | (refine zs54 ?_; intro _)) | (apply zg26; first | (refine zs56 ?_; intro _)) | (apply zg29; first | (apply Yj; exact za ; exact rfl) | (apply Ym; exact za ; exact rfl)) | (apply Yi; (repeat (first | with_reducible exact Yh | (with_reducible apply Yd; (repeat (first | with_reducible exact Ye | with_reducible apply Yc)))))) | apply (zs91 ?_ ?_) | (apply Yo; (repeat (first | with_reducible exact Yh | (with_reducible apply Yd; (repeat (first | with_reducible exact Ye | with_reducible apply Yc)))))) | refine zgd ?_ | (refine zgf ?_ ?_ <;> intro _ <;> try (exfalso; omega)) | fail)
    apply Oo 40 5; apply Yg; exact rfl; exact rfl; exact ⟨none, 0, rfl, rfl⟩
  | some a =>
    refine Yf Tryz.func64 Tryz.ntmps64 rfl rfl hw ?_
    repeat' (first | (apply Us; exact rfl; exact rfl; exact rfl) | (apply Jf T; exact rfl; exact rfl; intro g2) | (apply zg7; first | (refine zs15 ?_ ?_ <;> intro _ <;> try (exfalso; omega)) | (refine zs21 ?_ ?_ <;> intro _ _ <;> try (exfalso; omega)) | (refine zs23 ?_ ?_ <;> intro _) | refine zs64 ?_) | (apply zg8; first | (refine zs16 ?_ ?_ <;> intro _ <;> try (exfalso; omega)) | (refine zs22 ?_ ?_ <;> intro _ _ <;> try (exfalso; omega)) | (refine zs24 ?_ ?_ <;> intro _) | refine zs63 ?_) | (apply zg12; first | (refine zs29 ?_; intro _ _)) | (apply zg13; first | refine zs30 ?_ | (refine zs33 ?_; intro _ _)) | (apply zg14; first | refine zs31 ?_ | (refine zs34 ?_; intro _ _)) | (apply zg15; first | refine zs32 ?_ | (refine zs35 ?_; intro _ _)) | (apply zg21; first | (refine zs49 ?_; intro _ _)) | (apply zg23; first | (refine zs52 ?_; intro _) | (refine zs53 ?_; intro _)) | (apply zg24; first | (refine zs54 ?_; intro _)) | (apply zg26; first | (refine zs56 ?_; intro _)) | (apply zg29; first | (apply Yj; exact za ; exact rfl) | (apply Ym; exact za ; exact rfl)) | (apply Yi; (repeat (first | with_reducible exact Yh | (with_reducible apply Yd; (repeat (first | with_reducible exact Ye | with_reducible apply Yc)))))) | apply (zs91 ?_ ?_) | (apply Yo; (repeat (first | with_reducible exact Yh | (with_reducible apply Yd; (repeat (first | with_reducible exact Ye | with_reducible apply Yc)))))) | refine zgd ?_ | (refine zgf ?_ ?_ <;> intro _ <;> try (exfalso; omega)) | fail)
    apply Wb T (f := celF) (l2 := l) (e := 40) (size := 5) (xs := []); exact rfl; exact rfl; exact rfl; exact hr.cons; exact (fun _ => rfl); exact (fun _ => rfl); exact rfl; (intro _ _; exact zd); omega; intro A' cap'
    repeat' (first | (apply zg7; first | (refine zs15 ?_ ?_ <;> intro _ <;> try (exfalso; omega)) | (refine zs21 ?_ ?_ <;> intro _ _ <;> try (exfalso; omega)) | (refine zs23 ?_ ?_ <;> intro _) | refine zs64 ?_) | (apply zg8; first | (refine zs16 ?_ ?_ <;> intro _ <;> try (exfalso; omega)) | (refine zs22 ?_ ?_ <;> intro _ _ <;> try (exfalso; omega)) | (refine zs24 ?_ ?_ <;> intro _) | refine zs63 ?_) | (apply zg12; first | (refine zs29 ?_; intro _ _)) | (apply zg13; first | refine zs30 ?_ | (refine zs33 ?_; intro _ _)) | (apply zg14; first | refine zs31 ?_ | (refine zs34 ?_; intro _ _)) | (apply zg15; first | refine zs32 ?_ | (refine zs35 ?_; intro _ _)) | (apply zg21; first | (refine zs49 ?_; intro _ _)) | (apply zg23; first | (refine zs52 ?_; intro _) | (refine zs53 ?_; intro _)) | (apply zg24; first | (refine zs54 ?_; intro _)) | (apply zg26; first | (refine zs56 ?_; intro _)) | (apply zg29; first | (apply Yj; exact za ; exact rfl) | (apply Ym; exact za ; exact rfl)) | (apply Yi; (repeat (first | with_reducible exact Yh | (with_reducible apply Yd; (repeat (first | with_reducible exact Ye | with_reducible apply Yc)))))) | apply (zs91 ?_ ?_) | (apply Yo; (repeat (first | with_reducible exact Yh | (with_reducible apply Yd; (repeat (first | with_reducible exact Ye | with_reducible apply Yc)))))) | refine zgd ?_ | (refine zgf ?_ ?_ <;> intro _ <;> try (exfalso; omega)) | fail)
    rw [Nat.zero_add, List.nil_append]
    apply Yg; exact rfl; exact rfl; exact ⟨A', cap', rfl, rfl⟩
end Go.Proofs.YtmalhidldgfeoaaGreatDoor
namespace Go.Eng
open Go.RowKit
theorem Ya7 {P : Program} (w : World) (t u ty e : TypeId) (i : TypeInfo) (ht : P.underlying t = some (.slice e)) (hu : P.underlying u = some .string) (hi : P.info? e = some i) (hz : i.zero = some (.int .u8 0))
    (hsize : i.size = 1) (hby : i.bytes = 1) (v : Value) (n : Nat) (xs : List Value) (hown : w.ownsRow 0 e 1 v n xs) (s : ByteArray) (hb : n + s.size ≤ 1000000000) :
    ∃ v' w', (Builtin.append_ #[t, u] ty #[v, .string s]).run P w = .ok v' w' ∧ w'.ownsRow 0 e 1 v' (n + s.size) (xs ++ Lib.strCells s) ∧ w.grownBy w' v.ownBlock ∧ ∀ b, v'.ownBlock = some b → v.ownBlock = some b ∨ w.heap.size ≤ b := by
  have hm : n + s.size ≤ maxLen := by simp only [maxLen]; omega
  obtain ⟨v', w', h1, h2, h3, _⟩ := Lib.run_append_own_string (P := P) w 0 t u ty e i ht hu hi hz hsize hby v n xs hown s hm (by omega) (Nat.zero_le _)
  refine ⟨v', w', h1, h2, h3, fun b hbb => ?_⟩
  rcases hown.2 with ⟨rfl, rfl⟩ | ⟨g, cap, cur, rfl, hbg, hg, hnc, hcm, hcs, htake⟩
  · right
    obtain ⟨v2, w2, k1, k2, _⟩ := Lib.run_append_own_string (P := P) w w.heap.size t u ty e i ht hu hi hz hsize hby (.slice none 0 0) 0 xs ⟨hown.1, .inl ⟨rfl, rfl⟩⟩ s hm (by omega) (Nat.le_refl _)
    rw [h1] at k1
    obtain ⟨rfl, rfl⟩ : v' = v2 ∧ w' = w2 := by simpa using k1
    rcases k2.2 with ⟨e1, _⟩ | ⟨g', _, _, e1, e2, _⟩
    · rw [e1] at hbb; cases hbb
    · rw [e1] at hbb
      simp only [Value.ownBlock, Option.some.injEq] at hbb
      omega
  · have hcs' : cur.size = cap := by simpa using hcs
    have hxl : xs.length = n := by simpa using hown.1
    by_cases hroom : n + s.size ≤ cap
    · have k1 := Lib.run_append_room_string (P := P) w t u ty e i ht hu hi hsize g n cap cur hg s hroom (by omega)
      rw [h1] at k1
      obtain ⟨rfl, _⟩ := (Result.ok.injEq _ _ _ _).mp k1
      exact .inl hbb
    · have holds : ∀ j u, xs[j]? = some u → w.cell? ((⟨g, 0, none⟩ : Addr).add j) = some u := hown.cells (g := g) rfl
      have k1 := Lib.run_append_grow_string (P := P) w t u ty e i (.int .u8 0) ht hu hi hz ⟨g, 0, none⟩ n cap xs (by rw [hsize]; simpa using hxl) holds s (by omega) (by omega) (by rw [hby]; exact growslice_fits (by omega) (by omega))
      rw [h1] at k1
      obtain ⟨rfl, _⟩ := (Result.ok.injEq _ _ _ _).mp k1
      right
      simp only [Value.ownBlock, Option.some.injEq] at hbb
      omega
section
variable {P : Program} {m : Mode} {n : Shp} {B d : Nat} {w0 : World} {ops : Array Oper} {Q : Exit → Act → World → Prop} {rest : List Oper} {env : Env} {H : List HP} {ty : TypeId} {pos : String} {after : Array Edge} {x y : Operand}
def QI (P : Program) (e : TypeId) : Bool := match P.info? e with | some i => (match i.zero with | some (.int .u8 0) => true | _ => false) && i.size == 1 && i.bytes == 1 | none => false
theorem Ya9 {e : TypeId} (h : QI P e = true) : ∃ i, P.info? e = some i ∧ i.zero = some (.int .u8 0) ∧ i.size = 1 ∧ i.bytes = 1 := by
  unfold QI at h
  split at h
  · rename_i i hi
    simp only [Bool.and_eq_true, beq_iff_eq] at h
    refine ⟨i, hi, ?_, h.1.2, h.2⟩
    have h1 := h.1.1
    split at h1
    · assumption
    · cases h1
  · cases h
theorem Yck (T : Tab P) {t tt k cap e bytes : Nat} {A : Option Addr} {s : ByteArray} {xs : List Value} {K : Option Addr → Nat → List HP} (hx : evo env x = some (.slice A k cap)) (hy : evo env y = some (.string s)) (ht : look T.sl t = some (e, 1, bytes)) (hbi : QI P e = true) (htt : look T.st tt = some ())
    (hn : Nat.ble (d + 1) n.k = true) (hu : ∀ A' cap', Upd (sl e 1 A k cap xs) (sl e 1 A' (k + s.size) cap' (xs ++ Lib.strCells s)) H (K A' cap')) (hb : k + s.size ≤ 1000000000)
    (h : ∀ A' cap', VL P none n B w0 ops Q rest ((d, .slice A' (k + s.size) cap') :: env) (K A' cap')) :
    VL P none n B w0 ops Q (⟨some d, .call ⟨.builtin .append, #[x, y], #[t, tt]⟩, ty, pos, after, none⟩ :: rest) env H := by
  obtain ⟨hut, _⟩ := YY (T.slic ht)
  obtain ⟨i, hi, hz, hs1, hb1⟩ := Ya9 hbi
  have hst : P.underlying tt = some .string := T.strs htt
  refine Xw (fun v K' => ∃ A' cap', v = .slice A' (k + s.size) cap' ∧ K' = K A' cap') rfl rfl hn (fun a w ha hw => ?_) (by rintro _ _ ⟨A', cap', rfl, rfl⟩; exact h A' cap')
  have hmem : sl e 1 A k cap xs ∈ H := by
    obtain ⟨L1, L2, rfl, _⟩ := hu none 0
    simp
  have hown := hw.sl hmem
  obtain ⟨v', w', hrun, hown', hgrow, hat⟩ := Ya7 (P := P) w t tt ty e i hut hst hi hz hs1 hb1 (.slice A k cap) k xs hown s hb
  have hshape : ∃ A' cap', v' = .slice A' (k + s.size) cap' := by
    rcases hown'.2 with ⟨e1, e2⟩ | ⟨g', c', _, e1, _⟩
    · exact ⟨none, 0, by rw [e1, e2]⟩
    · exact ⟨_, _, e1⟩
  obtain ⟨A', cap', rfl⟩ := hshape
  refine ⟨_, K A' cap', w', by simp [execOp, resolve, invoke, builtin, ha.eval hx, ha.eval hy, hrun], ?_, A', cap', rfl, rfl⟩
  refine hw.updN (hu A' cap') hgrow.os hgrow.tape hgrow.output hgrow.size fun S1 ⟨_, hS⟩ => ⟨⟨fun b => Value.ownBlock (.slice A' (k + s.size) cap') = some b, ⟨hown', ?_⟩, fun b hb => ?_⟩, fun b hb hlt => hgrow.block b hlt (fun e => hb ?_)⟩
  · rintro a rfl; rfl
  · rcases hat b hb with e | e
    · cases A with
      | none => cases e
      | some a => left; simp only [Value.ownBlock, Option.some.injEq] at e; rw [← e]; exact hS a rfl
    · right
      refine ⟨e, ?_⟩
      rcases hown'.2 with ⟨e1, _⟩ | ⟨g', _, _, e1, _, e3, _⟩
      · rw [e1] at hb; cases hb
      · rw [e1] at hb
        simp only [Value.ownBlock, Option.some.injEq] at hb
        subst hb
        exact (Array.getElem?_eq_some_iff.1 e3).1
  · cases A with
    | none => cases e
    | some a => simp only [Value.ownBlock, Option.some.injEq] at e; rw [e]; exact hS a rfl
end
open Go.RowKit
inductive OV where
  | done
  | p1 (i : Nat) (t : OV)
  | d1 (i : Nat) (t : OV)
  | d2 (i : Nat) (t : OV) (j : Nat) (u : OV)
section
variable {P : Program} {n : Shp} {B : Nat} {w0 : World} {Q : Exit → Act → World → Prop} {env : Env} {H : List HP} {ops : Array Oper}
def wpD (P : Program) (ops : Array Oper) (K : Act → World → Prop) (o : Oper) (a : Act) (w : World) : Prop :=
  if Region.wanted o (yielded ops a.tmps) then o.wp P a w K (fun _ _ _ => False) else K (a.put o.dst undef) w
def Xt (P : Program) (ops : Array Oper) (l : List Oper) (Q : Exit → Act → World → Prop) (S : World → Prop) : OV → Act → World → Prop
  | .done, a, w => Q .normal a w
  | .p1 i t, a, w => Yu P ops (fun e a w => match e with | .normal => S w ∧ Xt P ops l Q S t a w | _ => False) S [nthO l i] a w
  | .d1 i t, a, w => wpD P ops (fun a w => S w ∧ Xt P ops l Q S t a w) (nthO l i) a w
  | .d2 i t j u, a, w => wpD P ops (fun a w => S w ∧ Xt P ops l Q S t a w) (nthO l i) a w ∧ wpD P ops (fun a w => S w ∧ Xt P ops l Q S u a w) (nthO l j) a w
def VB (ops : Array Oper) (last : List Nat) : OV → Array Bool → Nat → Bool
  | .done, listed, 0 => ZH ops last listed
  | .done, _, _ + 1 => false
  | .p1 i t, listed, k + 1 => !last.contains i && (match ops[i]? with
      | some o => !eff o && ((Region.ready .any ops listed).contains i && Region.free .any ops listed i)
      | none => false) && VB ops last t (listed.setIfInBounds i true) k
  | .d1 i t, listed, k + 1 => !last.contains i && (ops[i]?).isSome && decide (Region.ready .any ops listed = [i]) && VB ops last t (listed.setIfInBounds i true) k
  | .d2 i t j u, listed, k + 1 => !last.contains i && !last.contains j && (ops[i]?).isSome && (ops[j]?).isSome && ((Region.ready .any ops listed).all fun x => x == i || x == j) && !(Region.ready .any ops listed).isEmpty && VB ops last t (listed.setIfInBounds i true) k && VB ops last u (listed.setIfInBounds j true) k
  | .p1 _ _, _, 0 => false
  | .d1 _ _, _, 0 => false
  | .d2 _ _ _ _, _, 0 => false
theorem QU {S : World → Prop} {K : Act → World → Prop} {last : List Nat} {i k : Nat} {o : Oper} {listed : Array Bool} {a : Act} {w : World} (ho : ops[i]? = some o)
    (h : wpD P ops K o a w) (hk : ∀ a w, K a w → S w ∧ X3 P ops Q S last k (listed.setIfInBounds i true) a w) :
    wpOp P ops Q i (fun a' w' => (last.contains i = false → S w') ∧ X3 P ops Q S last k (listed.setIfInBounds i true) a' w') a w := by
  unfold wpD at h
  unfold wpOp
  simp only [ho]
  by_cases hw : Region.wanted o (yielded ops a.tmps) = true
  · rw [if_pos hw] at h ⊢
    exact .inl (Oper.wp_mono_noQ (fun _ _ _ h => h) (by rintro ⟨_, _, h⟩; exact h) (Oper.wp_mono (fun a' w' h' => ⟨fun _ => (hk a' w' h').1, (hk a' w' h').2⟩) h))
  · rw [if_neg hw] at h ⊢
    exact ⟨fun _ => (hk _ w h).1, (hk _ w h).2⟩
theorem ZV {S : World → Prop} {last : List Nat} (hs : Region.noSelect ops = true) (hQ : ∀ c (a : Act) (w : World), ¬ Q (.panic c) a w) (hlo : ¬ LetsOut Q) (l : List Oper) (hl : ops = l.toArray) (hlast : Yal ops last = true) :
    ∀ (t : OV) (k : Nat) (listed : Array Bool) (a : Act) (w : World), Closed ops listed → VB ops last t listed k = true → S w → Xt P ops l (X5 P ops Q (Yl l last)) S t a w →
      X3 P ops Q S last (k + last.length) listed a w
  | .done, 0, listed, a, w, _, hB, _, h => by
    have := ZT (S := S) l hl (ZD hlast).1 hlo last listed a w (fun j hj => by simpa using hj) hB h
    rw [Nat.zero_add]
    exact this
  | .done, _ + 1, _, _, _, _, hB, _, _ => by cases hB
  | .p1 _ _, 0, _, _, _, _, hB, _, _ => by cases hB
  | .d1 _ _, 0, _, _, _, _, hB, _, _ => by cases hB
  | .d2 _ _ _ _, 0, _, _, _, _, hB, _, _ => by cases hB
  | .p1 i t, k + 1, listed, a, w, hcl, hB, hS, h => by
    simp only [VB, Bool.and_eq_true] at hB
    obtain ⟨⟨h0, h1⟩, h2⟩ := hB
    have hno : last.contains i = false := by simpa using h0
    cases ho : ops[i]? with
    | none => rw [ho] at h1; cases h1
    | some o =>
      rw [ho] at h1
      have hget := YP hl ho
      unfold Xt at h
      rw [hget] at h
      rw [Nat.add_right_comm]
      simp only [Bool.and_eq_true, Bool.not_eq_true'] at h1
      obtain ⟨he, h3, h4⟩ := h1
      unfold Yu at h
      rw [if_neg (by rw [he]; simp)] at h
      obtain ⟨v, hy, h5⟩ := h
      have hr : i ∈ Region.ready .any ops listed := by simpa using h3
      exact Zr ho (Region.noSelect_spec hs) hQ ((ZD hlast).2 i o ho he hno) hno _ listed a w hcl (Region.free_spec ho h4) hr hy hS (ZV hs hQ hlo l hl hlast t k _ _ w (hcl.set hr) h2 hS h5.2)
  | .d1 i t, k + 1, listed, a, w, hcl, hB, hS, h => by
    simp only [VB, Bool.and_eq_true, decide_eq_true_eq] at hB
    obtain ⟨⟨⟨h0, h1⟩, h3⟩, h2⟩ := hB
    obtain ⟨o, ho⟩ := Option.isSome_iff_exists.1 h1
    unfold Xt at h
    rw [YP hl ho] at h
    rw [Nat.add_right_comm]
    refine ⟨fun h0 => (by rw [h3] at h0; cases h0), fun j hj => ?_⟩
    have hj' := hj
    rw [h3] at hj
    obtain rfl : j = i := by simpa using hj
    exact QU ho h fun a w ⟨hS', h'⟩ => ⟨hS', ZV hs hQ hlo l hl hlast t k _ a w (hcl.set hj') h2 hS' h'⟩
  | .d2 i t j u, k + 1, listed, a, w, hcl, hB, hS, h => by
    simp only [VB, Bool.and_eq_true] at hB
    obtain ⟨⟨⟨⟨⟨⟨⟨b1, b2⟩, b3⟩, b4⟩, b5⟩, b6⟩, b7⟩, b8⟩ := hB
    obtain ⟨o, ho⟩ := Option.isSome_iff_exists.1 b3
    obtain ⟨o', ho'⟩ := Option.isSome_iff_exists.1 b4
    unfold Xt at h
    rw [YP hl ho, YP hl ho'] at h
    rw [Nat.add_right_comm]
    refine ⟨fun h0 => (by rw [h0] at b6; cases b6), fun x hx => ?_⟩
    have h5 := List.all_eq_true.1 b5 x hx
    simp only [Bool.or_eq_true, beq_iff_eq] at h5
    rcases h5 with rfl | rfl
    · exact QU ho h.1 fun a w ⟨hS', h'⟩ => ⟨hS', ZV hs hQ hlo l hl hlast t k _ a w (hcl.set hx) b7 hS' h'⟩
    · exact QU ho' h.2 fun a w ⟨hS', h'⟩ => ⟨hS', ZV hs hQ hlo l hl hlast u k _ a w (hcl.set hx) b8 hS' h'⟩
structure VV (P : Program) (n : Shp) (B : Nat) (w0 : World) (ops : Array Oper) (l : List Oper) (Q : Exit → Act → World → Prop) (t : OV) (env : Env) (H F : List HP) : Prop where
  run : ∀ a, Fits n a env → ∀ w, St B w0 (H ++ F) w → Xt P ops l Q (St B w0 H) t a w
def J9 (P : Program) (B : Nat) (w0 : World) (ops : Array Oper) (l : List Oper) (Q : Exit → Act → World → Prop) (Hc : List HP) (t : OV) : Exit → Act → World → Prop
  | .normal, a, w => St B w0 Hc w ∧ Xt P ops l Q (St B w0 Hc) t a w
  | _, _, _ => False
theorem YhZ {l : List Oper} {t : OV} : J9 P B w0 ops l Q H t = fun e a w => match e with | .normal => St B w0 H w ∧ Xt P ops l Q (St B w0 H) t a w | _ => False := by
  funext e a w
  cases e <;> rfl
theorem Yf2 {l : List Oper} {t : OV} {o : Oper} {a : Act} {w : World} (h : wpList P ops (J9 P B w0 ops l Q H t) [o] a w) : wpD P ops (fun a w => St B w0 H w ∧ Xt P ops l Q (St B w0 H) t a w) o a w := by
  have hno : ¬ LetsOut (J9 P B w0 ops l Q H t) := by rintro ⟨_, _, h⟩; exact h
  unfold wpList at h
  unfold wpD
  by_cases hw : Region.wanted o (yielded ops a.tmps) = true
  · rw [if_pos hw] at h ⊢
    rcases h with h | ⟨_, h⟩
    · exact Oper.wp_mono_noQ (fun _ _ _ h => h) hno (Oper.wp_mono (fun a' w' h' => h') h)
    · exact (hno h).elim
  · rw [if_neg hw] at h ⊢
    exact h
theorem Yj3 {l : List Oper} {F HF : List HP} (happ : App H F HF) (h : VQ n B w0 Q .normal env HF) : VV P n B w0 ops l Q .done env H F :=
  ⟨fun a ha w hw => by rw [← JM happ] at hw; exact h.run a w ha hw⟩
theorem YkO {l : List Oper} {F : List HP} {i : Nat} {t : OV} {o : Oper} (ho : nthO l i = o) (h : VL P (some (some F)) n B w0 ops (J9 P B w0 ops l Q H t) [o] env H) : VV P n B w0 ops l Q (.p1 i t) env H F := by
  refine ⟨fun a ha w hw => ?_⟩
  have h1 : Yu P ops (J9 P B w0 ops l Q H t) (St B w0 H) [o] a w := h.run a ha w hw
  unfold Xt
  rw [ho, ← YhZ]
  exact h1
theorem YkM {l : List Oper} {F HF : List HP} {i : Nat} {t : OV} {o : Oper} (ho : nthO l i = o) (happ : App H F HF) (h : VL P none n B w0 ops (J9 P B w0 ops l Q H t) [o] env HF) : VV P n B w0 ops l Q (.d1 i t) env H F := by
  refine ⟨fun a ha w hw => ?_⟩
  unfold Xt
  rw [ho]
  rw [← JM happ] at hw
  exact Yf2 (h.run a ha w hw)
theorem YkN {l : List Oper} {F HF : List HP} {i j : Nat} {t u : OV} {o o' : Oper} (ho : nthO l i = o) (ho' : nthO l j = o') (happ : App H F HF) (h : VL P none n B w0 ops (J9 P B w0 ops l Q H t) [o] env HF)
    (h' : VL P none n B w0 ops (J9 P B w0 ops l Q H u) [o'] env HF) : VV P n B w0 ops l Q (.d2 i t j u) env H F := by
  refine ⟨fun a ha w hw => ?_⟩
  unfold Xt
  rw [ho, ho']
  rw [← JM happ] at hw
  exact ⟨Yf2 (h.run a ha w hw), Yf2 (h'.run a ha w hw)⟩
theorem YdG {l : List Oper} {F H' Hc : List HP} {t : OV} (hp : Pull Hc H' F) (h : VV P n B w0 ops l Q t env Hc F) : VQ n B w0 (J9 P B w0 ops l Q Hc t) .normal env H' :=
  ⟨fun a w ha hw => ⟨(hw.perm hp).prefix_, h.run a ha w (hw.perm hp)⟩⟩
theorem Ydl {id : Nat} {l : List Oper} (t : OV) (last : List Nat) (mask : List Bool) {Hc F : List HP} (hm : P.follows .mixedOrders = true)
    (hB : (Region.noSelect l.toArray && decide (last.length ≤ l.toArray.size) && Yal l.toArray last && VB l.toArray last t (Array.replicate l.toArray.size false) (l.toArray.size - last.length)) = true)
    (hsp : Split mask H Hc F) {l2 : List Oper} (hl2 : Yl l last = l2) (h : VV P n B w0 l.toArray l (X5 P l.toArray (Only Q) l2) t env Hc F) : VC P n B w0 (.region id l.toArray true) Q env H := by
  simp only [Bool.and_eq_true, decide_eq_true_eq] at hB
  obtain ⟨⟨⟨h1, h2⟩, h3⟩, h5⟩ := hB
  refine ⟨fun a w ha hw => Zs (Q := Only Q) ?_ fun e a w h => by cases e <;> first | exact h | cases h⟩
  have hst : St B w0 (Hc ++ F) w.drew := (hw.perm (Xj hsp)).drew
  have hr := h.run a ha w.drew hst
  rw [← hl2] at hr
  have := ZV (S := St B w0 Hc) h1 (fun c a w h => h) (by rintro ⟨_, _, h⟩; exact h) l rfl h3 t _ _ a w.drew (Xz _ _) h5 hst.prefix_ hr
  rw [Nat.sub_add_cancel h2] at this
  exact JL hm (X4 _ _ _ _ this)
end
end Go.Eng
