/- Lemmas for the claim, part 2. -/
import Derived.RangeFuncFrom
import Derived.RangeFuncNested
import Derived.RangeFuncLeaves
import Derived.Lib.OthersKept
import Derived.Lib.AppendStr
import Derived.Laws.Externs
import Derived.Shelf.Strings.Builder1
import Derived.Shelf.Small.Wraps
import Derived.Shelf.Strings.BuilderF
import Derived.Shelf.Strings.BuilderK
import Derived.Shelf.Strconv.Atoi
import Derived.Shelf.Strconv.Itoa0
import Derived.Shelf.Strconv.Itoa1
import Derived.Shelf.LaysM
import Derived.Shelf.Strconv.Itoa2
import Derived.Shelf.Strconv.Itoa3
import Derived.Shelf.Strconv.AtoiErrFast
import Derived.Shelf.Strconv.ParseIntEmpty
import Derived.Shelf.Strconv.AtoiFail
import Derived.Shelf.Strconv.Clone
import Derived.Shelf.Strconv.SyntaxError
import Derived.Shelf.LaysC
import Derived.Shelf.Strconv.ToError
import Derived.Shelf.Strconv.Lower
import Derived.Shelf.Strconv.ParseUint10
import Derived.Shelf.Strconv.ParseUint10Empty
import Derived.Shelf.Strconv.ParseUint10Any
import Derived.Shelf.Strconv.ParseInt10
import Derived.Shelf.Strconv.AtoiLong
import Derived.Shelf.Strconv.AtoiInnerAll
import Derived.Shelf.Strconv.RangeError
import Derived.Shelf.Strconv.ToErrorRange
import Derived.Shelf.Strconv.AtoiAll
import Derived.Shelf.Strconv.ErrVarAll
import Derived.Shelf.Strings.Search1
import Derived.Shelf.Strings.Search2
import Derived.Shelf.Strings.Search3
import Derived.Shelf.Strings.Count
import Derived.Shelf.Strings.Shaped
import Derived.Shelf.Strings.Split
import Derived.Shelf.Strings.SplitShaped
import Derived.Shelf.Unicode.DecodeSlow
import Derived.Ground.Names2Prog
import Derived.Shelf.Slices.SearchI
import Derived.Test.YtnkpfpgmbpnbgaaGreatDoorProg
import Derived.KernelRfl
import Derived.Test.YtnkpfpgmbpnbgaaGreatDoorQ1

/- An engine for walks, part 23: ranges over functions: rounds, yield, and what is deferred behind them. -/
namespace Go.Eng
open Go.RowKit

theorem St.putObj {B : Nat} {w0 w : World} {H K : List HP} {g : Nat} {o o' : Obj} (h : St B w0 H w) (u : Upd (Eng.blk g o) (Eng.blk g o') H K) : St B w0 K (w.putObj g o') := by
  have hlt : g < w.heap.size := by
    obtain ⟨L1, L2, rfl, _⟩ := u
    exact (h.blk (g := g) (o := o) (by simp)).2.2
  refine h.upd u rfl rfl rfl (by simp [World.putObj]) fun S1 ⟨h1, _⟩ => ⟨⟨h1, World.putObj_heap_same hlt⟩, fun b hb _ => World.putObj_heap_other fun e => hb (e ▸ h1)⟩
theorem perm_app (X : HP) (Y M : List HP) : Perm (Y ++ X :: M) (X :: (Y ++ M)) := by
  induction Y with
  | nil => exact .refl _
  | cons A Y ih => exact (ih.cons A).trans (.swap A X _)
theorem perm_appi (X : HP) (Y M : List HP) : Perm (X :: (Y ++ M)) (Y ++ X :: M) := by
  induction Y with
  | nil => exact .refl _
  | cons A Y ih => exact (Perm.swap X A _).trans (ih.cons A)
theorem perm_pre (Y : List HP) {L M : List HP} (p : Perm L M) : Perm (Y ++ L) (Y ++ M) := by
  induction Y with
  | nil => exact p
  | cons A Y ih => exact ih.cons A

/-- What yield comes to: on, with pieces of which Φt holds, or no more, with pieces of which Φf holds. -/
def YieldS (P : Program) (l : Nat) (args : List Value) (B : Nat) (w0 : World) (H : List HP) (Φt Φf : List HP → Prop) : Prop :=
  ∀ w, St B w0 H w → YieldAt Fence.wide 0 P l args.toArray w fun e w' =>
    (e = .returned (.bool true) ∧ ∃ K, Φt K ∧ St B w0 K w') ∨ (e = .returned (.bool false) ∧ ∃ K, Φf K ∧ St B w0 K w')

/-- An iterator: it hands these lists of values to yield, one after the other; HI are the pieces that it leaves alone. -/
def IterS (P : Program) (gf : Nat) (lb : List Value) (xs : List (List Value)) (B : Nat) (w0 : World) (HI : List HP) : Prop :=
  ∀ (l : Nat) (S : Nat → List HP → Prop) (X : List HP → Prop),
    (∀ (i : Nat) (args : List Value), xs[i]? = some args → ∀ (Y L : List HP), S i L →
      YieldS P l args B w0 (Y ++ many L :: HI) (fun K => ∃ L', S (i + 1) L' ∧ K = Y ++ many L' :: HI) (fun K => ∃ L', X L' ∧ K = Y ++ many L' :: HI)) →
    ∀ L0, S 0 L0 → ∀ w, St B w0 (many L0 :: HI) w →
      CallsIn Fence.wide 0 P gf (.func (.yield l) #[] #[] :: lb).toArray w (Post B w0 fun _ K => (∃ L, S xs.length L ∧ K = many L :: HI) ∨ ∃ L, X L ∧ K = many L :: HI)

def jump : Exit → Option Code
  | .ret => some .ret
  | .exit id => some (.exit id)
  | _ => none
/-- What is asked behind the body of a round. -/
def BodyQ {α : Type} (B : Nat) (w0 : World) (R : HP) (HI : List HP) (I : α → Prop) (HH : α → List HP) (X : Exit → List HP → Prop) : Exit → Act → World → Prop
  | .normal, _, w => ∃ y, I y ∧ St B w0 (R :: (HH y ++ HI)) w
  | .ret, _, w => ∃ K, X .ret K ∧ St B w0 (R :: (K ++ HI)) w
  | .exit id, _, w => ∃ K, X (.exit id) K ∧ St B w0 (R :: (K ++ HI)) w
  | _, _, _ => False
/-- What is asked behind the assignments of a round. -/
def AssignQ {α : Type} (P : Program) (l B : Nat) (w0 : World) (body : Code) (R : HP) (HI : List HP) (I : α → Prop) (HH : α → List HP) (X : Exit → List HP → Prop) : Exit → Act → World → Prop
  | .normal, a, w => ∃ K, St B w0 (R :: K) w ∧ ∀ R' w', St B w0 (R' :: K) w' → wpR P (some l) body (BodyQ B w0 R' HI I HH X) a w'
  | _, _, _ => False
def putEnv : List Nat → List Value → Env → Env
  | p :: ps, v :: vs, e => putEnv ps vs ((p, v) :: e)
  | _, _, e => e

section
variable {P : Program} {B : Nat} {w0 : World} {Q : Exit → Act → World → Prop} {env : Env} {H : List HP} {k : Nat}
theorem VQ_assign {α : Type} {l : Nat} {body : Code} {R : HP} {HI K : List HP} {I : α → Prop} {HH : α → List HP} {X : Exit → List HP → Prop} (hr : Rem R H K)
    (h : ∀ R', VC P ⟨k, [], some l⟩ B w0 body (BodyQ B w0 R' HI I HH X) env (R' :: K)) : VQ ⟨k, [], some l⟩ B w0 (AssignQ P l B w0 body R HI I HH X) .normal env H :=
  ⟨fun a _ ha hw => ⟨K, hw.perm hr, fun R' w' hw' => (h R').run a w' ha hw'⟩⟩
theorem VQ_body {α : Type} {n : Shp} {R : HP} {HI : List HP} {I : α → Prop} {HH : α → List HP} {X : Exit → List HP → Prop} (y : α) (hI : I y) (hH : ∀ w, St B w0 H w → St B w0 (R :: (HH y ++ HI)) w) :
    VQ n B w0 (BodyQ B w0 R HI I HH X) .normal env H := ⟨fun _ w _ hw => ⟨y, hI, hH w hw⟩⟩
theorem VQ_bodyR {α : Type} {n : Shp} {R : HP} {HI : List HP} {I : α → Prop} {HH : α → List HP} {X : Exit → List HP → Prop} (K : List HP) (hX : X .ret K) (hH : ∀ w, St B w0 H w → St B w0 (R :: (K ++ HI)) w) :
    VQ n B w0 (BodyQ B w0 R HI I HH X) .ret env H := ⟨fun _ w _ hw => ⟨K, hX, hH w hw⟩⟩
theorem fits_put : ∀ (ps : List Nat) (vs : List Value) (t : Array Value) (e : Env), t.size = k → (∀ s v, get e s = some v → t[s]? = some v) → ps.all (fun p => Nat.ble (p + 1) k) = true → ps.length = vs.length →
    ((ps.zip vs).foldl (fun t (x : Nat × Value) => t.setIfInBounds x.1 x.2) t).size = k ∧ ∀ s v, get (putEnv ps vs e) s = some v → ((ps.zip vs).foldl (fun t (x : Nat × Value) => t.setIfInBounds x.1 x.2) t)[s]? = some v
  | [], [], t, e, hs, hg, _, _ => ⟨hs, hg⟩
  | p :: ps, v :: vs, t, e, hs, hg, hp, hl => by
    simp only [List.all_cons, Bool.and_eq_true] at hp
    have hlt := Nat.le_of_ble_eq_true hp.1
    refine fits_put ps vs (t.setIfInBounds p v) ((p, v) :: e) (by simpa using hs) (fun s u hu => ?_) hp.2 (by simpa using hl)
    by_cases e2 : p = s
    · subst e2
      rw [get, if_pos rfl] at hu
      rw [← hu, Array.getElem?_setIfInBounds, if_pos rfl, if_pos (by omega)]
    · rw [get, if_neg e2] at hu
      rw [Array.getElem?_setIfInBounds_ne e2]
      exact hg s u hu

/-- The statement 'for .. := range f { .. }' in a frame of its own: x is what changes from round to round. -/
theorem VC_rangeFunc {α : Type} {ds : List Deferred} {g : Operand} {ps : List Nat} {assign body : Code} {gf : Nat} {lb : List Value} {xs : List (List Value)} (HI : List HP) (HH : α → List HP) (I : Nat → α → Prop) (X : Exit → List HP → Prop) (x0 : α)
    (hg : evo env g = some (.func (.func gf) #[] lb.toArray)) (hc : ∀ xs w, (callFunc gf xs).run P w = .ok (.enter gf xs) w) (hiter : IterS P gf lb xs B w0 HI)
    (hps : ps.all (fun p => Nat.ble (p + 1) k) = true) (hlen : ∀ args ∈ xs, args.length = ps.length) (hca : calm assign = true) (hcb : calm body = true)
    (hH : ∀ w, St B w0 H w → St B w0 (HH x0 ++ HI) w) (h0 : I 0 x0)
    (hround : ∀ (l i : Nat) (args : List Value) (R : HP) (x : α), xs[i]? = some args → I i x → VC P ⟨k, [], some l⟩ B w0 assign (AssignQ P l B w0 body R HI (I (i + 1)) HH X) (putEnv ps args env) (R :: (HH x ++ HI)))
    (hdone : ∀ D x, I xs.length x → VQ ⟨k, ⟨.collected D, #[]⟩ :: ds, none⟩ B w0 Q .normal env (blk D (.deferred (some [])) :: (HH x ++ HI)))
    (hstop : ∀ D e K, X e K → (jump e).isSome = true → VQ ⟨k, ⟨.collected D, #[]⟩ :: ds, none⟩ B w0 Q e env (blk D (.deferred (some [])) :: (K ++ HI))) :
    VC P ⟨k, ds, none⟩ B w0 (.rangeFunc g ps.toArray assign body) Q env H := by
  refine ⟨fun a w ha hw => ?_⟩
  show (Code.rangeFunc g ps.toArray assign body).wp P Q a w
  refine (wpIn_wide (n := 0)).1 (wpIn_rangeFunc ?_)
  intro fn _
  obtain ⟨rec, hrec⟩ : ∃ rec : LoopState → Option Code → Loop, rec = fun st pe => { state := st, pending := pe, fn, tmps := a.tmps, params := ps.toArray, assign, body, defers := w.heap.size } := ⟨_, rfl⟩
  have hst := ((hH w hw).alloc (.deferred (some []))).alloc (.loop (rec .ready none))
  rw [World.size_alloc] at hst
  obtain ⟨l, hl⟩ : ∃ l, w.heap.size + 1 = l := ⟨_, rfl⟩
  obtain ⟨D, hD⟩ : ∃ D, w.heap.size = D := ⟨_, rfl⟩
  rw [hl, hD] at hst
  obtain ⟨W1, hW1⟩ : ∃ W1, (w.alloc (.deferred (some []))).alloc (.loop (rec .ready none)) = W1 := ⟨_, rfl⟩
  rw [hW1] at hst
  refine ⟨l, [⟨.collected D, #[]⟩], W1, { target := .fn (.func gf) lb.toArray, args := #[.func (.yield l) #[] #[]] }, W1, gf, (.func (.yield l) #[] #[] :: lb).toArray, W1, ?_, ?_, ?_, ?_, fun h => by simp [Fence.wide] at h, ?_⟩
  · rw [← hl, ← hD, ← hW1, hrec]
    exact run_enterLoop_outer _ _ _ _ _
  · simp only [resolve, ha.eval hg]
    simp [go_sem]
  · intro f' _; trivial
  · simp [invoke, go_sem, hc]
  · refine CallsIn.mono (hiter l (fun i L => ∃ x, I i x ∧ L = blk l (.loop (rec .ready none)) :: blk D (.deferred (some [])) :: HH x)
      (fun L => ∃ e K c, X e K ∧ jump e = some c ∧ L = blk l (.loop (rec .done (some c))) :: blk D (.deferred (some [])) :: K) ?_ _ ⟨x0, h0, rfl⟩ _ (hst.perm (.close (blk l (.loop (rec .ready none)) :: blk D (.deferred (some [])) :: HH x0) HI))) ?_
    · -- one round
      rintro i args hx Y L ⟨x, hI, rfl⟩ W hW
      have hp1 : ∀ (lp : Loop) (M : List HP), Perm (Y ++ many (blk l (.loop lp) :: blk D (.deferred (some [])) :: M) :: HI) (many (Y ++ [blk l (.loop lp), blk D (.deferred (some []))]) :: (M ++ HI)) := fun lp M => by
        refine (perm_pre Y (.open_ _ _)).trans ?_
        have : Y ++ ((blk l (.loop lp) :: blk D (.deferred (some [])) :: M) ++ HI) = (Y ++ [blk l (.loop lp), blk D (.deferred (some []))]) ++ (M ++ HI) := by simp
        rw [this]
        exact .close _ _
      have hp2 : ∀ (lp : Loop) (M : List HP), Perm (many (Y ++ [blk l (.loop lp), blk D (.deferred (some []))]) :: (M ++ HI)) (Y ++ many (blk l (.loop lp) :: blk D (.deferred (some [])) :: M) :: HI) := fun lp M => by
        refine Perm.trans (.open_ _ _) ?_
        have : (Y ++ [blk l (.loop lp), blk D (.deferred (some []))]) ++ (M ++ HI) = Y ++ ((blk l (.loop lp) :: blk D (.deferred (some [])) :: M) ++ HI) := by simp
        rw [this]
        exact perm_pre Y (.close _ _)
      have hpf : ∀ (lp : Loop) (M : List HP), Perm (many (Y ++ [blk l (.loop lp), blk D (.deferred (some []))]) :: M) (blk l (.loop lp) :: (Y ++ blk D (.deferred (some [])) :: M)) := fun lp M => by
        refine Perm.trans (.open_ _ _) ?_
        have : (Y ++ [blk l (.loop lp), blk D (.deferred (some []))]) ++ M = Y ++ blk l (.loop lp) :: (blk D (.deferred (some [])) :: M) := by simp
        rw [this]
        exact perm_app _ _ _
      have hpb : ∀ (lp : Loop) (M : List HP), Perm (blk l (.loop lp) :: (Y ++ blk D (.deferred (some [])) :: M)) (many (Y ++ [blk l (.loop lp), blk D (.deferred (some []))]) :: M) := fun lp M => by
        refine Perm.trans (perm_appi _ _ _) ?_
        have : Y ++ blk l (.loop lp) :: (blk D (.deferred (some [])) :: M) = (Y ++ [blk l (.loop lp), blk D (.deferred (some []))]) ++ M := by simp
        rw [this]
        exact .close _ _
      have hW1 := hW.perm (hp1 _ _)
      have hW2 := hW1.perm (hpf _ _)
      have hlp := (hW2.blk List.mem_cons_self).1
      have hal := hlen args (List.mem_of_getElem? hx)
      have hy := run_yield (P := P) (args := args.toArray) hlp (by rw [hrec]; simp [hal])
      rw [hrec] at hy
      refine ⟨fn, _, assign, body, hy, roundIn_of_wpIn trivial ?_⟩
      have hfit := fits_put ps args a.tmps env ha.size (fun s v h => ha.slot s v h) hps hal.symm
      have hz : (ps.toArray.zip args.toArray).foldl (fun t (x : Nat × Value) => t.setIfInBounds x.1 x.2) a.tmps = (ps.zip args).foldl (fun t (x : Nat × Value) => t.setIfInBounds x.1 x.2) a.tmps := by
        rw [← Array.foldl_toList]; simp
      have hva := (hround l i args (many (Y ++ [blk l (.loop (rec .ready none)), blk D (.deferred (some []))])) x hx hI).run
        { tmps := (ps.toArray.zip args.toArray).foldl (fun t (x : Nat × Value) => t.setIfInBounds x.1 x.2) a.tmps, defers := [] } W ⟨rfl, by rw [hz]; exact hfit.1, fun s v h => by rw [hz]; exact hfit.2 s v h⟩ hW1
      refine wpIn_mono (hva (by rintro ⟨_, _, h⟩; exact h) hca) ?_
      intro e a1 w1 hq
      cases e with
      | normal =>
        obtain ⟨K, hK, hbody⟩ := hq
        have hK2 := hK.perm (hpf _ _)
        have hlp2 := (hK2.blk List.mem_cons_self).1
        refine ⟨_, run_beginRound hlp2 (by rw [hrec]), ?_⟩
        have hK3 := (hK2.putObj (o' := .loop { rec .ready none with state := .busy }) (.here _)).perm (hpb _ _)
        have hvb := hbody _ _ hK3
        refine wpIn_mono (hvb (by rintro ⟨_, _, h⟩; exact h) hcb) ?_
        intro e a3 w3 hq3
        have fin : ∀ (jp : Option Code) (M : List HP), St B w0 (many (Y ++ [blk l (.loop { rec .ready none with state := .busy }), blk D (.deferred (some []))]) :: (M ++ HI)) w3 →
            ∃ w4, (Instr.endRound l jp).run P w3 = .ok (.bool jp.isNone) w4 ∧ St B w0 (Y ++ many (blk l (.loop (rec (if jp.isNone then .ready else .done) jp)) :: blk D (.deferred (some [])) :: M) :: HI) w4 := fun jp M h3 => by
          have h4 := h3.perm (hpf _ _)
          have h5 := (h4.blk List.mem_cons_self).1
          have h6 := run_endRound (P := P) jp h5
          refine ⟨_, h6, ?_⟩
          have h7 := ((h4.putObj (o' := .loop (rec (if jp.isNone then .ready else .done) jp)) (.here _)).perm (hpb _ _)).perm (hp2 _ _)
          rw [hrec] at h7 ⊢
          exact h7
        cases e with
        | normal =>
          obtain ⟨y, hIy, h3⟩ := hq3
          obtain ⟨w4, h5, h6⟩ := fin none _ h3
          exact ⟨_, w4, h5, .inl ⟨rfl, _, ⟨_, ⟨y, hIy, rfl⟩, rfl⟩, h6⟩⟩
        | ret =>
          obtain ⟨K3, hX3, h3⟩ := hq3
          obtain ⟨w4, h5, h6⟩ := fin (some .ret) _ h3
          exact ⟨_, w4, h5, .inr ⟨rfl, _, ⟨_, ⟨.ret, K3, .ret, hX3, rfl, rfl⟩, rfl⟩, h6⟩⟩
        | exit id =>
          obtain ⟨K3, hX3, h3⟩ := hq3
          obtain ⟨w4, h5, h6⟩ := fin (some (.exit id)) _ h3
          exact ⟨_, w4, h5, .inr ⟨rfl, _, ⟨_, ⟨.exit id, K3, .exit id, hX3, rfl, rfl⟩, rfl⟩, h6⟩⟩
        | goto t => exact hq3.elim
        | panic ch => exact hq3.elim
        | outgrown => exact hq3.elim
      | ret => exact hq
      | exit id => exact hq
      | goto t => exact hq
      | panic ch => exact hq
      | outgrown => exact hq
    · -- behind the iterator
      rintro e W2 ⟨v, K, rfl, hst2, hK⟩
      have hpn : ∀ st pe, (rec st pe).pending = pe := fun st pe => by rw [hrec]
      have hds : ∀ {M : List HP} {w' : World}, St B w0 M w' → Fits ⟨k, ⟨.collected D, #[]⟩ :: ds, none⟩ { a with defers := [⟨.collected D, #[]⟩] ++ a.defers } env := fun _ =>
        ⟨by rw [ha.defers]; rfl, ha.size, ha.slot⟩
      rcases hK with ⟨L, ⟨x, hI, rfl⟩, rfl⟩ | ⟨L, ⟨e, K, c, hX, hj, rfl⟩, rfl⟩
      · have h1 := hst2.perm (.open_ _ _)
        have h2 := (h1.blk List.mem_cons_self).1
        have h3 := run_endLoop (P := P) h2 (by rw [hrec]; simp)
        have h4 := (h1.putObj (o' := .loop { rec .ready none with state := .exhausted }) (.here _)).tail
        refine ⟨none, _, h3.trans (congrArg (fun j => Result.ok j _) (hpn _ _)), ?_⟩
        exact (hdone D x hI).run _ _ (hds h4) h4
      · have h1 := hst2.perm (.open_ _ _)
        have h2 := (h1.blk List.mem_cons_self).1
        have h3 := run_endLoop (P := P) h2 (by rw [hrec]; simp)
        have h4 := (h1.putObj (o' := .loop { rec .done (some c) with state := .exhausted }) (.here _)).tail
        refine ⟨some c, _, h3.trans (congrArg (fun j => Result.ok j _) (hpn _ _)), ?_⟩
        have h5 := (hstop D e K hX (by rw [hj]; rfl)).run _ _ (hds h4) h4
        cases e with
        | ret => obtain rfl := Option.some.inj hj; exact wpIn_ret h5
        | exit id => obtain rfl := Option.some.inj hj; exact wpIn_exit h5
        | normal => cases hj
        | goto t => cases hj
        | panic ch => cases hj
        | outgrown => cases hj

/-! ### Functions that hold such a loop -/
theorem Calls_of_VCm {n : Nat} {f : FuncId} {fn : Func} {c : Code} {args : List Value} {w : World} {Φ : Value → List HP → Prop} (hf : P.funcs[f]? = some fn) (hn : fn.ntmps = n) (hb : fn.body = some c)
    (hle : Nat.ble args.length n = true) (hw : St B w0 H w) (h : VC P ⟨n, [], none⟩ B w0 c (bodyPostM Fence.wide 0 P fn (Post B w0 Φ)) (argEnv 0 args) H) : Calls P f args.toArray w (Post B w0 Φ) := by
  refine (callsIn_wide (n := 0)).1 (callsIn_of_wp_marks hf hb trivial ((wpIn_wide (n := 0)).2 (h.run _ w ⟨rfl, ?_, fun t v ht => ?_⟩ hw)))
  · have := Nat.le_of_ble_eq_true hle; simp; omega
  · obtain ⟨_, h2⟩ := get_argEnv args 0 t v ht
    rw [Nat.sub_zero] at h2
    have hlt : t < args.length := by
      rcases Nat.lt_or_ge t args.length with h | h
      · exact h
      · rw [List.getElem?_eq_none h] at h2; cases h2
    rw [Array.getElem?_append_left (by simpa using hlt)]
    simpa using h2
theorem leavesM_ret {fn : Func} {R : Ending → World → Prop} {a : Act} {w : World} (h : bodyPost P fn R .ret a w) : bodyPostM Fence.wide 0 P fn R .ret a w := by
  obtain ⟨h1, h2⟩ := h
  show LeavesInM Fence.wide 0 P fn a.tmps R a.defers .returning w
  rw [h1]
  exact h2
theorem VQ_m {n : Nat} {fn : Func} {R : Ending → World → Prop} (h : VQ ⟨n, [], none⟩ B w0 (bodyPost P fn R) .ret env H) : VQ ⟨n, [], none⟩ B w0 (bodyPostM Fence.wide 0 P fn R) .ret env H :=
  ⟨fun a w ha hw => leavesM_ret (h.run a w ha hw)⟩
/-- The mark of a loop behind which no deferred call was collected. -/
theorem VQ_mark {n D : Nat} {ds : List Deferred} {fn : Func} {R : Ending → World → Prop} {H' : List HP} (hr : Rem (blk D (.deferred (some []))) H H') (h : VQ ⟨n, ds, none⟩ B w0 (bodyPostM Fence.wide 0 P fn R) .ret env H') :
    VQ ⟨n, ⟨.collected D, #[]⟩ :: ds, none⟩ B w0 (bodyPostM Fence.wide 0 P fn R) .ret env H := by
  refine ⟨fun a w ha hw => ?_⟩
  show LeavesInM Fence.wide 0 P fn a.tmps R a.defers .returning w
  rw [ha.defers]
  have hw2 := hw.perm hr
  have hb := (hw2.blk List.mem_cons_self).1
  refine ⟨by simp, .inl ⟨D, _, rfl, run_takeDeferred hb, ?_⟩⟩
  have h3 := (hw2.putObj (o' := .deferred none) (.here _)).tail
  exact h.run { a with defers := ds } _ ⟨rfl, ha.size, ha.slot⟩ h3

/-! ### The iterator's own call of yield -/
theorem listW_of {ops : Array Oper} (hlo : ¬ LetsOut Q) : ∀ (os : List Oper) (a : Act) (w : World), wpList P ops Q os a w → wpListIn Fence.wide 0 P ops Q os a w
  | [], _, _, h => h
  | o :: os, a, w, h => by
    unfold wpList at h
    unfold wpListIn
    split
    · rename_i hw
      rw [if_pos hw] at h
      rcases h with h | ⟨_, h⟩
      · refine ⟨fun f _ => trivial, ?_⟩
        have h2 := Oper.wp_mono (fun a w h => listW_of hlo os a w h) h
        unfold Oper.wp at h2
        have hs : Oper.semAt Fence.wide.round a.eval o = execOp a.eval o := Oper.semAt_none _ _
        rw [hs]
        generalize (execOp a.eval o).run P w = res at h2 ⊢
        cases res with
        | ok x w' =>
          cases x <;> simp only [Oper.upon, Oper.uponIn] at h2 ⊢ <;> first
            | exact h2
            | (refine ⟨fun hd => by simp [Fence.wide] at hd, ?_⟩
               refine CallsIn.mono (callsIn_wide.2 h2) fun e w'' he => ?_
               cases e <;> exact he)
            | (refine ⟨fun hd => by simp [Fence.wide] at hd, fun c cs _ => ?_⟩
               obtain ⟨v, w2, k1, k2⟩ := h2 c cs
               exact ⟨v, w2, k1, stepsIn_wide.2 k2⟩)
            | exact h2.elim
        | halt x w' => cases x <;> simp only [Oper.upon, Oper.uponIn] at h2 ⊢ <;> first | exact h2 | exact h2.elim
      · exact (hlo h).elim
    · rename_i hw
      rw [if_neg hw] at h
      exact ⟨fun f _ => trivial, listW_of hlo os _ w h⟩
/-- What is still to come of a region, where yield may be called. -/
def YQ (P : Program) (ops : Array Oper) (Q : Exit → Act → World → Prop) (l : List Oper) : Exit → Act → World → Prop
  | .normal, a, w => wpListIn Fence.wide 0 P ops Q l a w
  | e, a, w => Q e a w
theorem listY_of {ops : Array Oper} {l : List Oper} (hlo : ¬ LetsOut Q) : ∀ (os : List Oper) (a : Act) (w : World), wpList P ops (YQ P ops Q l) os a w → wpListIn Fence.wide 0 P ops Q (os ++ l) a w
  | [], _, _, h => h
  | o :: os, a, w, h => by
    unfold wpList at h
    rw [List.cons_append]
    unfold wpListIn
    split
    · rename_i hw
      rw [if_pos hw] at h
      rcases h with h | ⟨_, h⟩
      · refine ⟨fun f _ => trivial, ?_⟩
        have h2 := Oper.wp_mono (fun a w h => listY_of hlo os a w h) h
        unfold Oper.wp at h2
        have hs : Oper.semAt Fence.wide.round a.eval o = execOp a.eval o := Oper.semAt_none _ _
        rw [hs]
        generalize (execOp a.eval o).run P w = res at h2 ⊢
        cases res with
        | ok x w' =>
          cases x <;> simp only [Oper.upon, Oper.uponIn] at h2 ⊢ <;> first
            | exact h2
            | (refine ⟨fun hd => by simp [Fence.wide] at hd, ?_⟩
               refine CallsIn.mono (callsIn_wide.2 h2) fun e w'' he => ?_
               cases e <;> exact he)
            | (refine ⟨fun hd => by simp [Fence.wide] at hd, fun c cs _ => ?_⟩
               obtain ⟨v, w2, k1, k2⟩ := h2 c cs
               exact ⟨v, w2, k1, stepsIn_wide.2 k2⟩)
            | exact h2.elim
        | halt x w' => cases x <;> simp only [Oper.upon, Oper.uponIn] at h2 ⊢ <;> first | exact h2 | exact h2.elim
      · exact (hlo h).elim
    · rename_i hw
      rw [if_neg hw] at h
      exact ⟨fun f _ => trivial, listY_of hlo os _ w h⟩
/-- A region whose k-th operation calls yield. -/
theorem VC_regionY {n : Nat} {ds : List Deferred} {id : Nat} {l : List Oper} (k : Nat) {l1 l2 : List Oper} (h1 : l.take k = l1) (h2 : l.drop k = l2) (hlo : ¬ LetsOut Q) (h : VL P none ⟨n, ds, none⟩ B w0 l.toArray (YQ P l.toArray Q l2) l1 env H) :
    VC P ⟨n, ds, none⟩ B w0 (.region id l.toArray false) Q env H := by
  refine ⟨fun a w ha hw => ?_⟩
  refine (wpIn_wide (n := 0)).1 (wpIn_region_lit ?_)
  have := listY_of hlo _ _ _ (h.run a ha w hw)
  rw [← h1, ← h2, List.take_append_drop] at this
  exact this
theorem VQ_yield {n : Nat} {ds : List Deferred} {ops : Array Oper} {d l : Nat} {x : Operand} {args : List Operand} {tys : Array TypeId} {ty : TypeId} {pos : String} {after : Array Edge} {gd : Option (Nat × Bool)} {vs : List Value} {rest : List Oper} (Φt Φf : List HP → Prop)
    (hgd : ∀ a : Act, Fits ⟨n, ds, none⟩ a env → Region.wanted ⟨some d, .call ⟨.value x, args.toArray, tys⟩, ty, pos, after, gd⟩ (yielded ops a.tmps) = true)
    (hx : evo env x = some (.func (.yield l) #[] #[])) (hargs : Args env args vs) (hn : Nat.ble (d + 1) n = true) (hlo : ¬ LetsOut Q) (hy : YieldS P l vs B w0 H Φt Φf)
    (ht : ∀ K, Φt K → VL P none ⟨n, ds, none⟩ B w0 ops Q rest ((d, .bool true) :: env) K)
    (hf : ∀ K, Φf K → VL P none ⟨n, ds, none⟩ B w0 ops Q rest ((d, .bool false) :: env) K) :
    VQ ⟨n, ds, none⟩ B w0 (YQ P ops Q (⟨some d, .call ⟨.value x, args.toArray, tys⟩, ty, pos, after, gd⟩ :: rest)) .normal env H := by
  refine ⟨fun a w ha hw => ?_⟩
  show wpListIn Fence.wide 0 P ops Q _ a w
  unfold wpListIn
  rw [if_pos (hgd a ha)]
  refine ⟨fun f _ => trivial, ?_⟩
  obtain ⟨fn, tmps, assign, body, hrun, hround⟩ := hy w hw
  have hmap : args.toArray.map a.eval = vs.toArray := by rw [List.map_toArray, map_evo ha _ _ hargs]
  have hs : Oper.semAt Fence.wide.round a.eval ⟨some d, .call ⟨.value x, args.toArray, tys⟩, ty, pos, after, gd⟩ = execOp a.eval ⟨some d, .call ⟨.value x, args.toArray, tys⟩, ty, pos, after, gd⟩ := Oper.semAt_none _ _
  rw [hs]
  have hex : (execOp a.eval ⟨some d, .call ⟨.value x, args.toArray, tys⟩, ty, pos, after, gd⟩).run P w = .ok (.round l fn tmps assign body) w := by
    simp only [execOp, resolve, ha.eval hx, hmap, Deferred.ofValue, Sem.run_bind, Sem.run_pure, Result.andThen_ok, invoke]
    simpa using hrun
  rw [hex, Oper.uponIn_round]
  refine ⟨fun hd => by simp [Fence.wide] at hd, RoundIn.mono hround ?_⟩
  rintro e w' (⟨rfl, K', hΦ, hst⟩ | ⟨rfl, K', hΦ, hst⟩)
  · exact listW_of hlo _ _ _ ((ht K' hΦ).run _ (ha.put (Nat.le_of_ble_eq_true hn) _) _ hst)
  · exact listW_of hlo _ _ _ ((hf K' hΦ).run _ (ha.put (Nat.le_of_ble_eq_true hn) _) _ hst)
/-- The same operation, walked as any other (where it is not wanted). -/
theorem VQ_ylist {n : Nat} {ds : List Deferred} {ops : Array Oper} {o : Oper} {rest : List Oper} (hlo : ¬ LetsOut Q) (h : VL P none ⟨n, ds, none⟩ B w0 ops Q (o :: rest) env H) : VQ ⟨n, ds, none⟩ B w0 (YQ P ops Q (o :: rest)) .normal env H :=
  ⟨fun a w ha hw => listW_of hlo _ _ _ (h.run a ha w hw)⟩
theorem wanted_some {n : Nat} {ds : List Deferred} {ops : Array Oper} {dst : Option Tmp} {op : Op} {ty : TypeId} {pos : String} {after : Array Edge} {j s : Nat} {b : Bool} {oj : Oper} (hj : ops[j]? = some oj) (hs : oj.dst = some s) (hv : get env s = some (.bool b)) :
    ∀ a : Act, Fits ⟨n, ds, none⟩ a env → Region.wanted ⟨dst, op, ty, pos, after, some (j, b)⟩ (yielded ops a.tmps) = true := fun a ha => by simp [Region.wanted, yielded, hj, hs, ha.slot s _ hv]
/-- How an iterator's contract is shown: its body's walk. -/
theorem IterS_of {n gf : Nat} {fn : Func} {c : Code} {lb : List Value} {xs : List (List Value)} {HI : List HP} (hf : P.funcs[gf]? = some fn) (hn : fn.ntmps = n) (hb : fn.body = some c) (hle : Nat.ble (lb.length + 1) n = true)
    (h : ∀ (l : Nat) (S : Nat → List HP → Prop) (X : List HP → Prop),
      (∀ (i : Nat) (args : List Value), xs[i]? = some args → ∀ (Y L : List HP), S i L →
        YieldS P l args B w0 (Y ++ many L :: HI) (fun K => ∃ L', S (i + 1) L' ∧ K = Y ++ many L' :: HI) (fun K => ∃ L', X L' ∧ K = Y ++ many L' :: HI)) →
      ∀ L0, S 0 L0 → VC P ⟨n, [], none⟩ B w0 c (bodyPost P fn (Post B w0 fun _ K => (∃ L, S xs.length L ∧ K = many L :: HI) ∨ ∃ L, X L ∧ K = many L :: HI)) (argEnv 0 (.func (.yield l) #[] #[] :: lb)) (many L0 :: HI)) : IterS P gf lb xs B w0 HI := by
  intro l S X hy L0 h0 w hw
  exact callsIn_wide.2 (Calls_of_VC (args := .func (.yield l) #[] #[] :: lb) hf hn hb hle hw (h l S X hy L0 h0))
end
end Go.Eng

/- An engine for walks, part 24: a whole array as a slice. -/
namespace Go.Eng
open Go.RowKit
section
variable {P : Program} {m : Mode} {n : Shp} {B : Nat} {w0 : World} {ops : Array Oper} {Q : Exit → Act → World → Prop} {rest : List Oper} {env : Env} {H : List HP} {d : Nat} {ty : TypeId} {pos : String} {after : Array Edge}
/-- All elements of an array, as a slice. -/
theorem VL_slice_all (T : Tab P) {t g o k e size : Nat} {x : Operand} (hx : evo env x = some (.pointer (some ⟨g, o, none⟩))) (ht : look T.ar t = some (k, e, size)) (hn : Nat.ble (d + 1) n.k = true)
    (h : VL P m n B w0 ops Q rest ((d, .slice (some ⟨g, o, none⟩) k k) :: env) H) :
    VL P m n B w0 ops Q (⟨some d, .slice t x none none none, ty, pos, after, none⟩ :: rest) env H := by
  obtain ⟨inf, hu, hinf, hs⟩ := arrayT_spec (T.arra ht)
  refine VL_pure rfl rfl hn rfl (fun a w ha hw => ?_) h
  simp [execOp, ha.eval hx, Instr.sliceAt, Instr.sliceBounds, Instr.sureAddr, run_underlying hu, sizeOf, typeInfo, hinf, Addr.add_lit]
theorem app_niln : ∀ (L : List HP), App L [] L
  | [] => rfl
  | _ :: L => ⟨rfl, app_niln L⟩
end
end Go.Eng

/- An engine for walks, part 25: calls that only see older memory; strings.Builder as a piece. -/
namespace Go.Eng
open Go.RowKit
section
variable {P : Program} {B : Nat} {w0 w : World} {H : List HP}
/-- A call that is walked from its own start: what is there already stays. -/
theorem calls_inner {f : Nat} {xs : Array Value} {Φ : Value → Prop} (hw : St B w0 H w) (h : Calls P f xs w (Post w.heap.size w fun u _ => Φ u)) : Calls P f xs w (Post B w0 fun u K => Φ u ∧ K = H) :=
  h.mono fun _ _ ⟨u, _, e1, hst, hΦ⟩ => ⟨u, H, e1, hw.grow hst.below, hΦ, rfl⟩
theorem calls_grow {f : Nat} {xs : Array Value} {u : Value} (hw : St B w0 H w) (h : Calls P f xs w fun e w' => e = .returned u ∧ Below w.heap.size w w') : Calls P f xs w (Post B w0 fun v K => v = u ∧ K = H) :=
  h.mono fun _ _ ⟨e1, hb⟩ => ⟨u, H, e1, hw.grow hb, rfl, rfl⟩
theorem Rd.here {A : Option Addr} {xs : List Value} (hr : Rd B w0 H A xs) (hw : St B w0 H w) : Rd w.heap.size w [] A xs := Rd.old fun j v hv => by
  obtain ⟨g, o, e1, hc⟩ := hr w hw j v hv
  refine ⟨g, o, e1, ?_, hc⟩
  rcases Nat.lt_or_ge g w.heap.size with h | h
  · exact h
  · simp [World.cell?, Array.getElem?_eq_none h] at hc

theorem Perm.openT (H : List HP) : Perm [many H] H := by
  have := Perm.open_ H []
  rwa [List.append_nil] at this
theorem Perm.closeT (H : List HP) : Perm H [many H] := by
  have := Perm.close H []
  rwa [List.append_nil] at this
theorem Rd.tail {A : Option Addr} {xs : List Value} (h : Rd B w0 H A xs) : Rd B w0 [many H] A xs := h.mono fun _ hw => hw.perm (.openT _)

end
end Go.Eng

/- An engine for walks, part 26: a string's bytes appended; pointers seen as plain addresses. -/
namespace Go.Eng
open Go.RowKit
theorem append_str_at {P : Program} (w : World) (t u ty e : TypeId) (i : TypeInfo) (ht : P.underlying t = some (.slice e)) (hu : P.underlying u = some .string) (hi : P.info? e = some i) (hz : i.zero = some (.int .u8 0))
    (hsize : i.size = 1) (hby : i.bytes = 1) (v : Value) (n : Nat) (xs : List Value) (hown : w.ownsRow 0 e 1 v n xs) (s : ByteArray) (hb : n + s.size ≤ 1000000000) :
    ∃ v' w', (Builtin.append_ #[t, u] ty #[v, .string s]).run P w = .ok v' w' ∧ w'.ownsRow 0 e 1 v' (n + s.size) (xs ++ Lib.strCells s) ∧ w.grownBy w' v.ownBlock ∧ ∀ b, v'.ownBlock = some b → v.ownBlock = some b ∨ w.heap.size ≤ b := by
  have hm : n + s.size ≤ maxLen := by simp only [maxLen]; omega
  obtain ⟨v', w', h1, h2, h3, _⟩ := Lib.run_append_own_string (P := P) w 0 t u ty e i ht hu hi hz hsize hby v n xs hown s hm (by omega) (Nat.zero_le _)
  refine ⟨v', w', h1, h2, h3, fun b hbb => ?_⟩
  rcases hown.2 with ⟨rfl, rfl⟩ | ⟨g, cap, cur, rfl, hbg, hg, hnc, hcm, hcs, htake⟩
  · right
    obtain ⟨v2, w2, k1, k2, _⟩ := Lib.run_append_own_string (P := P) w w.heap.size t u ty e i ht hu hi hz hsize hby (.slice none 0 0) 0 xs ⟨hown.1, .inl ⟨rfl, rfl⟩⟩ s hm (by omega) (Nat.le_refl _)
    rw [h1] at k1
    obtain ⟨rfl, rfl⟩ : v' = v2 ∧ w' = w2 := by simpa using k1
    rcases k2.2 with ⟨e1, _⟩ | ⟨g', _, _, e1, e2, _⟩
    · rw [e1] at hbb; cases hbb
    · rw [e1] at hbb
      simp only [Value.ownBlock, Option.some.injEq] at hbb
      omega
  · have hcs' : cur.size = cap := by simpa using hcs
    have hxl : xs.length = n := by simpa using hown.1
    by_cases hroom : n + s.size ≤ cap
    · have k1 := Lib.run_append_room_string (P := P) w t u ty e i ht hu hi hsize g n cap cur hg s hroom (by omega)
      rw [h1] at k1
      obtain ⟨rfl, _⟩ := (Result.ok.injEq _ _ _ _).mp k1
      exact .inl hbb
    · have holds : ∀ j u, xs[j]? = some u → w.cell? ((⟨g, 0, none⟩ : Addr).add j) = some u := hown.cells (g := g) rfl
      have k1 := Lib.run_append_grow_string (P := P) w t u ty e i (.int .u8 0) ht hu hi hz ⟨g, 0, none⟩ n cap xs (by rw [hsize]; simpa using hxl) holds s (by omega) (by omega) (by rw [hby]; exact growslice_fits (by omega) (by omega))
      rw [h1] at k1
      obtain ⟨rfl, _⟩ := (Result.ok.injEq _ _ _ _).mp k1
      right
      simp only [Value.ownBlock, Option.some.injEq] at hbb
      omega
section
variable {P : Program} {m : Mode} {n : Shp} {B d : Nat} {w0 : World} {ops : Array Oper} {Q : Exit → Act → World → Prop} {rest : List Oper} {env : Env} {H : List HP} {ty : TypeId} {pos : String} {after : Array Edge} {x y : Operand}
def byteInfo (P : Program) (e : TypeId) : Bool := match P.info? e with | some i => (match i.zero with | some (.int .u8 0) => true | _ => false) && i.size == 1 && i.bytes == 1 | none => false
theorem byteInfo_spec {e : TypeId} (h : byteInfo P e = true) : ∃ i, P.info? e = some i ∧ i.zero = some (.int .u8 0) ∧ i.size = 1 ∧ i.bytes = 1 := by
  unfold byteInfo at h
  split at h
  · rename_i i hi
    simp only [Bool.and_eq_true, beq_iff_eq] at h
    refine ⟨i, hi, ?_, h.1.2, h.2⟩
    have h1 := h.1.1
    split at h1
    · assumption
    · cases h1
  · cases h
/-- append(x, s...): a string's bytes behind a row of one's own. -/
theorem VL_appendStr (T : Tab P) {t tt k cap e bytes : Nat} {A : Option Addr} {s : ByteArray} {xs : List Value} {K : Option Addr → Nat → List HP} (hx : evo env x = some (.slice A k cap)) (hy : evo env y = some (.string s)) (ht : look T.sl t = some (e, 1, bytes)) (hbi : byteInfo P e = true) (htt : look T.st tt = some ())
    (hn : Nat.ble (d + 1) n.k = true) (hu : ∀ A' cap', Upd (sl e 1 A k cap xs) (sl e 1 A' (k + s.size) cap' (xs ++ Lib.strCells s)) H (K A' cap')) (hb : k + s.size ≤ 1000000000)
    (h : ∀ A' cap', VL P none n B w0 ops Q rest ((d, .slice A' (k + s.size) cap') :: env) (K A' cap')) :
    VL P none n B w0 ops Q (⟨some d, .call ⟨.builtin .append, #[x, y], #[t, tt]⟩, ty, pos, after, none⟩ :: rest) env H := by
  obtain ⟨hut, _⟩ := sliceT_spec (T.slic ht)
  obtain ⟨i, hi, hz, hs1, hb1⟩ := byteInfo_spec hbi
  have hst : P.underlying tt = some .string := T.strs htt
  refine VL_opE (fun v K' => ∃ A' cap', v = .slice A' (k + s.size) cap' ∧ K' = K A' cap') rfl rfl hn (fun a w ha hw => ?_) (by rintro _ _ ⟨A', cap', rfl, rfl⟩; exact h A' cap')
  have hmem : sl e 1 A k cap xs ∈ H := by
    obtain ⟨L1, L2, rfl, _⟩ := hu none 0
    simp
  have hown := hw.sl hmem
  obtain ⟨v', w', hrun, hown', hgrow, hat⟩ := append_str_at (P := P) w t tt ty e i hut hst hi hz hs1 hb1 (.slice A k cap) k xs hown s hb
  have hshape : ∃ A' cap', v' = .slice A' (k + s.size) cap' := by
    rcases hown'.2 with ⟨e1, e2⟩ | ⟨g', c', _, e1, _⟩
    · exact ⟨none, 0, by rw [e1, e2]⟩
    · exact ⟨_, _, e1⟩
  obtain ⟨A', cap', rfl⟩ := hshape
  refine ⟨_, K A' cap', w', by simp [execOp, resolve, invoke, builtin, ha.eval hx, ha.eval hy, hrun], ?_, A', cap', rfl, rfl⟩
  refine hw.updN (hu A' cap') hgrow.os hgrow.tape hgrow.output hgrow.size fun S1 ⟨_, hS⟩ => ⟨⟨fun b => Value.ownBlock (.slice A' (k + s.size) cap') = some b, ⟨hown', ?_⟩, fun b hb => ?_⟩, fun b hb hlt => hgrow.block b hlt (fun e => hb ?_)⟩
  · rintro a rfl; rfl
  · rcases hat b hb with e | e
    · cases A with
      | none => cases e
      | some a => left; simp only [Value.ownBlock, Option.some.injEq] at e; rw [← e]; exact hS a rfl
    · right
      refine ⟨e, ?_⟩
      rcases hown'.2 with ⟨e1, _⟩ | ⟨g', _, _, e1, _, e3, _⟩
      · rw [e1] at hb; cases hb
      · rw [e1] at hb
        simp only [Value.ownBlock, Option.some.injEq] at hb
        subst hb
        exact (Array.getElem?_eq_some_iff.1 e3).1
  · cases A with
    | none => cases e
    | some a => simp only [Value.ownBlock, Option.some.injEq] at e; rw [e]; exact hS a rfl
end
end Go.Eng

/-
  DERIVED: THE SHELF's CONTRACTS AT THIS DUMP, IN PLAIN WORDS (tools/lay-plain.mjs out of 'TryzShelf.lean', which tools/lay-shelf.mjs wrote): THE SAME DECLARATIONS UNDER THE SAME NAMES: 'import', 'namespace', 'open', 'def', 'theorem' AND NOTHING ELSE: no command of the shelf's: FOR A HAND-IN. Each laying: the table of numbers ('.._ren') and one theorem, a field a fact of the dump's own or the kernel's comparison; each contract: ONE APPLICATION.
-/
namespace Go.Proofs
open Go.Shelf
def Tryz.lays169_ren : Go.Shelf.Ren := ⟨fun | 169 => 57 | n => n, fun | 70 => 80 | 9 => 9 | 0 => 0 | 72 => 83 | 37 => 81 | 127 => 120 | 3 => 3 | 5 => 5 | n => n, fun | n => n⟩
theorem Tryz.lays169 : Go.Proofs.Lays.n169 Tryz.prog Tryz.lays169_ren := {
  mixed := by kernel_rfl
  f169 := Tryz.func57.trans (congrArg some (by kernel_rfl))
  t0 := Tryz.underlying0
  a0 := Tryz.isAgg0
  z0 := Tryz.sizeOf0
  v0 := Tryz.zeroValue0
  t3 := Tryz.underlying3
  a3 := Tryz.isAgg3
  z3 := Tryz.sizeOf3
  v3 := Tryz.zeroValue3
  t9 := Tryz.underlying9
  a9 := Tryz.isAgg9
  z9 := Tryz.sizeOf9
  v9 := Tryz.zeroValue9
  t37 := Tryz.underlying81
  a37 := Tryz.isAgg81
  z37 := Tryz.sizeOf81
  v37 := Tryz.zeroValue81
  t70 := Tryz.underlying80
  a70 := Tryz.isAgg80
  z70 := Tryz.sizeOf80
  v70 := Tryz.zeroValue80
  t72 := Tryz.underlying83
  a72 := Tryz.isAgg83
  z72 := Tryz.sizeOf83
  v72 := Tryz.zeroValue83
  t127 := Tryz.underlying120
  a127 := Tryz.isAgg120
  z127 := Tryz.sizeOf120
  v127 := Tryz.zeroValue120 }
theorem Tryz.Builder_Extra_169 : Builder.Extra Tryz.prog Tryz.lays169_ren := {
  sizeBuilder := by kernel_rfl
  liesBuilder := by kernel_rfl
  t5 := Tryz.underlying5
  a5 := Tryz.isAgg5
  z5 := Tryz.sizeOf5
  v5 := Tryz.zeroValue5
  infoByte := by kernel_rfl
  cellsByte := by kernel_rfl
  sizeByte := by kernel_rfl
  neB5 := by decide }
open Go.RowKit in
/-- (*strings.Builder).String: "String returns the accumulated string.": WHATEVER THE BUILDER HOLDS. (LAID: no walk: one application.) -/
theorem Tryz.Builder_String_any (B b : Nat) (l : List UInt8) (w : World) (h : Lib.IsBuilder 83 5 B b (Lib.byteCells l) w) (hBw : B ≤ w.heap.size) :
    Calls Tryz.prog 57 #[.pointer (some ⟨b, 0, none⟩)] w fun e w' => e = .returned (.string ⟨l.toArray⟩) ∧ Below B w w' := Any.Builder_String_any Tryz.lays169 Tryz.Builder_Extra_169 B b l w h hBw
def Tryz.laysM171_ren : Go.Shelf.Ren := ⟨fun | 171 => 96 | 243 => 133 | 246 => 149 | 283 => 161 | 284 => 162 | 285 => 163 | 286 => 164 | 129 => 174 | 317 => 173 | 318 => 175 | 319 => 176 | 320 => 177 | 337 => 182 | 338 => 183 | n => n, fun | 3 => 3 | 9 => 9 | 2 => 2 | 4 => 4 | 171 => 161 | 0 => 0 | 53 => 162 | 37 => 81 | 5 => 5 | 173 => 165 | 212 => 175 | 51 => 176 | 20 => 20 | 213 => 177 | 46 => 125 | 232 => 191 | 233 => 192 | n => n, fun | 17 => 3 | 18 => 6 | 19 => 7 | n => n⟩
theorem Tryz.laysM171 : Go.Proofs.LaysM.n171 Tryz.prog Tryz.laysM171_ren := {
  mixed := by kernel_rfl
  f129 := Tryz.func174.trans (congrArg some (by kernel_rfl))
  f171 := Tryz.func96.trans (congrArg some (by kernel_rfl))
  f243 := Tryz.func133.trans (congrArg some (by kernel_rfl))
  f246 := Tryz.func149.trans (congrArg some (by kernel_rfl))
  f283 := Tryz.func161.trans (congrArg some (by kernel_rfl))
  f284 := Tryz.func162.trans (congrArg some (by kernel_rfl))
  f285 := Tryz.func163.trans (congrArg some (by kernel_rfl))
  f286 := Tryz.func164.trans (congrArg some (by kernel_rfl))
  f317 := Tryz.func173.trans (congrArg some (by kernel_rfl))
  f318 := Tryz.func175.trans (congrArg some (by kernel_rfl))
  f319 := Tryz.func176.trans (congrArg some (by kernel_rfl))
  f320 := Tryz.func177.trans (congrArg some (by kernel_rfl))
  f337 := Tryz.func182.trans (congrArg some (by kernel_rfl))
  f338 := Tryz.func183.trans (congrArg some (by kernel_rfl))
  t0 := Tryz.underlying0
  a0 := Tryz.isAgg0
  z0 := Tryz.sizeOf0
  v0 := Tryz.zeroValue0
  t2 := Tryz.underlying2
  a2 := Tryz.isAgg2
  z2 := Tryz.sizeOf2
  v2 := Tryz.zeroValue2
  t3 := Tryz.underlying3
  a3 := Tryz.isAgg3
  z3 := Tryz.sizeOf3
  v3 := Tryz.zeroValue3
  t4 := Tryz.underlying4
  a4 := Tryz.isAgg4
  z4 := Tryz.sizeOf4
  v4 := Tryz.zeroValue4
  t5 := Tryz.underlying5
  a5 := Tryz.isAgg5
  z5 := Tryz.sizeOf5
  v5 := Tryz.zeroValue5
  t9 := Tryz.underlying9
  a9 := Tryz.isAgg9
  z9 := Tryz.sizeOf9
  v9 := Tryz.zeroValue9
  t20 := Tryz.underlying20
  a20 := Tryz.isAgg20
  z20 := Tryz.sizeOf20
  v20 := Tryz.zeroValue20
  t37 := Tryz.underlying81
  a37 := Tryz.isAgg81
  z37 := Tryz.sizeOf81
  v37 := Tryz.zeroValue81
  t46 := Tryz.underlying125
  a46 := Tryz.isAgg125
  z46 := Tryz.sizeOf125
  v46 := Tryz.zeroValue125
  t51 := Tryz.underlying176
  a51 := Tryz.isAgg176
  z51 := Tryz.sizeOf176
  v51 := Tryz.zeroValue176
  t53 := Tryz.underlying162
  a53 := Tryz.isAgg162
  z53 := Tryz.sizeOf162
  v53 := Tryz.zeroValue162
  t171 := Tryz.underlying161
  a171 := Tryz.isAgg161
  z171 := Tryz.sizeOf161
  v171 := Tryz.zeroValue161
  t173 := Tryz.underlying165
  a173 := Tryz.isAgg165
  z173 := Tryz.sizeOf165
  v173 := Tryz.zeroValue165
  t212 := Tryz.underlying175
  a212 := Tryz.isAgg175
  z212 := Tryz.sizeOf175
  v212 := Tryz.zeroValue175
  t213 := Tryz.underlying177
  a213 := Tryz.isAgg177
  z213 := Tryz.sizeOf177
  t232 := Tryz.underlying191
  a232 := Tryz.isAgg191
  z232 := Tryz.sizeOf191
  v232 := Tryz.zeroValue191
  t233 := Tryz.underlying192
  a233 := Tryz.isAgg192
  z233 := Tryz.sizeOf192
  v233 := Tryz.zeroValue192
  g17 := by kernel_rfl
  g18 := by kernel_rfl
  g19 := by kernel_rfl
  i0 := by kernel_rfl
  i2 := by kernel_rfl
  i3 := by kernel_rfl
  i4 := by kernel_rfl
  i5 := by kernel_rfl
  i9 := by kernel_rfl
  i20 := by kernel_rfl
  i37 := by kernel_rfl
  i46 := by kernel_rfl
  i51 := by kernel_rfl
  i53 := by kernel_rfl
  i171 := by kernel_rfl
  i173 := by kernel_rfl
  i212 := by kernel_rfl
  i232 := by kernel_rfl
  i233 := by kernel_rfl
  m17 := by kernel_rfl
  m18 := by kernel_rfl
  m19 := by kernel_rfl }
open Go.RowKit Go.Sort Go.Lib in
/-- strconv.Itoa: "Itoa is equivalent to FormatInt(int64(i), 10).": i's DECIMAL NUMERAL ('Lib.itoa': a '-' where i is negative, then the digits), FOR EVERY int. The world behind the call: the world before it, new blocks behind the heap (the library's 'var a [24]byte'), draws. (LAID: no walk: one application.) -/
theorem Tryz.strconv_Itoa (n : Int) (h0 : -9223372036854775808 ≤ n) (h1 : n ≤ 9223372036854775807) (w : World) (htab : Lib.TabIs Tryz.prog w "internal/strconv.uint64pow10" .u64 Lib.pow10Tab) :
    Calls Tryz.prog 96 #[.int .i64 n] w fun e w' => e = .returned (.string ⟨(Lib.itoa n).toArray⟩) ∧ ∃ k os, w' = grow (w.drewN k) os := Any.strconv_Itoa Tryz.laysM171 n h0 h1 w htab
def Tryz.laysC172_ren : Go.Shelf.Ren := ⟨fun | 172 => 99 | 244 => 137 | 245 => 138 | 247 => 154 | 279 => 155 | 280 => 156 | 281 => 157 | 282 => 158 | 287 => 170 | 316 => 171 | 171 => 96 | 205 => 172 | 321 => 180 | 322 => 181 | 243 => 133 | 246 => 149 | 283 => 161 | 284 => 162 | 285 => 163 | 286 => 164 | 129 => 174 | 317 => 173 | 318 => 175 | 319 => 176 | 320 => 177 | 337 => 182 | 338 => 183 | n => n, fun | 9 => 9 | 3 => 3 | 75 => 85 | 76 => 86 | 4 => 4 | 5 => 5 | 167 => 154 | 37 => 81 | 0 => 0 | 85 => 155 | 2 => 2 | 168 => 157 | 53 => 162 | 175 => 168 | 46 => 125 | 210 => 172 | 127 => 120 | 145 => 189 | 143 => 187 | 21 => 21 | 171 => 161 | 173 => 165 | 212 => 175 | 51 => 176 | 20 => 20 | 213 => 177 | 232 => 191 | 233 => 192 | 80 => 91 | n => n, fun | 15 => 1 | 16 => 2 | 17 => 3 | 18 => 6 | 19 => 7 | n => n⟩
theorem Tryz.laysC172 : Go.Proofs.LaysC.n172 Tryz.prog Tryz.laysC172_ren := {
  mixed := by kernel_rfl
  f129 := Tryz.func174.trans (congrArg some (by kernel_rfl))
  f171 := Tryz.func96.trans (congrArg some (by kernel_rfl))
  f172 := Tryz.func99.trans (congrArg some (by kernel_rfl))
  f205 := Tryz.func172.trans (congrArg some (by kernel_rfl))
  f243 := Tryz.func133.trans (congrArg some (by kernel_rfl))
  f244 := Tryz.func137.trans (congrArg some (by kernel_rfl))
  f245 := Tryz.func138.trans (congrArg some (by kernel_rfl))
  f246 := Tryz.func149.trans (congrArg some (by kernel_rfl))
  f247 := Tryz.func154.trans (congrArg some (by kernel_rfl))
  f279 := Tryz.func155.trans (congrArg some (by kernel_rfl))
  f280 := Tryz.func156.trans (congrArg some (by kernel_rfl))
  f281 := Tryz.func157.trans (congrArg some (by kernel_rfl))
  f282 := Tryz.func158.trans (congrArg some (by kernel_rfl))
  f283 := Tryz.func161.trans (congrArg some (by kernel_rfl))
  f284 := Tryz.func162.trans (congrArg some (by kernel_rfl))
  f285 := Tryz.func163.trans (congrArg some (by kernel_rfl))
  f286 := Tryz.func164.trans (congrArg some (by kernel_rfl))
  f287 := Tryz.func170.trans (congrArg some (by kernel_rfl))
  f316 := Tryz.func171.trans (congrArg some (by kernel_rfl))
  f317 := Tryz.func173.trans (congrArg some (by kernel_rfl))
  f318 := Tryz.func175.trans (congrArg some (by kernel_rfl))
  f319 := Tryz.func176.trans (congrArg some (by kernel_rfl))
  f320 := Tryz.func177.trans (congrArg some (by kernel_rfl))
  f321 := Tryz.func180.trans (congrArg some (by kernel_rfl))
  f322 := Tryz.func181.trans (congrArg some (by kernel_rfl))
  f337 := Tryz.func182.trans (congrArg some (by kernel_rfl))
  f338 := Tryz.func183.trans (congrArg some (by kernel_rfl))
  t0 := Tryz.underlying0
  a0 := Tryz.isAgg0
  z0 := Tryz.sizeOf0
  v0 := Tryz.zeroValue0
  t2 := Tryz.underlying2
  a2 := Tryz.isAgg2
  z2 := Tryz.sizeOf2
  v2 := Tryz.zeroValue2
  t3 := Tryz.underlying3
  a3 := Tryz.isAgg3
  z3 := Tryz.sizeOf3
  v3 := Tryz.zeroValue3
  t4 := Tryz.underlying4
  a4 := Tryz.isAgg4
  z4 := Tryz.sizeOf4
  v4 := Tryz.zeroValue4
  t5 := Tryz.underlying5
  a5 := Tryz.isAgg5
  z5 := Tryz.sizeOf5
  v5 := Tryz.zeroValue5
  t9 := Tryz.underlying9
  a9 := Tryz.isAgg9
  z9 := Tryz.sizeOf9
  v9 := Tryz.zeroValue9
  t20 := Tryz.underlying20
  a20 := Tryz.isAgg20
  z20 := Tryz.sizeOf20
  v20 := Tryz.zeroValue20
  t21 := Tryz.underlying21
  a21 := Tryz.isAgg21
  z21 := Tryz.sizeOf21
  v21 := Tryz.zeroValue21
  t37 := Tryz.underlying81
  a37 := Tryz.isAgg81
  z37 := Tryz.sizeOf81
  v37 := Tryz.zeroValue81
  t46 := Tryz.underlying125
  a46 := Tryz.isAgg125
  z46 := Tryz.sizeOf125
  v46 := Tryz.zeroValue125
  t51 := Tryz.underlying176
  a51 := Tryz.isAgg176
  z51 := Tryz.sizeOf176
  v51 := Tryz.zeroValue176
  t53 := Tryz.underlying162
  a53 := Tryz.isAgg162
  z53 := Tryz.sizeOf162
  v53 := Tryz.zeroValue162
  t75 := Tryz.underlying85
  a75 := Tryz.isAgg85
  z75 := Tryz.sizeOf85
  v75 := Tryz.zeroValue85
  t76 := Tryz.underlying86
  a76 := Tryz.isAgg86
  z76 := Tryz.sizeOf86
  v76 := Tryz.zeroValue86
  t85 := Tryz.underlying155
  a85 := Tryz.isAgg155
  z85 := Tryz.sizeOf155
  v85 := Tryz.zeroValue155
  t127 := Tryz.underlying120
  a127 := Tryz.isAgg120
  z127 := Tryz.sizeOf120
  v127 := Tryz.zeroValue120
  t143 := Tryz.underlying187
  a143 := Tryz.isAgg187
  z143 := Tryz.sizeOf187
  v143 := Tryz.zeroValue187
  t145 := Tryz.underlying189
  a145 := Tryz.isAgg189
  z145 := Tryz.sizeOf189
  v145 := Tryz.zeroValue189
  t167 := Tryz.underlying154
  a167 := Tryz.isAgg154
  z167 := Tryz.sizeOf154
  v167 := Tryz.zeroValue154
  t168 := Tryz.underlying157
  a168 := Tryz.isAgg157
  z168 := Tryz.sizeOf157
  v168 := Tryz.zeroValue157
  t171 := Tryz.underlying161
  a171 := Tryz.isAgg161
  z171 := Tryz.sizeOf161
  v171 := Tryz.zeroValue161
  t173 := Tryz.underlying165
  a173 := Tryz.isAgg165
  z173 := Tryz.sizeOf165
  v173 := Tryz.zeroValue165
  t175 := Tryz.underlying168
  a175 := Tryz.isAgg168
  z175 := Tryz.sizeOf168
  v175 := Tryz.zeroValue168
  t210 := Tryz.underlying172
  a210 := Tryz.isAgg172
  z210 := Tryz.sizeOf172
  v210 := Tryz.zeroValue172
  t212 := Tryz.underlying175
  a212 := Tryz.isAgg175
  z212 := Tryz.sizeOf175
  v212 := Tryz.zeroValue175
  t213 := Tryz.underlying177
  a213 := Tryz.isAgg177
  z213 := Tryz.sizeOf177
  t232 := Tryz.underlying191
  a232 := Tryz.isAgg191
  z232 := Tryz.sizeOf191
  v232 := Tryz.zeroValue191
  t233 := Tryz.underlying192
  a233 := Tryz.isAgg192
  z233 := Tryz.sizeOf192
  v233 := Tryz.zeroValue192
  g15 := by kernel_rfl
  g16 := by kernel_rfl
  g17 := by kernel_rfl
  g18 := by kernel_rfl
  g19 := by kernel_rfl
  t80 := Tryz.underlying91
  a80 := Tryz.isAgg91
  z80 := Tryz.sizeOf91
  v80 := Tryz.zeroValue91
  i0 := by kernel_rfl
  i2 := by kernel_rfl
  i3 := by kernel_rfl
  i4 := by kernel_rfl
  i5 := by kernel_rfl
  i9 := by kernel_rfl
  i20 := by kernel_rfl
  i21 := by kernel_rfl
  i37 := by kernel_rfl
  i46 := by kernel_rfl
  i51 := by kernel_rfl
  i53 := by kernel_rfl
  i75 := by kernel_rfl
  i76 := by kernel_rfl
  i80 := by kernel_rfl
  i85 := by kernel_rfl
  i127 := by kernel_rfl
  i143 := by kernel_rfl
  i145 := by kernel_rfl
  i167 := by kernel_rfl
  i168 := by kernel_rfl
  i171 := by kernel_rfl
  i173 := by kernel_rfl
  i175 := by kernel_rfl
  i210 := by kernel_rfl
  i212 := by kernel_rfl
  i232 := by kernel_rfl
  i233 := by kernel_rfl
  m15 := by kernel_rfl
  m16 := by kernel_rfl
  m17 := by kernel_rfl
  m18 := by kernel_rfl
  m19 := by kernel_rfl
  c0 := by kernel_rfl
  c2 := by kernel_rfl
  c3 := by kernel_rfl
  c4 := by kernel_rfl
  c5 := by kernel_rfl
  c9 := by kernel_rfl
  c20 := by kernel_rfl
  c21 := by kernel_rfl
  c37 := by kernel_rfl
  c46 := by kernel_rfl
  c51 := by kernel_rfl
  c53 := by kernel_rfl
  c75 := by kernel_rfl
  c76 := by kernel_rfl
  c80 := by kernel_rfl
  c85 := by kernel_rfl
  c127 := by kernel_rfl
  c143 := by kernel_rfl
  c145 := by kernel_rfl
  c167 := by kernel_rfl
  c168 := by kernel_rfl
  c171 := by kernel_rfl
  c173 := by kernel_rfl
  c175 := by kernel_rfl
  c210 := by kernel_rfl
  c212 := by kernel_rfl
  c213 := by kernel_rfl
  c232 := by kernel_rfl
  c233 := by kernel_rfl }
open Go.RowKit in
/-- strconv.Atoi, AT EVERY STRING THAT SPELLS AN int ('Lib.atoiAll .. = .ok v'; of whatever length: leading zeros count): v, AND NO ERROR. The world: as it was, or with the one new row that '[]byte(..)' lays. (LAID: no walk: one application.) -/
theorem Tryz.strconv_Atoi_ok (s : ByteArray) (hmax : s.size ≤ 9223372036854775806) (v : Int) (h : Lib.atoiAll s.data.toList = .ok v) (w : World) :
    Calls Tryz.prog 99 #[.string s] w fun e w' => e = .returned (.tuple #[.int .i64 v, .nilIface]) ∧ (w' = w ∨ ∃ t, w' = Lib.bytesWorld w 5 t) := Any.strconv_Atoi_ok Tryz.laysC172 s hmax v h w
open Go.RowKit in
theorem Tryz.strconv_Atoi_range_var (s : ByteArray) (hlim : s.size ≤ 281474976710656) (h : Lib.atoiAll s.data.toList = .range) (tp : TypeId) (p : Value) (w : World) (hvar : w.var? Tryz.prog "strconv.ErrRange" = some #[.iface tp p]) :
    Calls Tryz.prog 99 #[.string s] w fun e w' => ∃ N, e = .returned (.tuple #[.int .i64 (Lib.atoiSat s.data.toList), .iface 157 (.pointer (some ⟨N, 0, none⟩))]) ∧ w.heap.size ≤ N ∧ w'.heap[N]? = some (.cells #[.string ⟨#[65, 116, 111, 105]⟩, .string s, .iface tp p] 172 (0, 0)) ∧ Below w.heap.size w w' := Any.strconv_Atoi_range_var Tryz.laysC172 s hlim h tp p w hvar
def Tryz.lays146_ren : Go.Shelf.Ren := ⟨fun | 146 => 61 | 221 => 98 | 268 => 134 | 138 => 135 | 143 => 136 | 195 => 150 | 197 => 151 | 218 => 152 | 219 => 153 | 260 => 165 | 217 => 166 | 225 => 167 | 224 => 168 | 267 => 169 | 266 => 178 | 314 => 179 | n => n, fun | 9 => 9 | 31 => 94 | 3 => 3 | 4 => 4 | 0 => 0 | 105 => 151 | 21 => 21 | 5 => 5 | 46 => 125 | 119 => 179 | 139 => 182 | 138 => 181 | 146 => 183 | 51 => 176 | n => n, fun | 1 => 0 | 3 => 4 | 4 => 5 | n => n⟩
theorem Tryz.lays146 : Go.Proofs.Lays.n146 Tryz.prog Tryz.lays146_ren := {
  mixed := by kernel_rfl
  f138 := Tryz.func135.trans (congrArg some (by kernel_rfl))
  f143 := Tryz.func136.trans (congrArg some (by kernel_rfl))
  f146 := Tryz.func61.trans (congrArg some (by kernel_rfl))
  f195 := Tryz.func150.trans (congrArg some (by kernel_rfl))
  f197 := Tryz.func151.trans (congrArg some (by kernel_rfl))
  f217 := Tryz.func166.trans (congrArg some (by kernel_rfl))
  f218 := Tryz.func152.trans (congrArg some (by kernel_rfl))
  f219 := Tryz.func153.trans (congrArg some (by kernel_rfl))
  f221 := Tryz.func98.trans (congrArg some (by kernel_rfl))
  f224 := Tryz.func168.trans (congrArg some (by kernel_rfl))
  f225 := Tryz.func167.trans (congrArg some (by kernel_rfl))
  f260 := Tryz.func165.trans (congrArg some (by kernel_rfl))
  f266 := Tryz.func178.trans (congrArg some (by kernel_rfl))
  f267 := Tryz.func169.trans (congrArg some (by kernel_rfl))
  f268 := Tryz.func134.trans (congrArg some (by kernel_rfl))
  f314 := Tryz.func179.trans (congrArg some (by kernel_rfl))
  t0 := Tryz.underlying0
  a0 := Tryz.isAgg0
  z0 := Tryz.sizeOf0
  v0 := Tryz.zeroValue0
  t3 := Tryz.underlying3
  a3 := Tryz.isAgg3
  z3 := Tryz.sizeOf3
  v3 := Tryz.zeroValue3
  t4 := Tryz.underlying4
  a4 := Tryz.isAgg4
  z4 := Tryz.sizeOf4
  v4 := Tryz.zeroValue4
  t5 := Tryz.underlying5
  a5 := Tryz.isAgg5
  z5 := Tryz.sizeOf5
  v5 := Tryz.zeroValue5
  t9 := Tryz.underlying9
  a9 := Tryz.isAgg9
  z9 := Tryz.sizeOf9
  v9 := Tryz.zeroValue9
  t21 := Tryz.underlying21
  a21 := Tryz.isAgg21
  z21 := Tryz.sizeOf21
  v21 := Tryz.zeroValue21
  t31 := Tryz.underlying94
  a31 := Tryz.isAgg94
  z31 := Tryz.sizeOf94
  v31 := Tryz.zeroValue94
  t46 := Tryz.underlying125
  a46 := Tryz.isAgg125
  z46 := Tryz.sizeOf125
  v46 := Tryz.zeroValue125
  t51 := Tryz.underlying176
  a51 := Tryz.isAgg176
  z51 := Tryz.sizeOf176
  v51 := Tryz.zeroValue176
  t105 := Tryz.underlying151
  a105 := Tryz.isAgg151
  z105 := Tryz.sizeOf151
  v105 := Tryz.zeroValue151
  t119 := Tryz.underlying179
  a119 := Tryz.isAgg179
  z119 := Tryz.sizeOf179
  t138 := Tryz.underlying181
  a138 := Tryz.isAgg181
  z138 := Tryz.sizeOf181
  v138 := Tryz.zeroValue181
  t139 := Tryz.underlying182
  a139 := Tryz.isAgg182
  z139 := Tryz.sizeOf182
  v139 := Tryz.zeroValue182
  t146 := Tryz.underlying183
  a146 := Tryz.isAgg183
  z146 := Tryz.sizeOf183
  v146 := Tryz.zeroValue183
  g1 := by kernel_rfl
  g3 := by kernel_rfl
  g4 := by kernel_rfl }
open Go.RowKit Go.Lib in
/-- strings.Split. (LAID: no walk: one application.) -/
theorem Tryz.strings_Split (s sep : ByteArray) (m : Int) (w : World) (hs : s.size < 4294967281) (hm : w.cell? ⟨0, 0, none⟩ = some (.int .i64 m)) (h1 : 1 ≤ sep.size) :
    Calls Tryz.prog 61 #[.string s, .string sep] w fun e w' =>
      e = .returned (.slice (some ⟨w.heap.size, 0, none⟩) (Lib.countB s sep + 1) (Lib.countB s sep + 1)) ∧ w' = w.alloc (.cells ((Lib.splitB sep 0 (Lib.countB s sep) s).map Value.string).toArray 9) := Any.strings_Split Tryz.lays146 (by kernel_rfl) s sep m w hs hm h1
end Go.Proofs

/- Networks of chapter 31, plain: the first fault of a network. -/
namespace Go.Nw

/-- A link: from, to, loss. -/
abbrev Lk := Int × Int × Int

structure Net where
  nodes : Int
  power : List (List Int)
  noise : Int
  thr : Int
  links : List Lk
  margin : List Int

def cmpI (x y : Int) : Int := if x < y then -1 else if y < x then 1 else 0
def cmpL (a b : Lk) : Int := if cmpI a.1 b.1 = 0 then cmpI a.2.1 b.2.1 else cmpI a.1 b.1
def outside (p : Int) : Bool := decide (p < 0 ∨ 68719476736 < p)
def wide (k : Int) (r : List Int) : Bool := decide ((r.length : Int) ≠ k)
def tableE (n : Net) : Int :=
  if (n.power.length : Int) ≠ n.nodes then 1 else if n.power.any (wide n.nodes) = true then 1 else if n.power.any (fun r => r.any outside) = true then 2 else 0
def lnk (n : Net) (i : Nat) : Lk := n.links.getD i (0, 0, 0)
def mar (n : Net) (i : Nat) : Int := n.margin.getD i 0
def powr (n : Net) (a b : Int) : Int := (n.power.getD a.toNat []).getD b.toNat 0
def linkE (n : Net) (i : Nat) : Int :=
  if ¬ (0 ≤ (lnk n i).1 ∧ (lnk n i).1 < n.nodes) ∨ ¬ (0 ≤ (lnk n i).2.1 ∧ (lnk n i).2.1 < n.nodes) ∨ (lnk n i).1 = (lnk n i).2.1 ∨ (lnk n i).2.2 < 0 ∨ 7 < (lnk n i).2.2 then 2
  else if 0 < i ∧ 0 ≤ cmpL (lnk n (i - 1)) (lnk n i) then 5
  else if mar n i < 0 ∨ powr n (lnk n i).1 (lnk n i).2.1 < mar n i then 2 else 0
def linksE (n : Net) : Nat → Nat → Int
  | 0, _ => 0
  | r + 1, i => if linkE n i = 0 then linksE n r (i + 1) else linkE n i
def checkE (n : Net) : Int :=
  if n.nodes < 2 ∨ 32 < n.nodes then 2 else if tableE n ≠ 0 then tableE n
  else if n.noise < 0 ∨ 68719476736 < n.noise ∨ n.thr < 1000 ∨ 100000 < n.thr then 2
  else if 128 < n.links.length then 8 else if n.margin.length ≠ n.links.length then 11 else linksE n n.links.length 0

/-- The first index of an element with a property, counted from k on; -1 if there is none. -/
def idxFrom {α : Type} (p : α → Bool) : List α → Int → Int
  | [], _ => -1
  | a :: l, k => if p a then k else idxFrom p l (k + 1)
theorem idx_any {α : Type} (p : α → Bool) : ∀ (l : List α) (k : Int), 0 ≤ k → (0 ≤ idxFrom p l k ↔ l.any p = true)
  | [], k, _ => by simp [idxFrom]
  | a :: l, k, h => by
    unfold idxFrom
    by_cases hp : p a = true
    · simp [hp, h]
    · rw [if_neg hp, idx_any p l (k + 1) (by omega)]
      simp [hp]
theorem idx_drop {α : Type} (p : α → Bool) (l : List α) {k : Nat} {a : α} (h : l[k]? = some a) : idxFrom p (l.drop k) k = if p a then (k : Int) else idxFrom p (l.drop (k + 1)) (k + 1) := by
  obtain ⟨hk, rfl⟩ := List.getElem?_eq_some_iff.1 h
  rw [List.drop_eq_getElem_cons hk, idxFrom]

theorem linksE_step (n : Net) {i : Nat} (h : i < n.links.length) (h0 : linkE n i = 0) : linksE n (n.links.length - i) i = linksE n (n.links.length - (i + 1)) (i + 1) := by
  rw [show n.links.length - i = n.links.length - (i + 1) + 1 by omega, linksE, if_pos h0]
theorem linksE_stop (n : Net) {i : Nat} (h : i < n.links.length) (h0 : linkE n i ≠ 0) : linksE n (n.links.length - i) i = linkE n i := by
  rw [show n.links.length - i = n.links.length - (i + 1) + 1 by omega, linksE, if_neg h0]

theorem table_ok {n : Net} (h : tableE n = 0) : (n.power.length : Int) = n.nodes ∧ (∀ r ∈ n.power, (r.length : Int) = n.nodes) ∧ ∀ r ∈ n.power, ∀ p ∈ r, 0 ≤ p ∧ p ≤ 68719476736 := by
  unfold tableE at h
  by_cases h1 : (n.power.length : Int) ≠ n.nodes
  · rw [if_pos h1] at h; omega
  rw [if_neg h1] at h
  by_cases h2 : n.power.any (wide n.nodes) = true
  · rw [if_pos h2] at h; omega
  rw [if_neg h2] at h
  by_cases h3 : n.power.any (fun r => r.any outside) = true
  · rw [if_pos h3] at h; omega
  refine ⟨by omega, fun r hr => ?_, fun r hr p hp => ?_⟩
  · by_cases hw : (r.length : Int) = n.nodes
    · exact hw
    · exact absurd (List.any_eq_true.2 ⟨r, hr, by simp [wide, hw]⟩) h2
  · by_cases ho : outside p = true
    · exact absurd (List.any_eq_true.2 ⟨r, hr, List.any_eq_true.2 ⟨p, hp, ho⟩⟩) h3
    · simp [outside] at ho; omega
end Go.Nw

/- Lists of numbers in their order, plain. -/
namespace Go.Proofs.YtnkpfpgmbpnbgaaGreatDoor
def lexLt : List Int → List Int → Bool
  | [], b => !b.isEmpty
  | _ :: _, [] => false
  | a :: l, b :: m => if a ≠ b then decide (a < b) else lexLt l m
theorem lex_drop {a b : List Int} {i : Nat} {x y : Int} (hx : a[i]? = some x) (hy : b[i]? = some y) : lexLt (a.drop i) (b.drop i) = if x ≠ y then decide (x < y) else lexLt (a.drop (i + 1)) (b.drop (i + 1)) := by
  obtain ⟨h1, rfl⟩ := List.getElem?_eq_some_iff.1 hx
  obtain ⟨h2, rfl⟩ := List.getElem?_eq_some_iff.1 hy
  rw [List.drop_eq_getElem_cons h1, List.drop_eq_getElem_cons h2]
  rfl
end Go.Proofs.YtnkpfpgmbpnbgaaGreatDoor

/- Schedules of chapter 35, plain: cells in order, the form of a schedule; flows. -/
namespace Go.Proofs.YtnkpfpgmbpnbgaaGreatDoor
open Go.Nw

/-- A cell: slot, offset, from, to, flow. -/
abbrev Cel := Int × Int × Int × Int × Int
def nums (c : Cel) : List Int := [c.1, c.2.1, c.2.2.1, c.2.2.2.1, c.2.2.2.2]
def celLt (a b : Cel) : Bool := lexLt (nums a) (nums b)
theorem lex_trans : ∀ {a b c : List Int}, lexLt a b = true → lexLt b c = true → lexLt a c = true
  | _, _, [], _, h => by cases ‹List Int› <;> cases h
  | [], _, _ :: _, _, _ => rfl
  | _ :: _, [], _ :: _, h, _ => by cases h
  | x :: a, y :: b, z :: c, h1, h2 => by
    unfold lexLt at h1 h2 ⊢
    by_cases e1 : x = y
    · subst e1
      rw [if_neg (fun h => h rfl)] at h1
      by_cases e2 : x = z
      · subst e2
        rw [if_neg (fun h => h rfl)] at h2 ⊢
        exact lex_trans h1 h2
      · rw [if_pos e2] at h2 ⊢; exact h2
    · rw [if_pos e1] at h1
      have h3 := of_decide_eq_true h1
      by_cases e2 : y = z
      · subst e2
        rw [if_pos e1]; exact h1
      · rw [if_pos e2] at h2
        have h4 := of_decide_eq_true h2
        rw [if_pos (by omega)]
        exact decide_eq_true (by omega)
theorem cel_trans {a b c : Cel} (h1 : celLt a b = true) (h2 : celLt b c = true) : celLt a c = true := lex_trans h1 h2
def insE (x n : Int) : Bool := decide (0 ≤ x ∧ x < n)
structure Sch where
  len : Int
  off : Int
  cells : List Cel
def placedE (s : Sch) (c : Cel) : Bool := insE c.1 s.len && insE c.2.1 s.off
def formedE (s : Sch) (c : Cel) : Bool := placedE s c && insE c.2.2.1 32 && insE c.2.2.2.1 32 && insE c.2.2.2.2 256
def sizedE (s : Sch) : Bool := decide (1 ≤ s.len ∧ s.len ≤ 512 ∧ 1 ≤ s.off ∧ s.off ≤ 16)
def celAt (s : Sch) (i : Nat) : Cel := s.cells.getD i (0, 0, 0, 0, 0)
/-- The cell with an index has its form, and stands behind the one before. -/
def celOk (s : Sch) (i : Nat) : Bool := formedE s (celAt s i) && (decide (i = 0) || celLt (celAt s (i - 1)) (celAt s i))
def formE (s : Sch) : Bool := sizedE s && decide (s.cells.length ≤ 512) && (List.range s.cells.length).all (celOk s)

theorem all_range_step {p : Nat → Bool} {k : Nat} : (List.range (k + 1)).all p = ((List.range k).all p && p k) := by
  rw [List.range_succ, List.all_append]; simp
theorem all_range_no {p : Nat → Bool} {i k : Nat} (hi : i < k) (h : p i = false) : (List.range k).all p = false := by
  rw [List.all_eq_false]
  exact ⟨i, List.mem_range.2 hi, by rw [h]; decide⟩
theorem all_range_at {p : Nat → Bool} {i k : Nat} (h : (List.range k).all p = true) (hi : i < k) : p i = true := List.all_eq_true.1 h i (List.mem_range.2 hi)

theorem celAt_get {s : Sch} {i : Nat} {c : Cel} (h : s.cells[i]? = some c) : celAt s i = c := by
  unfold celAt; rw [List.getD_eq_getElem?_getD, h]; rfl
theorem celAt_some {s : Sch} {i : Nat} (h : i < s.cells.length) : s.cells[i]? = some (celAt s i) := by
  unfold celAt; rw [List.getD_eq_getElem?_getD, List.getElem?_eq_getElem h]; rfl
theorem celAt_mem {s : Sch} {i : Nat} (h : i < s.cells.length) : celAt s i ∈ s.cells := List.mem_of_getElem? (celAt_some h)

structure Frm (s : Sch) : Prop where
  sized : sizedE s = true
  few : s.cells.length ≤ 512
  formed : ∀ c ∈ s.cells, formedE s c = true
  ord : s.cells.Pairwise fun a b => celLt a b = true
/-- Consecutive elements in order are all in order. -/
theorem ord_of_steps {α : Type} {lt : α → α → Bool} (htr : ∀ {a b c}, lt a b = true → lt b c = true → lt a c = true) {l : List α} (h : ∀ i, ∀ a b, l[i]? = some a → l[i + 1]? = some b → lt a b = true) : l.Pairwise fun a b => lt a b = true := by
  induction l with
  | nil => exact .nil
  | cons x l ih =>
    have h1 := ih fun i a b ha hb => h (i + 1) a b (by simpa using ha) (by simpa using hb)
    refine .cons (fun y hy => ?_) h1
    cases l with
    | nil => cases hy
    | cons z l =>
      have hz := h 0 x z rfl rfl
      rcases List.mem_cons.1 hy with rfl | hy
      · exact hz
      · exact htr hz ((List.pairwise_cons.1 h1).1 y hy)
theorem form_iff {s : Sch} : formE s = true ↔ Frm s := by
  unfold formE
  simp only [Bool.and_eq_true, decide_eq_true_eq]
  constructor
  · rintro ⟨⟨h1, h2⟩, h3⟩
    have hc : ∀ i, i < s.cells.length → celOk s i = true := fun i hi => all_range_at h3 hi
    refine ⟨h1, h2, fun c hc2 => ?_, ?_⟩
    · obtain ⟨i, hi⟩ := List.mem_iff_getElem?.1 hc2
      have := hc i (List.getElem?_eq_some_iff.1 hi).1
      unfold celOk at this
      rw [celAt_get hi] at this
      simp only [Bool.and_eq_true] at this
      exact this.1
    · refine ord_of_steps (lt := celLt) (fun h1 h2 => cel_trans h1 h2) fun i a b ha hb => ?_
      have := hc (i + 1) (List.getElem?_eq_some_iff.1 hb).1
      unfold celOk at this
      rw [celAt_get hb, Nat.add_sub_cancel, celAt_get ha] at this
      simp only [Bool.and_eq_true, Bool.or_eq_true, decide_eq_true_eq] at this
      rcases this.2 with h | h
      · omega
      · exact h
  · intro h
    refine ⟨⟨h.sized, h.few⟩, List.all_eq_true.2 fun i hi => ?_⟩
    have hi := List.mem_range.1 hi
    unfold celOk
    rw [h.formed _ (celAt_mem hi), Bool.true_and, Bool.or_eq_true, decide_eq_true_eq]
    rcases Nat.eq_zero_or_pos i with h0 | h0
    · exact .inl h0
    · right
      obtain ⟨h1, h2⟩ := List.getElem?_eq_some_iff.1 (celAt_some (s := s) (i := i - 1) (by omega))
      obtain ⟨h3, h4⟩ := List.getElem?_eq_some_iff.1 (celAt_some (s := s) hi)
      have := List.pairwise_iff_getElem.1 h.ord (i - 1) i h1 h3 (by omega)
      rw [h2, h4] at this
      exact this

/-- A flow: ID, from, to, period, phase, deadline. -/
abbrev Flw := Int × Int × Int × Int × Int × Int
def flowE (nodes : Int) (f : Flw) : Int :=
  if f.1 < 0 ∨ 255 < f.1 ∨ insE f.2.1 nodes = false ∨ insE f.2.2.1 nodes = false then 2
  else if f.2.2.2.1 < 1 ∨ 512 < f.2.2.2.1 ∨ f.2.2.2.2.1 < 0 ∨ f.2.2.2.1 ≤ f.2.2.2.2.1 ∨ f.2.2.2.2.2 < 1 ∨ f.2.2.2.1 < f.2.2.2.2.2 then 2
  else if f.2.1 = f.2.2.1 then 1 else 0
def flwAt (l : List Flw) (i : Nat) : Flw := l.getD i (0, 0, 0, 0, 0, 0)
/-- The first index from i on, of r ones, with a fault, and the fault; -1 if there is none. -/
def firstF (f : Nat → Int) : Nat → Nat → Int × Int
  | 0, _ => (-1, 0)
  | r + 1, i => if f i = 0 then firstF f r (i + 1) else ((i : Int), f i)
theorem firstF_ok {f : Nat → Int} : ∀ {r i : Nat}, (firstF f r i).2 = 0 ↔ ∀ k, i ≤ k → k < i + r → f k = 0
  | 0, i => by simp [firstF]; intro k h1 h2; omega
  | r + 1, i => by
    unfold firstF
    split
    · rename_i h
      rw [firstF_ok]
      constructor
      · intro h1 k hk1 hk2
        rcases Nat.eq_or_lt_of_le hk1 with rfl | h2
        · exact h
        · exact h1 k (by omega) (by omega)
      · intro h1 k hk1 hk2
        exact h1 k (by omega) (by omega)
    · rename_i h
      constructor
      · intro h1; exact absurd h1 h
      · intro h1; exact absurd (h1 i (Nat.le_refl _) (by omega)) h
theorem firstF_neg {f : Nat → Int} : ∀ {r i : Nat}, (firstF f r i).2 = 0 → (firstF f r i).1 = -1
  | 0, i, _ => rfl
  | r + 1, i, h => by
    unfold firstF at h ⊢
    split at h
    · rw [if_pos ‹_›]; exact firstF_neg h
    · exact absurd h ‹_›
theorem firstF_congr {f g : Nat → Int} : ∀ {r i : Nat}, (∀ k, i ≤ k → k < i + r → (∀ j, i ≤ j → j < k → f j = 0) → f k = g k) → firstF f r i = firstF g r i
  | 0, i, _ => rfl
  | r + 1, i, h => by
    unfold firstF
    have h0 := h i (Nat.le_refl _) (by omega) (fun j h1 h2 => by omega)
    rw [← h0]
    by_cases hz : f i = 0
    · rw [if_pos hz, if_pos hz]
      refine firstF_congr fun k h1 h2 h3 => h k (by omega) (by omega) fun j h4 h5 => ?_
      rcases Nat.eq_or_lt_of_le h4 with rfl | h6
      · exact hz
      · exact h3 j (by omega) h5
    · rw [if_neg hz, if_neg hz]
def flowAtE (nodes : Int) (l : List Flw) (i : Nat) : Int := if flowE nodes (flwAt l i) ≠ 0 then flowE nodes (flwAt l i) else if 0 < i ∧ (flwAt l i).1 ≤ (flwAt l (i - 1)).1 then 5 else 0
def flowsE (nodes : Int) (l : List Flw) : Int × Int :=
  if nodes < 2 ∨ 32 < nodes then (-1, 2) else if 16 < l.length then (-1, 8) else firstF (flowAtE nodes l) l.length 0
def findF (l : List Flw) (id : Int) : Int := idxFrom (fun f => decide (f.1 = id)) l 0
end Go.Proofs.YtnkpfpgmbpnbgaaGreatDoor

/- The seat's table of types, printed by a program of mine (gen_tab.py), checked by the kernel. -/
namespace Go.Proofs.YtnkpfpgmbpnbgaaGreatDoor
open Go.Eng

theorem tab_sc : ([(3, ()), (4, ()), (5, ()), (9, ()), (22, ()), (23, ()), (24, ()), (28, ()), (80, ()), (81, ()), (85, ()), (124, ()), (162, ())].all fun x : Nat × Unit => oneT Tryz.prog x.1) = true := by kernel_rfl
theorem tab_ag : ([(26, 6), (30, 3), (51, 5), (70, 6), (89, 5), (135, 3), (175, 20), (181, 2), (182, 32), (191, 32), (192, 64)].all fun x : Nat × Nat => aggT Tryz.prog x.1 == some x.2) = true := by kernel_rfl
theorem tab_fo : ([(26, 0, 0), (26, 1, 1), (26, 2, 2), (26, 3, 3), (26, 4, 4), (26, 5, 5), (30, 0, 0), (30, 1, 1), (30, 2, 2), (51, 0, 0), (51, 1, 1), (51, 2, 2), (51, 3, 3), (51, 4, 4), (70, 0, 0), (70, 1, 1), (70, 2, 2), (70, 3, 3), (70, 4, 4), (70, 5, 5), (83, 0, 0), (83, 1, 1), (135, 0, 0), (135, 1, 1), (135, 2, 2), (181, 0, 0), (181, 1, 1)].all fun x : Nat × Nat × Nat => fieldOff Tryz.prog x.1 x.2.1 == some x.2.2) = true := by kernel_rfl
theorem tab_sl : ([(22, (24, 1, 24)), (23, (135, 3, 24)), (24, (3, 1, 8)), (27, (70, 6, 48)), (28, (51, 5, 40)), (54, (4, 1, 1)), (55, (28, 1, 24)), (81, (5, 1, 1)), (94, (9, 1, 16))].all fun x : Nat × (Nat × Nat × Nat) => sliceT Tryz.prog x.1 == some x.2) = true := by kernel_rfl
theorem tab_ar : ([(89, (5, 3, 1)), (161, (24, 5, 1)), (175, (20, 162, 1)), (177, (65, 5, 1)), (179, (256, 5, 1)), (182, (16, 181, 2)), (191, (32, 5, 1)), (192, (64, 5, 1))].all fun x : Nat × (Nat × Nat × Nat) => arrayT Tryz.prog x.1 == some x.2) = true := by kernel_rfl
theorem tab_ik : ([(2, .i64), (3, .i64), (5, .u8), (21, .i32), (47, .u16), (125, .u64), (162, .u64), (176, .u32)].all fun x : Nat × IntKind => decide (intT Tryz.prog x.1 = some x.2)) = true := by kernel_rfl
theorem tab_st : ([(9, ())].all fun x : Nat × Unit => stringT Tryz.prog x.1) = true := by kernel_rfl
def T : Tab Tryz.prog := ⟨_, _, _, _, _, _, _, tab_sc, tab_ag, tab_fo, tab_sl, tab_ar, tab_ik, tab_st⟩

theorem tab_zt : ([(3, .int .i64 0), (4, .bool false), (5, .int .u8 0), (9, .string ⟨#[]⟩), (24, .slice none 0 0), (26, .agg #[.int .i64 0, .slice none 0 0, .int .i64 0, .int .i64 0, .slice none 0 0, .slice none 0 0]), (28, .slice none 0 0), (30, .agg #[.int .i64 0, .int .i64 0, .slice none 0 0]), (51, .agg #[.int .i64 0, .int .i64 0, .int .i64 0, .int .i64 0, .int .i64 0]), (70, .agg #[.int .i64 0, .int .i64 0, .int .i64 0, .int .i64 0, .int .i64 0, .int .i64 0]), (83, .agg #[.pointer none, .slice none 0 0]), (89, .agg #[.int .i64 0, .int .i64 0, .int .i64 0, .int .i64 0, .int .i64 0]), (124, .nilFunc), (135, .agg #[.int .i64 0, .int .i64 0, .int .i64 0]), (161, .agg #[.int .u8 0, .int .u8 0, .int .u8 0, .int .u8 0, .int .u8 0, .int .u8 0, .int .u8 0, .int .u8 0, .int .u8 0, .int .u8 0, .int .u8 0, .int .u8 0, .int .u8 0, .int .u8 0, .int .u8 0, .int .u8 0, .int .u8 0, .int .u8 0, .int .u8 0, .int .u8 0, .int .u8 0, .int .u8 0, .int .u8 0, .int .u8 0]), (172, .agg #[.string ⟨#[]⟩, .string ⟨#[]⟩, .nilIface]), (175, .agg #[.int .u64 0, .int .u64 0, .int .u64 0, .int .u64 0, .int .u64 0, .int .u64 0, .int .u64 0, .int .u64 0, .int .u64 0, .int .u64 0, .int .u64 0, .int .u64 0, .int .u64 0, .int .u64 0, .int .u64 0, .int .u64 0, .int .u64 0, .int .u64 0, .int .u64 0, .int .u64 0]), (177, .agg #[.int .u8 0, .int .u8 0, .int .u8 0, .int .u8 0, .int .u8 0, .int .u8 0, .int .u8 0, .int .u8 0, .int .u8 0, .int .u8 0, .int .u8 0, .int .u8 0, .int .u8 0, .int .u8 0, .int .u8 0, .int .u8 0, .int .u8 0, .int .u8 0, .int .u8 0, .int .u8 0, .int .u8 0, .int .u8 0, .int .u8 0, .int .u8 0, .int .u8 0, .int .u8 0, .int .u8 0, .int .u8 0, .int .u8 0, .int .u8 0, .int .u8 0, .int .u8 0, .int .u8 0, .int .u8 0, .int .u8 0, .int .u8 0, .int .u8 0, .int .u8 0, .int .u8 0, .int .u8 0, .int .u8 0, .int .u8 0, .int .u8 0, .int .u8 0, .int .u8 0, .int .u8 0, .int .u8 0, .int .u8 0, .int .u8 0, .int .u8 0, .int .u8 0, .int .u8 0, .int .u8 0, .int .u8 0, .int .u8 0, .int .u8 0, .int .u8 0, .int .u8 0, .int .u8 0, .int .u8 0, .int .u8 0, .int .u8 0, .int .u8 0, .int .u8 0, .int .u8 0]), (181, .agg #[.int .u8 0, .int .u8 0]), (182, .agg #[.int .u8 0, .int .u8 0, .int .u8 0, .int .u8 0, .int .u8 0, .int .u8 0, .int .u8 0, .int .u8 0, .int .u8 0, .int .u8 0, .int .u8 0, .int .u8 0, .int .u8 0, .int .u8 0, .int .u8 0, .int .u8 0, .int .u8 0, .int .u8 0, .int .u8 0, .int .u8 0, .int .u8 0, .int .u8 0, .int .u8 0, .int .u8 0, .int .u8 0, .int .u8 0, .int .u8 0, .int .u8 0, .int .u8 0, .int .u8 0, .int .u8 0, .int .u8 0]), (189, .agg #[.string ⟨#[]⟩]), (191, .agg #[.int .u8 0, .int .u8 0, .int .u8 0, .int .u8 0, .int .u8 0, .int .u8 0, .int .u8 0, .int .u8 0, .int .u8 0, .int .u8 0, .int .u8 0, .int .u8 0, .int .u8 0, .int .u8 0, .int .u8 0, .int .u8 0, .int .u8 0, .int .u8 0, .int .u8 0, .int .u8 0, .int .u8 0, .int .u8 0, .int .u8 0, .int .u8 0, .int .u8 0, .int .u8 0, .int .u8 0, .int .u8 0, .int .u8 0, .int .u8 0, .int .u8 0, .int .u8 0]), (192, .agg #[.int .u8 0, .int .u8 0, .int .u8 0, .int .u8 0, .int .u8 0, .int .u8 0, .int .u8 0, .int .u8 0, .int .u8 0, .int .u8 0, .int .u8 0, .int .u8 0, .int .u8 0, .int .u8 0, .int .u8 0, .int .u8 0, .int .u8 0, .int .u8 0, .int .u8 0, .int .u8 0, .int .u8 0, .int .u8 0, .int .u8 0, .int .u8 0, .int .u8 0, .int .u8 0, .int .u8 0, .int .u8 0, .int .u8 0, .int .u8 0, .int .u8 0, .int .u8 0, .int .u8 0, .int .u8 0, .int .u8 0, .int .u8 0, .int .u8 0, .int .u8 0, .int .u8 0, .int .u8 0, .int .u8 0, .int .u8 0, .int .u8 0, .int .u8 0, .int .u8 0, .int .u8 0, .int .u8 0, .int .u8 0, .int .u8 0, .int .u8 0, .int .u8 0, .int .u8 0, .int .u8 0, .int .u8 0, .int .u8 0, .int .u8 0, .int .u8 0, .int .u8 0, .int .u8 0, .int .u8 0, .int .u8 0, .int .u8 0, .int .u8 0, .int .u8 0])].map fun x : Nat × Value => zeroT Tryz.prog x.1) = [(3, .int .i64 0), (4, .bool false), (5, .int .u8 0), (9, .string ⟨#[]⟩), (24, .slice none 0 0), (26, .agg #[.int .i64 0, .slice none 0 0, .int .i64 0, .int .i64 0, .slice none 0 0, .slice none 0 0]), (28, .slice none 0 0), (30, .agg #[.int .i64 0, .int .i64 0, .slice none 0 0]), (51, .agg #[.int .i64 0, .int .i64 0, .int .i64 0, .int .i64 0, .int .i64 0]), (70, .agg #[.int .i64 0, .int .i64 0, .int .i64 0, .int .i64 0, .int .i64 0, .int .i64 0]), (83, .agg #[.pointer none, .slice none 0 0]), (89, .agg #[.int .i64 0, .int .i64 0, .int .i64 0, .int .i64 0, .int .i64 0]), (124, .nilFunc), (135, .agg #[.int .i64 0, .int .i64 0, .int .i64 0]), (161, .agg #[.int .u8 0, .int .u8 0, .int .u8 0, .int .u8 0, .int .u8 0, .int .u8 0, .int .u8 0, .int .u8 0, .int .u8 0, .int .u8 0, .int .u8 0, .int .u8 0, .int .u8 0, .int .u8 0, .int .u8 0, .int .u8 0, .int .u8 0, .int .u8 0, .int .u8 0, .int .u8 0, .int .u8 0, .int .u8 0, .int .u8 0, .int .u8 0]), (172, .agg #[.string ⟨#[]⟩, .string ⟨#[]⟩, .nilIface]), (175, .agg #[.int .u64 0, .int .u64 0, .int .u64 0, .int .u64 0, .int .u64 0, .int .u64 0, .int .u64 0, .int .u64 0, .int .u64 0, .int .u64 0, .int .u64 0, .int .u64 0, .int .u64 0, .int .u64 0, .int .u64 0, .int .u64 0, .int .u64 0, .int .u64 0, .int .u64 0, .int .u64 0]), (177, .agg #[.int .u8 0, .int .u8 0, .int .u8 0, .int .u8 0, .int .u8 0, .int .u8 0, .int .u8 0, .int .u8 0, .int .u8 0, .int .u8 0, .int .u8 0, .int .u8 0, .int .u8 0, .int .u8 0, .int .u8 0, .int .u8 0, .int .u8 0, .int .u8 0, .int .u8 0, .int .u8 0, .int .u8 0, .int .u8 0, .int .u8 0, .int .u8 0, .int .u8 0, .int .u8 0, .int .u8 0, .int .u8 0, .int .u8 0, .int .u8 0, .int .u8 0, .int .u8 0, .int .u8 0, .int .u8 0, .int .u8 0, .int .u8 0, .int .u8 0, .int .u8 0, .int .u8 0, .int .u8 0, .int .u8 0, .int .u8 0, .int .u8 0, .int .u8 0, .int .u8 0, .int .u8 0, .int .u8 0, .int .u8 0, .int .u8 0, .int .u8 0, .int .u8 0, .int .u8 0, .int .u8 0, .int .u8 0, .int .u8 0, .int .u8 0, .int .u8 0, .int .u8 0, .int .u8 0, .int .u8 0, .int .u8 0, .int .u8 0, .int .u8 0, .int .u8 0, .int .u8 0]), (181, .agg #[.int .u8 0, .int .u8 0]), (182, .agg #[.int .u8 0, .int .u8 0, .int .u8 0, .int .u8 0, .int .u8 0, .int .u8 0, .int .u8 0, .int .u8 0, .int .u8 0, .int .u8 0, .int .u8 0, .int .u8 0, .int .u8 0, .int .u8 0, .int .u8 0, .int .u8 0, .int .u8 0, .int .u8 0, .int .u8 0, .int .u8 0, .int .u8 0, .int .u8 0, .int .u8 0, .int .u8 0, .int .u8 0, .int .u8 0, .int .u8 0, .int .u8 0, .int .u8 0, .int .u8 0, .int .u8 0, .int .u8 0]), (189, .agg #[.string ⟨#[]⟩]), (191, .agg #[.int .u8 0, .int .u8 0, .int .u8 0, .int .u8 0, .int .u8 0, .int .u8 0, .int .u8 0, .int .u8 0, .int .u8 0, .int .u8 0, .int .u8 0, .int .u8 0, .int .u8 0, .int .u8 0, .int .u8 0, .int .u8 0, .int .u8 0, .int .u8 0, .int .u8 0, .int .u8 0, .int .u8 0, .int .u8 0, .int .u8 0, .int .u8 0, .int .u8 0, .int .u8 0, .int .u8 0, .int .u8 0, .int .u8 0, .int .u8 0, .int .u8 0, .int .u8 0]), (192, .agg #[.int .u8 0, .int .u8 0, .int .u8 0, .int .u8 0, .int .u8 0, .int .u8 0, .int .u8 0, .int .u8 0, .int .u8 0, .int .u8 0, .int .u8 0, .int .u8 0, .int .u8 0, .int .u8 0, .int .u8 0, .int .u8 0, .int .u8 0, .int .u8 0, .int .u8 0, .int .u8 0, .int .u8 0, .int .u8 0, .int .u8 0, .int .u8 0, .int .u8 0, .int .u8 0, .int .u8 0, .int .u8 0, .int .u8 0, .int .u8 0, .int .u8 0, .int .u8 0, .int .u8 0, .int .u8 0, .int .u8 0, .int .u8 0, .int .u8 0, .int .u8 0, .int .u8 0, .int .u8 0, .int .u8 0, .int .u8 0, .int .u8 0, .int .u8 0, .int .u8 0, .int .u8 0, .int .u8 0, .int .u8 0, .int .u8 0, .int .u8 0, .int .u8 0, .int .u8 0, .int .u8 0, .int .u8 0, .int .u8 0, .int .u8 0, .int .u8 0, .int .u8 0, .int .u8 0, .int .u8 0, .int .u8 0, .int .u8 0, .int .u8 0, .int .u8 0])].map fun x : Nat × Value => some x.2 := by kernel_rfl
theorem tab_bt : ([(26, [(0, 1), (1, 1), (2, 1), (3, 1), (4, 1), (5, 1)]), (30, [(0, 1), (1, 1), (2, 1)]), (51, [(0, 1), (1, 1), (2, 1), (3, 1), (4, 1)]), (89, [(0, 1), (1, 1), (2, 1), (3, 1), (4, 1)]), (135, [(0, 1), (1, 1), (2, 1)]), (172, [(0, 1), (1, 1), (2, 1)]), (175, [(0, 1), (1, 1), (2, 1), (3, 1), (4, 1), (5, 1), (6, 1), (7, 1), (8, 1), (9, 1), (10, 1), (11, 1), (12, 1), (13, 1), (14, 1), (15, 1), (16, 1), (17, 1), (18, 1), (19, 1)]), (181, [(0, 1), (1, 1)]), (182, [(0, 2), (2, 2), (4, 2), (6, 2), (8, 2), (10, 2), (12, 2), (14, 2), (16, 2), (18, 2), (20, 2), (22, 2), (24, 2), (26, 2), (28, 2), (30, 2)]), (189, [(0, 1)]), (191, [(0, 1), (1, 1), (2, 1), (3, 1), (4, 1), (5, 1), (6, 1), (7, 1), (8, 1), (9, 1), (10, 1), (11, 1), (12, 1), (13, 1), (14, 1), (15, 1), (16, 1), (17, 1), (18, 1), (19, 1), (20, 1), (21, 1), (22, 1), (23, 1), (24, 1), (25, 1), (26, 1), (27, 1), (28, 1), (29, 1), (30, 1), (31, 1)]), (192, [(0, 1), (1, 1), (2, 1), (3, 1), (4, 1), (5, 1), (6, 1), (7, 1), (8, 1), (9, 1), (10, 1), (11, 1), (12, 1), (13, 1), (14, 1), (15, 1), (16, 1), (17, 1), (18, 1), (19, 1), (20, 1), (21, 1), (22, 1), (23, 1), (24, 1), (25, 1), (26, 1), (27, 1), (28, 1), (29, 1), (30, 1), (31, 1), (32, 1), (33, 1), (34, 1), (35, 1), (36, 1), (37, 1), (38, 1), (39, 1), (40, 1), (41, 1), (42, 1), (43, 1), (44, 1), (45, 1), (46, 1), (47, 1), (48, 1), (49, 1), (50, 1), (51, 1), (52, 1), (53, 1), (54, 1), (55, 1), (56, 1), (57, 1), (58, 1), (59, 1), (60, 1), (61, 1), (62, 1), (63, 1)])].map fun x : Nat × List (Nat × Nat) => structPl Tryz.prog x.1) = [(26, [(0, 1), (1, 1), (2, 1), (3, 1), (4, 1), (5, 1)]), (30, [(0, 1), (1, 1), (2, 1)]), (51, [(0, 1), (1, 1), (2, 1), (3, 1), (4, 1)]), (89, [(0, 1), (1, 1), (2, 1), (3, 1), (4, 1)]), (135, [(0, 1), (1, 1), (2, 1)]), (172, [(0, 1), (1, 1), (2, 1)]), (175, [(0, 1), (1, 1), (2, 1), (3, 1), (4, 1), (5, 1), (6, 1), (7, 1), (8, 1), (9, 1), (10, 1), (11, 1), (12, 1), (13, 1), (14, 1), (15, 1), (16, 1), (17, 1), (18, 1), (19, 1)]), (181, [(0, 1), (1, 1)]), (182, [(0, 2), (2, 2), (4, 2), (6, 2), (8, 2), (10, 2), (12, 2), (14, 2), (16, 2), (18, 2), (20, 2), (22, 2), (24, 2), (26, 2), (28, 2), (30, 2)]), (189, [(0, 1)]), (191, [(0, 1), (1, 1), (2, 1), (3, 1), (4, 1), (5, 1), (6, 1), (7, 1), (8, 1), (9, 1), (10, 1), (11, 1), (12, 1), (13, 1), (14, 1), (15, 1), (16, 1), (17, 1), (18, 1), (19, 1), (20, 1), (21, 1), (22, 1), (23, 1), (24, 1), (25, 1), (26, 1), (27, 1), (28, 1), (29, 1), (30, 1), (31, 1)]), (192, [(0, 1), (1, 1), (2, 1), (3, 1), (4, 1), (5, 1), (6, 1), (7, 1), (8, 1), (9, 1), (10, 1), (11, 1), (12, 1), (13, 1), (14, 1), (15, 1), (16, 1), (17, 1), (18, 1), (19, 1), (20, 1), (21, 1), (22, 1), (23, 1), (24, 1), (25, 1), (26, 1), (27, 1), (28, 1), (29, 1), (30, 1), (31, 1), (32, 1), (33, 1), (34, 1), (35, 1), (36, 1), (37, 1), (38, 1), (39, 1), (40, 1), (41, 1), (42, 1), (43, 1), (44, 1), (45, 1), (46, 1), (47, 1), (48, 1), (49, 1), (50, 1), (51, 1), (52, 1), (53, 1), (54, 1), (55, 1), (56, 1), (57, 1), (58, 1), (59, 1), (60, 1), (61, 1), (62, 1), (63, 1)])].map fun x : Nat × List (Nat × Nat) => some x.2 := by kernel_rfl
def T2 : Tab2 Tryz.prog := ⟨_, _, tab_zt, tab_bt⟩

theorem en11 (xs : Array Value) (w : World) : (callFunc 11 xs).run Tryz.prog w = .ok (.enter 11 xs) w := by kernel_rfl
theorem en12 (xs : Array Value) (w : World) : (callFunc 12 xs).run Tryz.prog w = .ok (.enter 12 xs) w := by kernel_rfl
theorem en13 (xs : Array Value) (w : World) : (callFunc 13 xs).run Tryz.prog w = .ok (.enter 13 xs) w := by kernel_rfl
theorem en14 (xs : Array Value) (w : World) : (callFunc 14 xs).run Tryz.prog w = .ok (.enter 14 xs) w := by kernel_rfl
theorem en15 (xs : Array Value) (w : World) : (callFunc 15 xs).run Tryz.prog w = .ok (.enter 15 xs) w := by kernel_rfl
theorem en16 (xs : Array Value) (w : World) : (callFunc 16 xs).run Tryz.prog w = .ok (.enter 16 xs) w := by kernel_rfl
theorem en18 (xs : Array Value) (w : World) : (callFunc 18 xs).run Tryz.prog w = .ok (.enter 18 xs) w := by kernel_rfl
theorem en20 (xs : Array Value) (w : World) : (callFunc 20 xs).run Tryz.prog w = .ok (.enter 20 xs) w := by kernel_rfl
theorem en23 (xs : Array Value) (w : World) : (callFunc 23 xs).run Tryz.prog w = .ok (.enter 23 xs) w := by kernel_rfl
theorem en33 (xs : Array Value) (w : World) : (callFunc 33 xs).run Tryz.prog w = .ok (.enter 33 xs) w := by kernel_rfl
theorem en37 (xs : Array Value) (w : World) : (callFunc 37 xs).run Tryz.prog w = .ok (.enter 37 xs) w := by kernel_rfl
theorem en38 (xs : Array Value) (w : World) : (callFunc 38 xs).run Tryz.prog w = .ok (.enter 38 xs) w := by kernel_rfl
theorem en39 (xs : Array Value) (w : World) : (callFunc 39 xs).run Tryz.prog w = .ok (.enter 39 xs) w := by kernel_rfl
theorem en40 (xs : Array Value) (w : World) : (callFunc 40 xs).run Tryz.prog w = .ok (.enter 40 xs) w := by kernel_rfl
theorem en41 (xs : Array Value) (w : World) : (callFunc 41 xs).run Tryz.prog w = .ok (.enter 41 xs) w := by kernel_rfl
theorem en42 (xs : Array Value) (w : World) : (callFunc 42 xs).run Tryz.prog w = .ok (.enter 42 xs) w := by kernel_rfl
theorem en43 (xs : Array Value) (w : World) : (callFunc 43 xs).run Tryz.prog w = .ok (.enter 43 xs) w := by kernel_rfl
theorem en44 (xs : Array Value) (w : World) : (callFunc 44 xs).run Tryz.prog w = .ok (.enter 44 xs) w := by kernel_rfl
theorem en45 (xs : Array Value) (w : World) : (callFunc 45 xs).run Tryz.prog w = .ok (.enter 45 xs) w := by kernel_rfl
theorem en46 (xs : Array Value) (w : World) : (callFunc 46 xs).run Tryz.prog w = .ok (.enter 46 xs) w := by kernel_rfl
theorem en47 (xs : Array Value) (w : World) : (callFunc 47 xs).run Tryz.prog w = .ok (.enter 47 xs) w := by kernel_rfl
theorem en48 (xs : Array Value) (w : World) : (callFunc 48 xs).run Tryz.prog w = .ok (.enter 48 xs) w := by kernel_rfl
theorem en49 (xs : Array Value) (w : World) : (callFunc 49 xs).run Tryz.prog w = .ok (.enter 49 xs) w := by kernel_rfl
theorem en50 (xs : Array Value) (w : World) : (callFunc 50 xs).run Tryz.prog w = .ok (.enter 50 xs) w := by kernel_rfl
theorem en51 (xs : Array Value) (w : World) : (callFunc 51 xs).run Tryz.prog w = .ok (.enter 51 xs) w := by kernel_rfl
theorem en52 (xs : Array Value) (w : World) : (callFunc 52 xs).run Tryz.prog w = .ok (.enter 52 xs) w := by kernel_rfl
theorem en53 (xs : Array Value) (w : World) : (callFunc 53 xs).run Tryz.prog w = .ok (.enter 53 xs) w := by kernel_rfl
theorem en54 (xs : Array Value) (w : World) : (callFunc 54 xs).run Tryz.prog w = .ok (.enter 54 xs) w := by kernel_rfl
theorem en55 (xs : Array Value) (w : World) : (callFunc 55 xs).run Tryz.prog w = .ok (.enter 55 xs) w := by kernel_rfl
theorem en56 (xs : Array Value) (w : World) : (callFunc 56 xs).run Tryz.prog w = .ok (.enter 56 xs) w := by kernel_rfl
theorem en57 (xs : Array Value) (w : World) : (callFunc 57 xs).run Tryz.prog w = .ok (.enter 57 xs) w := by kernel_rfl
theorem en60 (xs : Array Value) (w : World) : (callFunc 60 xs).run Tryz.prog w = .ok (.enter 60 xs) w := by kernel_rfl
theorem en61 (xs : Array Value) (w : World) : (callFunc 61 xs).run Tryz.prog w = .ok (.enter 61 xs) w := by kernel_rfl
theorem en62 (xs : Array Value) (w : World) : (callFunc 62 xs).run Tryz.prog w = .ok (.enter 62 xs) w := by kernel_rfl
theorem en65 (xs : Array Value) (w : World) : (callFunc 65 xs).run Tryz.prog w = .ok (.enter 65 xs) w := by kernel_rfl
theorem en68 (xs : Array Value) (w : World) : (callFunc 68 xs).run Tryz.prog w = .ok (.enter 68 xs) w := by kernel_rfl
theorem en71 (xs : Array Value) (w : World) : (callFunc 71 xs).run Tryz.prog w = .ok (.enter 71 xs) w := by kernel_rfl
theorem en80 (xs : Array Value) (w : World) : (callFunc 80 xs).run Tryz.prog w = .ok (.enter 80 xs) w := by kernel_rfl
theorem en81 (xs : Array Value) (w : World) : (callFunc 81 xs).run Tryz.prog w = .ok (.enter 81 xs) w := by kernel_rfl
theorem en82 (xs : Array Value) (w : World) : (callFunc 82 xs).run Tryz.prog w = .ok (.enter 82 xs) w := by kernel_rfl
theorem en83 (xs : Array Value) (w : World) : (callFunc 83 xs).run Tryz.prog w = .ok (.enter 83 xs) w := by kernel_rfl
theorem en84 (xs : Array Value) (w : World) : (callFunc 84 xs).run Tryz.prog w = .ok (.enter 84 xs) w := by kernel_rfl
theorem en85 (xs : Array Value) (w : World) : (callFunc 85 xs).run Tryz.prog w = .ok (.enter 85 xs) w := by kernel_rfl
theorem en86 (xs : Array Value) (w : World) : (callFunc 86 xs).run Tryz.prog w = .ok (.enter 86 xs) w := by kernel_rfl
theorem en87 (xs : Array Value) (w : World) : (callFunc 87 xs).run Tryz.prog w = .ok (.enter 87 xs) w := by kernel_rfl
theorem en88 (xs : Array Value) (w : World) : (callFunc 88 xs).run Tryz.prog w = .ok (.enter 88 xs) w := by kernel_rfl
theorem en89 (xs : Array Value) (w : World) : (callFunc 89 xs).run Tryz.prog w = .ok (.enter 89 xs) w := by kernel_rfl
theorem en90 (xs : Array Value) (w : World) : (callFunc 90 xs).run Tryz.prog w = .ok (.enter 90 xs) w := by kernel_rfl
theorem en91 (xs : Array Value) (w : World) : (callFunc 91 xs).run Tryz.prog w = .ok (.enter 91 xs) w := by kernel_rfl
theorem en92 (xs : Array Value) (w : World) : (callFunc 92 xs).run Tryz.prog w = .ok (.enter 92 xs) w := by kernel_rfl
theorem en93 (xs : Array Value) (w : World) : (callFunc 93 xs).run Tryz.prog w = .ok (.enter 93 xs) w := by kernel_rfl
theorem en94 (xs : Array Value) (w : World) : (callFunc 94 xs).run Tryz.prog w = .ok (.enter 94 xs) w := by kernel_rfl
theorem en95 (xs : Array Value) (w : World) : (callFunc 95 xs).run Tryz.prog w = .ok (.enter 95 xs) w := by kernel_rfl
theorem en96 (xs : Array Value) (w : World) : (callFunc 96 xs).run Tryz.prog w = .ok (.enter 96 xs) w := by kernel_rfl
theorem en99 (xs : Array Value) (w : World) : (callFunc 99 xs).run Tryz.prog w = .ok (.enter 99 xs) w := by kernel_rfl
theorem en102 (xs : Array Value) (w : World) : (callFunc 102 xs).run Tryz.prog w = .ok (.enter 102 xs) w := by kernel_rfl
theorem en104 (xs : Array Value) (w : World) : (callFunc 104 xs).run Tryz.prog w = .ok (.enter 104 xs) w := by kernel_rfl
theorem en105 (xs : Array Value) (w : World) : (callFunc 105 xs).run Tryz.prog w = .ok (.enter 105 xs) w := by kernel_rfl
theorem en110 (xs : Array Value) (w : World) : (callFunc 110 xs).run Tryz.prog w = .ok (.enter 110 xs) w := by kernel_rfl
theorem en111 (xs : Array Value) (w : World) : (callFunc 111 xs).run Tryz.prog w = .ok (.enter 111 xs) w := by kernel_rfl
theorem en112 (xs : Array Value) (w : World) : (callFunc 112 xs).run Tryz.prog w = .ok (.enter 112 xs) w := by kernel_rfl
theorem en113 (xs : Array Value) (w : World) : (callFunc 113 xs).run Tryz.prog w = .ok (.enter 113 xs) w := by kernel_rfl
theorem en114 (xs : Array Value) (w : World) : (callFunc 114 xs).run Tryz.prog w = .ok (.enter 114 xs) w := by kernel_rfl
theorem en115 (xs : Array Value) (w : World) : (callFunc 115 xs).run Tryz.prog w = .ok (.enter 115 xs) w := by kernel_rfl
theorem en116 (xs : Array Value) (w : World) : (callFunc 116 xs).run Tryz.prog w = .ok (.enter 116 xs) w := by kernel_rfl
theorem en117 (xs : Array Value) (w : World) : (callFunc 117 xs).run Tryz.prog w = .ok (.enter 117 xs) w := by kernel_rfl
theorem en118 (xs : Array Value) (w : World) : (callFunc 118 xs).run Tryz.prog w = .ok (.enter 118 xs) w := by kernel_rfl
theorem en119 (xs : Array Value) (w : World) : (callFunc 119 xs).run Tryz.prog w = .ok (.enter 119 xs) w := by kernel_rfl
theorem en120 (xs : Array Value) (w : World) : (callFunc 120 xs).run Tryz.prog w = .ok (.enter 120 xs) w := by kernel_rfl
theorem en121 (xs : Array Value) (w : World) : (callFunc 121 xs).run Tryz.prog w = .ok (.enter 121 xs) w := by kernel_rfl
theorem en122 (xs : Array Value) (w : World) : (callFunc 122 xs).run Tryz.prog w = .ok (.enter 122 xs) w := by kernel_rfl
theorem en123 (xs : Array Value) (w : World) : (callFunc 123 xs).run Tryz.prog w = .ok (.enter 123 xs) w := by kernel_rfl
theorem en124 (xs : Array Value) (w : World) : (callFunc 124 xs).run Tryz.prog w = .ok (.enter 124 xs) w := by kernel_rfl
theorem en125 (xs : Array Value) (w : World) : (callFunc 125 xs).run Tryz.prog w = .ok (.enter 125 xs) w := by kernel_rfl
theorem en126 (xs : Array Value) (w : World) : (callFunc 126 xs).run Tryz.prog w = .ok (.enter 126 xs) w := by kernel_rfl
theorem en127 (xs : Array Value) (w : World) : (callFunc 127 xs).run Tryz.prog w = .ok (.enter 127 xs) w := by kernel_rfl
theorem en128 (xs : Array Value) (w : World) : (callFunc 128 xs).run Tryz.prog w = .ok (.enter 128 xs) w := by kernel_rfl
theorem en129 (xs : Array Value) (w : World) : (callFunc 129 xs).run Tryz.prog w = .ok (.enter 129 xs) w := by kernel_rfl
theorem en130 (xs : Array Value) (w : World) : (callFunc 130 xs).run Tryz.prog w = .ok (.enter 130 xs) w := by kernel_rfl
theorem en131 (xs : Array Value) (w : World) : (callFunc 131 xs).run Tryz.prog w = .ok (.enter 131 xs) w := by kernel_rfl
theorem en141 (xs : Array Value) (w : World) : (callFunc 141 xs).run Tryz.prog w = .ok (.enter 141 xs) w := by kernel_rfl
theorem en143 (xs : Array Value) (w : World) : (callFunc 143 xs).run Tryz.prog w = .ok (.enter 143 xs) w := by kernel_rfl
theorem en144 (xs : Array Value) (w : World) : (callFunc 144 xs).run Tryz.prog w = .ok (.enter 144 xs) w := by kernel_rfl
theorem en145 (xs : Array Value) (w : World) : (callFunc 145 xs).run Tryz.prog w = .ok (.enter 145 xs) w := by kernel_rfl
theorem en146 (xs : Array Value) (w : World) : (callFunc 146 xs).run Tryz.prog w = .ok (.enter 146 xs) w := by kernel_rfl
theorem en147 (xs : Array Value) (w : World) : (callFunc 147 xs).run Tryz.prog w = .ok (.enter 147 xs) w := by kernel_rfl
theorem en148 (xs : Array Value) (w : World) : (callFunc 148 xs).run Tryz.prog w = .ok (.enter 148 xs) w := by kernel_rfl
theorem en160 (xs : Array Value) (w : World) : (callFunc 160 xs).run Tryz.prog w = .ok (.enter 160 xs) w := by kernel_rfl
theorem z3 (w : World) : (zeroValue 3).run Tryz.prog w = .ok (.int .i64 0) w := by kernel_rfl
theorem z4 (w : World) : (zeroValue 4).run Tryz.prog w = .ok (.bool false) w := by kernel_rfl
theorem z51 (w : World) : (zeroValue 51).run Tryz.prog w = .ok (.agg #[.int .i64 0, .int .i64 0, .int .i64 0, .int .i64 0, .int .i64 0]) w := by kernel_rfl
theorem z70 (w : World) : (zeroValue 70).run Tryz.prog w = .ok (.agg #[.int .i64 0, .int .i64 0, .int .i64 0, .int .i64 0, .int .i64 0, .int .i64 0]) w := by kernel_rfl
end Go.Proofs.YtnkpfpgmbpnbgaaGreatDoor

/- The laws of operations once more, their premises found by themselves, under short names; printed by a program of mine (gen_steps.py). -/
namespace Go.Eng
open Go.RowKit Go.Proofs Go.Proofs.YtnkpfpgmbpnbgaaGreatDoor
section
variable {m : Mode} {n : Shp} {B : Nat} {w0 : World} {ops : Array Oper} {Q : Exit → Act → World → Prop} {rest : List Oper} {env : Env} {H : List HP} {d : Nat} {ty : TypeId} {pos : String} {after : Array Edge} {xt yt : TypeId} {x y : Operand} {k : IntKind} {a b : Int} {s t : ByteArray}
theorem zs1 {x : Operand} {v : Value} (h : VL Tryz.prog m n B w0 ops Q rest ((d, v) :: env) H) (hx : evo env x = some v := by exact rfl) (hn : Nat.ble (d + 1) n.k = true := by exact rfl) : VL Tryz.prog m n B w0 ops Q (⟨some d, .move x, ty, pos, after, none⟩ :: rest) env H := VL_move hx hn h
theorem zs2 {x : Operand} {v : Value} (h : VL Tryz.prog m n B w0 ops Q rest ((d, v) :: env) H) (hx : evo env x = some v := by exact rfl) (hn : Nat.ble (d + 1) n.k = true := by exact rfl) : VL Tryz.prog m n B w0 ops Q (⟨some d, .assign x, ty, pos, after, none⟩ :: rest) env H := VL_assign hx hn h
theorem zs3 {m : Mode} {d : Nat} {op : Op} {ty : TypeId} {pos : String} {after : Array Edge} {j s : Nat} {b : Bool} {v : Value} {oj : Oper} (h : VL Tryz.prog m n B w0 ops Q rest ((d, undef) :: env) H) (hj : ops[j]? = some oj := by exact rfl) (hs : oj.dst = some s := by exact rfl) (hv : get env s = some v := by exact rfl) (hne : notB v b = true := by exact rfl) (hn : Nat.ble (d + 1) n.k = true := by exact rfl) : VL Tryz.prog m n B w0 ops Q (⟨some d, op, ty, pos, after, some (j, b)⟩ :: rest) env H := VL_guard_no hj hs hv hne hn h
theorem zs4 {m : Mode} {dst : Option Tmp} {op : Op} {ty : TypeId} {pos : String} {after : Array Edge} {j s : Nat} {b : Bool} {oj : Oper} (h : VL Tryz.prog m n B w0 ops Q (⟨dst, op, ty, pos, after, none⟩ :: rest) env H) (hj : ops[j]? = some oj := by exact rfl) (hs : oj.dst = some s := by exact rfl) (hv : get env s = some (.bool b) := by exact rfl) : VL Tryz.prog m n B w0 ops Q (⟨dst, op, ty, pos, after, some (j, b)⟩ :: rest) env H := VL_guard_yes hj hs hv h
theorem zs5 {x : Operand} {p : Addr} (h : VL Tryz.prog m n B w0 ops Q rest ((d, .pointer (some p)) :: env) H) (hx : evo env x = some (.pointer (some p)) := by exact rfl) (hn : Nat.ble (d + 1) n.k = true := by exact rfl) : VL Tryz.prog m n B w0 ops Q (⟨some d, .nilCheck x, ty, pos, after, none⟩ :: rest) env H := VL_nilCheck hx hn h
theorem zs6 {s f k g i : Nat} {x : Operand} (h : VL Tryz.prog m n B w0 ops Q rest ((d, .pointer (some ⟨g, i + k, none⟩)) :: env) H) (hx : evo env x = some (.pointer (some ⟨g, i, none⟩)) := by exact rfl) (hf : look2 T.fo s f = some k := by exact rfl) (hn : Nat.ble (d + 1) n.k = true := by exact rfl) : VL Tryz.prog m n B w0 ops Q (⟨some d, .fieldAddr s x f, ty, pos, after, none⟩ :: rest) env H := VL_fieldAddr T hx hf hn h
theorem zs7 {t g i : Nat} {cs : Array Value} {tt : TypeId} {fr : Nat × Nat} {v : Value} {x : Operand} (h : VL Tryz.prog m n B w0 ops Q rest ((d, v) :: env) H) (hx : evo env x = some (.pointer (some ⟨g, i, none⟩)) := by exact rfl) (hm : blk g (.cells cs tt fr) ∈ H := by ((focus repeat (first | with_reducible exact List.mem_cons_self | with_reducible apply List.mem_cons_of_mem | assumption)); done)) (hv : nth cs.toList i = some v := by exact rfl) (ht : look T.sc t = some () := by exact rfl) (hn : Nat.ble (d + 1) n.k = true := by exact rfl) : VL Tryz.prog m n B w0 ops Q (⟨some d, .load t x, ty, pos, after, none⟩ :: rest) env H := VL_load T hx hm hv ht hn h
theorem zs8 {t g k : Nat} {cs : Array Value} {tt : TypeId} {fr : Nat × Nat} {x : Operand} (h : VL Tryz.prog m n B w0 ops Q rest ((d, .agg cs) :: env) H) (hx : evo env x = some (.pointer (some ⟨g, 0, none⟩)) := by exact rfl) (hm : blk g (.cells cs tt fr) ∈ H := by ((focus repeat (first | with_reducible exact List.mem_cons_self | with_reducible apply List.mem_cons_of_mem | assumption)); done)) (ht : look T.ag t = some k := by exact rfl) (hk : cs.size = k := by exact rfl) (hn : Nat.ble (d + 1) n.k = true := by exact rfl) : VL Tryz.prog m n B w0 ops Q (⟨some d, .load t x, ty, pos, after, none⟩ :: rest) env H := VL_load_whole T hx hm ht hk hn h
theorem zs9 {tx : Nat} {x : Operand} {A : Option Addr} {k cap : Nat} {es : Nat × Nat × Nat} (h : VL Tryz.prog m n B w0 ops Q rest ((d, .int .i64 k) :: env) H) (hx : evo env x = some (.slice A k cap) := by exact rfl) (ht : look T.sl tx = some es := by exact rfl) (hn : Nat.ble (d + 1) n.k = true := by exact rfl) : VL Tryz.prog m n B w0 ops Q (⟨some d, .call ⟨.builtin .len, #[x], #[tx]⟩, ty, pos, after, none⟩ :: rest) env H := VL_len T hx ht hn h
theorem zs10 {t : Nat} {x y : Operand} {A : Option Addr} {k cap : Nat} {xs : List Value} {e size bytes : Nat} {ki : IntKind} {i : Int} (h : VL Tryz.prog m n B w0 ops Q rest ((d, sptr A (i.toNat * size)) :: env) H) (hx : evo env x = some (.slice A k cap) := by exact rfl) (hm : sl e size A k cap xs ∈ H := by ((focus repeat (first | with_reducible exact List.mem_cons_self | with_reducible apply List.mem_cons_of_mem | assumption)); done)) (hy : evo env y = some (.int ki i) := by exact rfl) (ht : look T.sl t = some (e, size, bytes) := by exact rfl) (hn : Nat.ble (d + 1) n.k = true := by exact rfl) (hi : 0 ≤ i ∧ i < k := by omega) : VL Tryz.prog m n B w0 ops Q (⟨some d, .indexAddr t x y, ty, pos, after, none⟩ :: rest) env H := VL_index_sl T hx hm hy ht hn hi h
theorem zs11 {c x y : Operand} {v : Value} (h : VL Tryz.prog m n B w0 ops Q rest ((d, v) :: env) H) (hc : evo env c = some (.bool true) := by exact rfl) (hx : evo env x = some v := by exact rfl) (hn : Nat.ble (d + 1) n.k = true := by exact rfl) : VL Tryz.prog m n B w0 ops Q (⟨some d, .pick c x y, ty, pos, after, none⟩ :: rest) env H := VL_pick_true hc hx hn h
theorem zs12 {c x y : Operand} {v : Value} (h : VL Tryz.prog m n B w0 ops Q rest ((d, v) :: env) H) (hc : evo env c = some (.bool false) := by exact rfl) (hx : evo env y = some v := by exact rfl) (hn : Nat.ble (d + 1) n.k = true := by exact rfl) : VL Tryz.prog m n B w0 ops Q (⟨some d, .pick c x y, ty, pos, after, none⟩ :: rest) env H := VL_pick_false hc hx hn h
theorem zs13 {x : Operand} {i : Nat} {vs : Array Value} {v : Value} (h : VL Tryz.prog m n B w0 ops Q rest ((d, v) :: env) H) (hx : evo env x = some (.tuple vs) := by exact rfl) (hv : nth vs.toList i = some v := by exact rfl) (hn : Nat.ble (d + 1) n.k = true := by exact rfl) : VL Tryz.prog m n B w0 ops Q (⟨some d, .extract x i, ty, pos, after, none⟩ :: rest) env H := VL_extract hx hv hn h
theorem zs14 {tx : TypeId} (h : VL Tryz.prog m n B w0 ops Q rest ((d, .int .i64 s.size) :: env) H) (hx : evo env x = some (.string s) := by exact rfl) (ht : look T.st tx = some () := by exact rfl) (hn : Nat.ble (d + 1) n.k = true := by exact rfl) : VL Tryz.prog m n B w0 ops Q (⟨some d, .call ⟨.builtin .len, #[x], #[tx]⟩, ty, pos, after, none⟩ :: rest) env H := VL_slen T hx ht hn h
theorem zs15  (h1 : a = b → VL Tryz.prog m n B w0 ops Q rest ((d, .bool true) :: env) H) (h2 : a ≠ b → VL Tryz.prog m n B w0 ops Q rest ((d, .bool false) :: env) H) (hx : evo env x = some (.int k a) := by exact rfl) (hy : evo env y = some (.int k b) := by exact rfl) (hn : Nat.ble (d + 1) n.k = true := by exact rfl) : VL Tryz.prog m n B w0 ops Q (⟨some d, .binOp .eql xt x y yt, ty, pos, after, none⟩ :: rest) env H := VL_eql hx hy hn h1 h2
theorem zs16  (h1 : a ≠ b → VL Tryz.prog m n B w0 ops Q rest ((d, .bool true) :: env) H) (h2 : a = b → VL Tryz.prog m n B w0 ops Q rest ((d, .bool false) :: env) H) (hx : evo env x = some (.int k a) := by exact rfl) (hy : evo env y = some (.int k b) := by exact rfl) (hn : Nat.ble (d + 1) n.k = true := by exact rfl) : VL Tryz.prog m n B w0 ops Q (⟨some d, .binOp .neq xt x y yt, ty, pos, after, none⟩ :: rest) env H := VL_neq hx hy hn h1 h2
theorem zs17  (h1 : a < b → VL Tryz.prog m n B w0 ops Q rest ((d, .bool true) :: env) H) (h2 : b ≤ a → VL Tryz.prog m n B w0 ops Q rest ((d, .bool false) :: env) H) (hx : evo env x = some (.int k a) := by exact rfl) (hy : evo env y = some (.int k b) := by exact rfl) (hn : Nat.ble (d + 1) n.k = true := by exact rfl) : VL Tryz.prog m n B w0 ops Q (⟨some d, .binOp .lss xt x y yt, ty, pos, after, none⟩ :: rest) env H := VL_lss hx hy hn h1 h2
theorem zs18  (h1 : a ≤ b → VL Tryz.prog m n B w0 ops Q rest ((d, .bool true) :: env) H) (h2 : b < a → VL Tryz.prog m n B w0 ops Q rest ((d, .bool false) :: env) H) (hx : evo env x = some (.int k a) := by exact rfl) (hy : evo env y = some (.int k b) := by exact rfl) (hn : Nat.ble (d + 1) n.k = true := by exact rfl) : VL Tryz.prog m n B w0 ops Q (⟨some d, .binOp .leq xt x y yt, ty, pos, after, none⟩ :: rest) env H := VL_leq hx hy hn h1 h2
theorem zs19  (h1 : b < a → VL Tryz.prog m n B w0 ops Q rest ((d, .bool true) :: env) H) (h2 : a ≤ b → VL Tryz.prog m n B w0 ops Q rest ((d, .bool false) :: env) H) (hx : evo env x = some (.int k a) := by exact rfl) (hy : evo env y = some (.int k b) := by exact rfl) (hn : Nat.ble (d + 1) n.k = true := by exact rfl) : VL Tryz.prog m n B w0 ops Q (⟨some d, .binOp .gtr xt x y yt, ty, pos, after, none⟩ :: rest) env H := VL_gtr hx hy hn h1 h2
theorem zs20  (h1 : b ≤ a → VL Tryz.prog m n B w0 ops Q rest ((d, .bool true) :: env) H) (h2 : a < b → VL Tryz.prog m n B w0 ops Q rest ((d, .bool false) :: env) H) (hx : evo env x = some (.int k a) := by exact rfl) (hy : evo env y = some (.int k b) := by exact rfl) (hn : Nat.ble (d + 1) n.k = true := by exact rfl) : VL Tryz.prog m n B w0 ops Q (⟨some d, .binOp .geq xt x y yt, ty, pos, after, none⟩ :: rest) env H := VL_geq hx hy hn h1 h2
theorem zs21 {xt yt : TypeId} {x : Operand} {s : ByteArray} (h1 : s = ⟨#[]⟩ → s.size = 0 → VL Tryz.prog m n B w0 ops Q rest ((d, .bool true) :: env) H) (h2 : s ≠ ⟨#[]⟩ → 1 ≤ s.size → VL Tryz.prog m n B w0 ops Q rest ((d, .bool false) :: env) H) (hx : evo env x = some (.string s) := by exact rfl) (hn : Nat.ble (d + 1) n.k = true := by exact rfl) : VL Tryz.prog m n B w0 ops Q (⟨some d, .binOp .eql xt x (.const (.string ⟨#[]⟩)) yt, ty, pos, after, none⟩ :: rest) env H := VL_seql0 hx hn h1 h2
theorem zs22 {xt yt : TypeId} {x : Operand} {s : ByteArray} (h1 : s ≠ ⟨#[]⟩ → 1 ≤ s.size → VL Tryz.prog m n B w0 ops Q rest ((d, .bool true) :: env) H) (h2 : s = ⟨#[]⟩ → s.size = 0 → VL Tryz.prog m n B w0 ops Q rest ((d, .bool false) :: env) H) (hx : evo env x = some (.string s) := by exact rfl) (hn : Nat.ble (d + 1) n.k = true := by exact rfl) : VL Tryz.prog m n B w0 ops Q (⟨some d, .binOp .neq xt x (.const (.string ⟨#[]⟩)) yt, ty, pos, after, none⟩ :: rest) env H := VL_sneq0 hx hn h1 h2
theorem zs23  (h1 : s = t → VL Tryz.prog m n B w0 ops Q rest ((d, .bool true) :: env) H) (h2 : s ≠ t → VL Tryz.prog m n B w0 ops Q rest ((d, .bool false) :: env) H) (hx : evo env x = some (.string s) := by exact rfl) (hy : evo env y = some (.string t) := by exact rfl) (hn : Nat.ble (d + 1) n.k = true := by exact rfl) : VL Tryz.prog m n B w0 ops Q (⟨some d, .binOp .eql xt x y yt, ty, pos, after, none⟩ :: rest) env H := VL_seql hx hy hn h1 h2
theorem zs24  (h1 : s ≠ t → VL Tryz.prog m n B w0 ops Q rest ((d, .bool true) :: env) H) (h2 : s = t → VL Tryz.prog m n B w0 ops Q rest ((d, .bool false) :: env) H) (hx : evo env x = some (.string s) := by exact rfl) (hy : evo env y = some (.string t) := by exact rfl) (hn : Nat.ble (d + 1) n.k = true := by exact rfl) : VL Tryz.prog m n B w0 ops Q (⟨some d, .binOp .neq xt x y yt, ty, pos, after, none⟩ :: rest) env H := VL_sneq hx hy hn h1 h2
theorem zs25 {x y : Operand} {k : IntKind} {a b : Int} {tys : Array TypeId} (h1 : b < a → VL Tryz.prog m n B w0 ops Q rest ((d, .int k b) :: env) H) (h2 : a ≤ b → VL Tryz.prog m n B w0 ops Q rest ((d, .int k a) :: env) H) (hx : evo env x = some (.int k a) := by exact rfl) (hy : evo env y = some (.int k b) := by exact rfl) (hn : Nat.ble (d + 1) n.k = true := by exact rfl) : VL Tryz.prog m n B w0 ops Q (⟨some d, .call ⟨.builtin .min, #[x, y], tys⟩, ty, pos, after, none⟩ :: rest) env H := VL_min2 hx hy hn h1 h2
theorem zs26 {t : Nat} {x lo hi : Operand} {s : ByteArray} {k1 k2 : IntKind} {i j : Int} (h : VL Tryz.prog m n B w0 ops Q rest ((d, .string (s.extract i.toNat j.toNat)) :: env) H) (hx : evo env x = some (.string s) := by exact rfl) (hl : evo env lo = some (.int k1 i) := by exact rfl) (hh : evo env hi = some (.int k2 j) := by exact rfl) (ht : look T.st t = some () := by exact rfl) (hn : Nat.ble (d + 1) n.k = true := by exact rfl) (hb : 0 ≤ i ∧ i ≤ j ∧ j ≤ s.size := by omega) : VL Tryz.prog m n B w0 ops Q (⟨some d, .slice t x (some lo) (some hi) none, ty, pos, after, none⟩ :: rest) env H := VL_substr T hx hl hh ht hn hb h
theorem zs27 {t : Nat} {x lo : Operand} {s : ByteArray} {k1 : IntKind} {i : Int} (h : VL Tryz.prog m n B w0 ops Q rest ((d, .string (s.extract i.toNat s.size)) :: env) H) (hx : evo env x = some (.string s) := by exact rfl) (hl : evo env lo = some (.int k1 i) := by exact rfl) (ht : look T.st t = some () := by exact rfl) (hn : Nat.ble (d + 1) n.k = true := by exact rfl) (hb : 0 ≤ i ∧ i ≤ s.size := by omega) : VL Tryz.prog m n B w0 ops Q (⟨some d, .slice t x (some lo) none none, ty, pos, after, none⟩ :: rest) env H := VL_substr_lo T hx hl ht hn hb h
theorem zs28 {t : Nat} {x hi : Operand} {s : ByteArray} {k2 : IntKind} {j : Int} (h : VL Tryz.prog m n B w0 ops Q rest ((d, .string (s.extract 0 j.toNat)) :: env) H) (hx : evo env x = some (.string s) := by exact rfl) (hh : evo env hi = some (.int k2 j) := by exact rfl) (ht : look T.st t = some () := by exact rfl) (hn : Nat.ble (d + 1) n.k = true := by exact rfl) (hb : 0 ≤ j ∧ j ≤ s.size := by omega) : VL Tryz.prog m n B w0 ops Q (⟨some d, .slice t x none (some hi) none, ty, pos, after, none⟩ :: rest) env H := VL_substr_hi T hx hh ht hn hb h
theorem zs29 {t : Nat} {x y : Operand} {s : ByteArray} {k : IntKind} {i : Int} (h : ∀ b : UInt8, s[i.toNat]? = some b → VL Tryz.prog m n B w0 ops Q rest ((d, .int .u8 b.toNat) :: env) H) (hx : evo env x = some (.string s) := by exact rfl) (hy : evo env y = some (.int k i) := by exact rfl) (ht : look T.st t = some () := by exact rfl) (hn : Nat.ble (d + 1) n.k = true := by exact rfl) (hi : 0 ≤ i ∧ i < s.size := by omega) : VL Tryz.prog m n B w0 ops Q (⟨some d, .index t x y, ty, pos, after, none⟩ :: rest) env H := VL_index_str T hx hy ht hn hi h
theorem zs30  (h : VL Tryz.prog m n B w0 ops Q rest ((d, .int .i64 (a + b)) :: env) H) (hx : evo env x = some (.int .i64 a) := by exact rfl) (hy : evo env y = some (.int .i64 b) := by exact rfl) (hn : Nat.ble (d + 1) n.k = true := by exact rfl) (hb : -9223372036854775808 ≤ a + b ∧ a + b ≤ 9223372036854775807 := by omega) : VL Tryz.prog m n B w0 ops Q (⟨some d, .binOp .add xt x y yt, ty, pos, after, none⟩ :: rest) env H := VL_add hx hy hn hb h
theorem zs31  (h : VL Tryz.prog m n B w0 ops Q rest ((d, .int .i64 (a - b)) :: env) H) (hx : evo env x = some (.int .i64 a) := by exact rfl) (hy : evo env y = some (.int .i64 b) := by exact rfl) (hn : Nat.ble (d + 1) n.k = true := by exact rfl) (hb : -9223372036854775808 ≤ a - b ∧ a - b ≤ 9223372036854775807 := by omega) : VL Tryz.prog m n B w0 ops Q (⟨some d, .binOp .sub xt x y yt, ty, pos, after, none⟩ :: rest) env H := VL_sub hx hy hn hb h
theorem zs32  (h : VL Tryz.prog m n B w0 ops Q rest ((d, .int .i64 (a * b)) :: env) H) (hx : evo env x = some (.int .i64 a) := by exact rfl) (hy : evo env y = some (.int .i64 b) := by exact rfl) (hn : Nat.ble (d + 1) n.k = true := by exact rfl) (hb : -9223372036854775808 ≤ a * b ∧ a * b ≤ 9223372036854775807 := by first | exact mul_bd (by omega) (by omega) (by omega) (by omega) | exact mul_bd' (by omega) (by omega) (by omega) (by omega) | omega) : VL Tryz.prog m n B w0 ops Q (⟨some d, .binOp .mul xt x y yt, ty, pos, after, none⟩ :: rest) env H := VL_mul hx hy hn hb h
theorem zs33  (h : ∀ r : Int, (r = a + b ∨ a + b < -9223372036854775808 ∨ 9223372036854775807 < a + b) → VL Tryz.prog m n B w0 ops Q rest ((d, .int .i64 r) :: env) H) (hx : evo env x = some (.int .i64 a) := by exact rfl) (hy : evo env y = some (.int .i64 b) := by exact rfl) (hn : Nat.ble (d + 1) n.k = true := by exact rfl) : VL Tryz.prog m n B w0 ops Q (⟨some d, .binOp .add xt x y yt, ty, pos, after, none⟩ :: rest) env H := VL_add_any hx hy hn h
theorem zs34  (h : ∀ r : Int, (r = a - b ∨ a - b < -9223372036854775808 ∨ 9223372036854775807 < a - b) → VL Tryz.prog m n B w0 ops Q rest ((d, .int .i64 r) :: env) H) (hx : evo env x = some (.int .i64 a) := by exact rfl) (hy : evo env y = some (.int .i64 b) := by exact rfl) (hn : Nat.ble (d + 1) n.k = true := by exact rfl) : VL Tryz.prog m n B w0 ops Q (⟨some d, .binOp .sub xt x y yt, ty, pos, after, none⟩ :: rest) env H := VL_sub_any hx hy hn h
theorem zs35  (h : ∀ r : Int, (r = a * b ∨ a * b < -9223372036854775808 ∨ 9223372036854775807 < a * b) → VL Tryz.prog m n B w0 ops Q rest ((d, .int .i64 r) :: env) H) (hx : evo env x = some (.int .i64 a) := by exact rfl) (hy : evo env y = some (.int .i64 b) := by exact rfl) (hn : Nat.ble (d + 1) n.k = true := by exact rfl) : VL Tryz.prog m n B w0 ops Q (⟨some d, .binOp .mul xt x y yt, ty, pos, after, none⟩ :: rest) env H := VL_mul_any hx hy hn h
theorem zs36  (h : VL Tryz.prog m n B w0 ops Q rest ((d, .int .i64 (a / b)) :: env) H) (hx : evo env x = some (.int .i64 a) := by exact rfl) (hy : evo env y = some (.int .i64 b) := by exact rfl) (hn : Nat.ble (d + 1) n.k = true := by exact rfl) (hb : 0 ≤ a ∧ a ≤ 9223372036854775807 ∧ 1 ≤ b := by omega) : VL Tryz.prog m n B w0 ops Q (⟨some d, .binOp .quo xt x y yt, ty, pos, after, none⟩ :: rest) env H := VL_quo hx hy hn hb h
theorem zs37  (h : VL Tryz.prog m n B w0 ops Q rest ((d, .int k (a % b)) :: env) H) (hx : evo env x = some (.int k a) := by exact rfl) (hy : evo env y = some (.int k b) := by exact rfl) (hn : Nat.ble (d + 1) n.k = true := by exact rfl) (hb : 0 ≤ a ∧ 1 ≤ b := by omega) : VL Tryz.prog m n B w0 ops Q (⟨some d, .binOp .rem xt x y yt, ty, pos, after, none⟩ :: rest) env H := VL_rem hx hy hn hb h
theorem zs38 {yk : IntKind} {D : Int} (h : VL Tryz.prog m n B w0 ops Q rest ((d, .int k (a / D)) :: env) H) (hx : evo env x = some (.int k a) := by exact rfl) (hn : Nat.ble (d + 1) n.k = true := by exact rfl) (hb : 0 ≤ b ∧ b ≤ k.bits := by (simp only [IntKind.bits]; omega)) (hD : (2 : Int) ^ b.toNat = D := by (simp only [Int.reduceToNat, Int.reducePow]; rfl)) : VL Tryz.prog m n B w0 ops Q (⟨some d, .binOp .shr xt x (.const (.int yk b)) yt, ty, pos, after, none⟩ :: rest) env H := VL_shr_c hx hn hb hD h
theorem zs39 {yk : IntKind} (h : VL Tryz.prog m n B w0 ops Q rest ((d, .int k (a / 2 ^ b.toNat)) :: env) H) (hx : evo env x = some (.int k a) := by exact rfl) (hy : evo env y = some (.int yk b) := by exact rfl) (hn : Nat.ble (d + 1) n.k = true := by exact rfl) (hb : 0 ≤ b ∧ b ≤ k.bits := by (simp only [IntKind.bits]; omega)) : VL Tryz.prog m n B w0 ops Q (⟨some d, .binOp .shr xt x y yt, ty, pos, after, none⟩ :: rest) env H := VL_shr hx hy hn hb h
theorem zs40 {yk : IntKind} (h : VL Tryz.prog m n B w0 ops Q rest ((d, .int k (k.wrap (a * 2 ^ b.toNat))) :: env) H) (hx : evo env x = some (.int k a) := by exact rfl) (hy : evo env y = some (.int yk b) := by exact rfl) (hn : Nat.ble (d + 1) n.k = true := by exact rfl) (hb : 0 ≤ b ∧ b ≤ k.bits := by (simp only [IntKind.bits]; omega)) : VL Tryz.prog m n B w0 ops Q (⟨some d, .binOp .shl xt x y yt, ty, pos, after, none⟩ :: rest) env H := VL_shl hx hy hn hb h
theorem zs41  (h : VL Tryz.prog m n B w0 ops Q rest ((d, .int k (bits .and k a b)) :: env) H) (hx : evo env x = some (.int k a) := by exact rfl) (hy : evo env y = some (.int k b) := by exact rfl) (hn : Nat.ble (d + 1) n.k = true := by exact rfl) : VL Tryz.prog m n B w0 ops Q (⟨some d, .binOp .and xt x y yt, ty, pos, after, none⟩ :: rest) env H := VL_and hx hy hn h
theorem zs42  (h : VL Tryz.prog m n B w0 ops Q rest ((d, .int k (bits .or k a b)) :: env) H) (hx : evo env x = some (.int k a) := by exact rfl) (hy : evo env y = some (.int k b) := by exact rfl) (hn : Nat.ble (d + 1) n.k = true := by exact rfl) : VL Tryz.prog m n B w0 ops Q (⟨some d, .binOp .or xt x y yt, ty, pos, after, none⟩ :: rest) env H := VL_or hx hy hn h
theorem zs43  (h : VL Tryz.prog m n B w0 ops Q rest ((d, .int k (bits .xor k a b)) :: env) H) (hx : evo env x = some (.int k a) := by exact rfl) (hy : evo env y = some (.int k b) := by exact rfl) (hn : Nat.ble (d + 1) n.k = true := by exact rfl) : VL Tryz.prog m n B w0 ops Q (⟨some d, .binOp .xor xt x y yt, ty, pos, after, none⟩ :: rest) env H := VL_xor hx hy hn h
theorem zs44 {src dst : TypeId} {j : IntKind} (h : VL Tryz.prog m n B w0 ops Q rest ((d, .int .i64 a) :: env) H) (hx : evo env x = some (.int k a) := by exact rfl) (hs : look T.ik src = some j := by exact rfl) (ht : look T.ik dst = some .i64 := by exact rfl) (hn : Nat.ble (d + 1) n.k = true := by exact rfl) (hb : -9223372036854775808 ≤ a ∧ a ≤ 9223372036854775807 := by omega) : VL Tryz.prog m n B w0 ops Q (⟨some d, .convert src dst x, ty, pos, after, none⟩ :: rest) env H := VL_conv_id T hx hs ht hn hb h
theorem zs45 {src dst : TypeId} {j : IntKind} (h : VL Tryz.prog m n B w0 ops Q rest ((d, .int .u64 a) :: env) H) (hx : evo env x = some (.int k a) := by exact rfl) (hs : look T.ik src = some j := by exact rfl) (ht : look T.ik dst = some .u64 := by exact rfl) (hn : Nat.ble (d + 1) n.k = true := by exact rfl) (hb : 0 ≤ a ∧ a ≤ 18446744073709551615 := by omega) : VL Tryz.prog m n B w0 ops Q (⟨some d, .convert src dst x, ty, pos, after, none⟩ :: rest) env H := VL_conv_u64 T hx hs ht hn hb h
theorem zs46 {src dst : TypeId} {j : IntKind} {kd : IntKind} (h : VL Tryz.prog m n B w0 ops Q rest ((d, .int kd (kd.wrap a)) :: env) H) (hx : evo env x = some (.int k a) := by exact rfl) (hs : look T.ik src = some j := by exact rfl) (ht : look T.ik dst = some kd := by exact rfl) (hn : Nat.ble (d + 1) n.k = true := by exact rfl) : VL Tryz.prog m n B w0 ops Q (⟨some d, .convert src dst x, ty, pos, after, none⟩ :: rest) env H := VL_conv T hx hs ht hn h
theorem zs47 {x : Operand} {xt : TypeId} (h : VL Tryz.prog m n B w0 ops Q rest ((d, .bool false) :: env) H) (hx : evo env x = some (.bool true) := by exact rfl) (hn : Nat.ble (d + 1) n.k = true := by exact rfl) : VL Tryz.prog m n B w0 ops Q (⟨some d, .unOp .not xt x, ty, pos, after, none⟩ :: rest) env H := VL_not_true hx hn h
theorem zs48 {x : Operand} {xt : TypeId} (h : VL Tryz.prog m n B w0 ops Q rest ((d, .bool true) :: env) H) (hx : evo env x = some (.bool false) := by exact rfl) (hn : Nat.ble (d + 1) n.k = true := by exact rfl) : VL Tryz.prog m n B w0 ops Q (⟨some d, .unOp .not xt x, ty, pos, after, none⟩ :: rest) env H := VL_not_false hx hn h
theorem zs49 {t tt : Nat} {x y : Operand} {A : Option Addr} {k cap : Nat} {xs : List Value} {g mm c : Nat} {cs : Array Value} {fr : Nat × Nat} {e size bytes : Nat} {K : Option Addr → Nat → List HP} (h : ∀ A' cap', VL Tryz.prog none n B w0 ops Q rest ((d, .slice A' (k + mm) cap') :: env) (K A' cap')) (hx : evo env x = some (.slice A k cap) := by exact rfl) (ht : look T.sl t = some (e, size, bytes) := by exact rfl) (hy : evo env y = some (.slice (some ⟨g, 0, none⟩) mm c) := by exact rfl) (hb : blk g (.cells cs tt fr) ∈ H := by ((focus repeat (first | with_reducible exact List.mem_cons_self | with_reducible apply List.mem_cons_of_mem | assumption)); done)) (hk : cs.size = mm * size := by exact rfl) (h1 : allOne cs.toList = true := by exact rfl) (hn : Nat.ble (d + 1) n.k = true := by exact rfl) (hu : ∀ A' cap', Upd (sl e size A k cap xs) (sl e size A' (k + mm) cap' (xs ++ cs.toList)) H (K A' cap') := by ((intro _ _; (repeat (first | with_reducible exact Upd.here _ | with_reducible apply Upd.there))); done)) (hby : (k + mm) * bytes ≤ 140737488355328 := by omega) : VL Tryz.prog none n B w0 ops Q (⟨some d, .call ⟨.builtin .append, #[x, y], #[t, t]⟩, ty, pos, after, none⟩ :: rest) env H := VL_append T hx ht hy hb hk h1 hn hu hby h
theorem zs50 {t g i : Nat} {cs cs' : List Value} {tt : TypeId} {v : Value} {x y : Operand} {K : List HP} (h : VL Tryz.prog none n B w0 ops Q rest env K) (hx : evo env x = some (.pointer (some ⟨g, i, none⟩)) := by exact rfl) (hy : evo env y = some v := by exact rfl) (h1 : v.oneCell' = true := by exact rfl) (hu : Upd (blk g (.cells cs.toArray tt (0, 0))) (blk g (.cells cs'.toArray tt (0, 0))) H K := by ((repeat (first | with_reducible exact Upd.here _ | with_reducible apply Upd.there)); done)) (hs : SetAt cs i v cs' := by ((repeat (first | exact setat_here | apply setat_there)) ; done)) (ht : look T.sc t = some () := by exact rfl) : VL Tryz.prog none n B w0 ops Q (⟨none, .store t x y, ty, pos, after, none⟩ :: rest) env H := VL_store T hx hy h1 hu hs ht h
theorem zs51 {t g i k : Nat} {cs vs cs' : List Value} {tt : TypeId} {x y : Operand} {K : List HP} (h : VL Tryz.prog none n B w0 ops Q rest env K) (hx : evo env x = some (.pointer (some ⟨g, i, none⟩)) := by exact rfl) (hy : evo env y = some (.agg vs.toArray) := by exact rfl) (h1 : allOne vs = true := by exact rfl) (hu : Upd (blk g (.cells cs.toArray tt (0, 0))) (blk g (.cells cs'.toArray tt (0, 0))) H K := by ((repeat (first | with_reducible exact Upd.here _ | with_reducible apply Upd.there)); done)) (hs : PutAt cs i vs cs' := by ((repeat (first | exact PutAt.nil | (apply PutAt.cons; (repeat (first | exact setat_here | apply setat_there)) ))) ; done)) (ht : look T.ag t = some k := by exact rfl) (hk : vs.length = k := by exact rfl) : VL Tryz.prog none n B w0 ops Q (⟨none, .store t x y, ty, pos, after, none⟩ :: rest) env H := VL_store_agg T hx hy h1 hu hs ht hk h
theorem zs52 {t : TypeId} {x : Operand} {cs : Array Value} (h : ∀ g, VL Tryz.prog none n B w0 ops Q rest ((d, .pointer (some ⟨g, 0, none⟩)) :: env) (blk g (.cells cs t (0, 0)) :: H)) (hx : evo env x = some (.agg cs) := by exact rfl) (hn : Nat.ble (d + 1) n.k = true := by exact rfl) : VL Tryz.prog none n B w0 ops Q (⟨some d, .box t x, ty, pos, after, none⟩ :: rest) env H := VL_box_agg hx hn h
theorem zs53 {t : TypeId} {x : Operand} {v : Value} (h : ∀ g, VL Tryz.prog none n B w0 ops Q rest ((d, .pointer (some ⟨g, 0, none⟩)) :: env) (blk g (.cells #[v] t (0, 0)) :: H)) (hx : evo env x = some v := by exact rfl) (h1 : v.cells = #[v] := by exact rfl) (hn : Nat.ble (d + 1) n.k = true := by exact rfl) : VL Tryz.prog none n B w0 ops Q (⟨some d, .box t x, ty, pos, after, none⟩ :: rest) env H := VL_box_one hx h1 hn h
theorem zs54 {t : TypeId} {z : Value} {cs : Array Value} (h : ∀ g, VL Tryz.prog none n B w0 ops Q rest ((d, .pointer (some ⟨g, 0, none⟩)) :: env) (blk g (.cells cs t (0, 0)) :: H)) (hz : look T2.zt t = some z := by exact rfl) (hc : z.cells = cs := by exact rfl) (hn : Nat.ble (d + 1) n.k = true := by exact rfl) : VL Tryz.prog none n B w0 ops Q (⟨some d, .alloc t, ty, pos, after, none⟩ :: rest) env H := VL_allocT T2 hz hc hn h
theorem zs55 {t : TypeId} {parts : List (Nat × Operand)} {ps : List (Nat × Value)} {zc : Array Value} {pl : List (Nat × Nat)} {cs : List Value} (h : VL Tryz.prog m n B w0 ops Q rest ((d, .agg cs.toArray) :: env) H) (hp : partsV env parts = some ps := by exact rfl) (hz : look T2.zt t = some (.agg zc) := by exact rfl) (hl : look T2.bt t = some pl := by exact rfl) (hf : fillL (pl[·]?) zc.toList ps = some cs := by exact rfl) (hn : Nat.ble (d + 1) n.k = true := by exact rfl) : VL Tryz.prog m n B w0 ops Q (⟨some d, .build t parts.toArray, ty, pos, after, none⟩ :: rest) env H := VL_buildT T2 hp hz hl hf hn h
theorem zs56 {t e len size bytes : Nat} {parts : List (Nat × Operand)} {ps : List (Nat × Value)} {z : Value} {zl cs : List Value} (h : ∀ g, VL Tryz.prog none n B w0 ops Q rest ((d, .slice (some ⟨g, 0, none⟩) len len) :: env) (blk g (.cells cs.toArray e (0, 0)) :: H)) (ht : look T.sl t = some (e, size, bytes) := by exact rfl) (hp : partsV env parts = some ps := by exact rfl) (hz : look T2.zt e = some z := by exact rfl) (hzc : z.cells = zl.toArray := by exact rfl) (hf : fillL (fun i => some (i * size, size)) (repZ len zl) ps = some cs := by exact rfl) (hn : Nat.ble (d + 1) n.k = true := by exact rfl) (hl : (Nat.blt 0 (len * size) && Nat.beq zl.length size && Nat.ble (len * size) 1000000) = true := by exact rfl) : VL Tryz.prog none n B w0 ops Q (⟨some d, .buildSlice t len parts.toArray, ty, pos, after, none⟩ :: rest) env H := VL_buildSliceT T T2 ht hp hz hzc hf hn hl h
theorem zs57 {α : Type} {f : α → List Value} {l : List α} {t : Nat} {x y : Operand} {A : Option Addr} {cap : Nat} {e size bytes : Nat} {ki : IntKind} {i : Int} (h : VL Tryz.prog m n B w0 ops Q rest ((d, sptr A (i.toNat * size)) :: env) H) (hx : evo env x = some (.slice A l.length cap) := by exact rfl) (hy : evo env y = some (.int ki i) := by exact rfl) (hr : Rd B w0 H A (l.flatMap f) := by ((first | (focus (repeat (first | assumption | apply Rd.cons)); done) | exact Rd.sl (by (focus repeat (first | with_reducible exact List.mem_cons_self | with_reducible apply List.mem_cons_of_mem | assumption)))); done)) (ht : look T.sl t = some (e, size, bytes) := by exact rfl) (hq : ∀ a, (f a).length = size := by exact fun _ => rfl) (h0 : Nat.blt 0 size = true := by exact rfl) (hn : Nat.ble (d + 1) n.k = true := by exact rfl) (hi : 0 ≤ i ∧ i < l.length := by omega) : VL Tryz.prog m n B w0 ops Q (⟨some d, .indexAddr t x y, ty, pos, after, none⟩ :: rest) env H := VL_index_rd T hx hy hr ht hq h0 hn hi h
theorem zs58 {α : Type} {f : α → List Value} {l : List α} {s fl k i q : Nat} {x : Operand} {A : Option Addr} (h : VL Tryz.prog m n B w0 ops Q rest ((d, sptr A (i * q + k)) :: env) H) (hx : evo env x = some (sptr A (i * q)) := by exact rfl) (hr : Rd B w0 H A (l.flatMap f) := by ((first | (focus (repeat (first | assumption | apply Rd.cons)); done) | exact Rd.sl (by (focus repeat (first | with_reducible exact List.mem_cons_self | with_reducible apply List.mem_cons_of_mem | assumption)))); done)) (hq : ∀ a, (f a).length = q := by exact fun _ => rfl) (h0 : Nat.blt 0 q = true := by exact rfl) (hf : look2 T.fo s fl = some k := by exact rfl) (hn : Nat.ble (d + 1) n.k = true := by exact rfl) (hi : i < l.length := by omega) : VL Tryz.prog m n B w0 ops Q (⟨some d, .fieldAddr s x fl, ty, pos, after, none⟩ :: rest) env H := VL_field_row T hx hr hq h0 hf hn hi h
theorem zs59 {α : Type} {f : α → List Value} {l : List α} {t i q o : Nat} {b : α} {x : Operand} {A : Option Addr} {v : Value} (h : VL Tryz.prog m n B w0 ops Q rest ((d, v) :: env) H) (hx : evo env x = some (sptr A (i * q + o)) := by exact rfl) (hr : Rd B w0 H A (l.flatMap f) := by ((first | (focus (repeat (first | assumption | apply Rd.cons)); done) | exact Rd.sl (by (focus repeat (first | with_reducible exact List.mem_cons_self | with_reducible apply List.mem_cons_of_mem | assumption)))); done)) (hb : l[i]? = some b := by assumption) (hq : ∀ a, (f a).length = q := by exact fun _ => rfl) (ho : Nat.blt o q = true := by exact rfl) (hv : nth (f b) o = some v := by exact rfl) (ht : look T.sc t = some () := by exact rfl) (hn : Nat.ble (d + 1) n.k = true := by exact rfl) : VL Tryz.prog m n B w0 ops Q (⟨some d, .load t x, ty, pos, after, none⟩ :: rest) env H := VL_load_rd T hx hr hb hq ho hv ht hn h
theorem zs60 {α : Type} {f : α → List Value} {l : List α} {t i q : Nat} {b : α} {x : Operand} {A : Option Addr} {v : Value} (h : VL Tryz.prog m n B w0 ops Q rest ((d, v) :: env) H) (hx : evo env x = some (sptr A (i * q)) := by exact rfl) (hr : Rd B w0 H A (l.flatMap f) := by ((first | (focus (repeat (first | assumption | apply Rd.cons)); done) | exact Rd.sl (by (focus repeat (first | with_reducible exact List.mem_cons_self | with_reducible apply List.mem_cons_of_mem | assumption)))); done)) (hb : l[i]? = some b := by assumption) (hq : ∀ a, (f a).length = q := by exact fun _ => rfl) (ho : Nat.blt 0 q = true := by exact rfl) (hv : nth (f b) 0 = some v := by exact rfl) (ht : look T.sc t = some () := by exact rfl) (hn : Nat.ble (d + 1) n.k = true := by exact rfl) : VL Tryz.prog m n B w0 ops Q (⟨some d, .load t x, ty, pos, after, none⟩ :: rest) env H := VL_load_rd0 T hx hr hb hq ho hv ht hn h
theorem zs61 {α : Type} {f : α → List Value} {l : List α} {t i q : Nat} {b : α} {x : Operand} {A : Option Addr} (h : VL Tryz.prog m n B w0 ops Q rest ((d, .agg (f b).toArray) :: env) H) (hx : evo env x = some (sptr A (i * q)) := by exact rfl) (hr : Rd B w0 H A (l.flatMap f) := by ((first | (focus (repeat (first | assumption | apply Rd.cons)); done) | exact Rd.sl (by (focus repeat (first | with_reducible exact List.mem_cons_self | with_reducible apply List.mem_cons_of_mem | assumption)))); done)) (hb : l[i]? = some b := by assumption) (hq : ∀ a, (f a).length = q := by exact fun _ => rfl) (ho : Nat.blt 0 q = true := by exact rfl) (ht : look T.ag t = some q := by exact rfl) (hn : Nat.ble (d + 1) n.k = true := by exact rfl) : VL Tryz.prog m n B w0 ops Q (⟨some d, .load t x, ty, pos, after, none⟩ :: rest) env H := VL_load_agg_rd T hx hr hb hq ho ht hn h
theorem zs62 {x y : Operand} {k : IntKind} {a b : Int} {tys : Array TypeId} (h1 : a < b → VL Tryz.prog m n B w0 ops Q rest ((d, .int k b) :: env) H) (h2 : b ≤ a → VL Tryz.prog m n B w0 ops Q rest ((d, .int k a) :: env) H) (hx : evo env x = some (.int k a) := by exact rfl) (hy : evo env y = some (.int k b) := by exact rfl) (hn : Nat.ble (d + 1) n.k = true := by exact rfl) : VL Tryz.prog m n B w0 ops Q (⟨some d, .call ⟨.builtin .max, #[x, y], tys⟩, ty, pos, after, none⟩ :: rest) env H := VL_max2 hx hy hn h1 h2
theorem zs63 {xt yt : TypeId} {x y : Operand} {a b : Bool} (h : VL Tryz.prog m n B w0 ops Q rest ((d, .bool (!(a == b))) :: env) H) (hx : evo env x = some (.bool a) := by exact rfl) (hy : evo env y = some (.bool b) := by exact rfl) (hn : Nat.ble (d + 1) n.k = true := by exact rfl) (ht : isBool Tryz.prog xt = true := by kernel_rfl) : VL Tryz.prog m n B w0 ops Q (⟨some d, .binOp .neq xt x y yt, ty, pos, after, none⟩ :: rest) env H := VL_bneq hx hy hn ht h
theorem zs64 {xt yt : TypeId} {x y : Operand} {a b : Bool} (h : VL Tryz.prog m n B w0 ops Q rest ((d, .bool (a == b)) :: env) H) (hx : evo env x = some (.bool a) := by exact rfl) (hy : evo env y = some (.bool b) := by exact rfl) (hn : Nat.ble (d + 1) n.k = true := by exact rfl) (ht : isBool Tryz.prog xt = true := by kernel_rfl) : VL Tryz.prog m n B w0 ops Q (⟨some d, .binOp .eql xt x y yt, ty, pos, after, none⟩ :: rest) env H := VL_beql hx hy hn ht h
theorem zs65  (h : VQ n B w0 Q .normal env H)  : VL Tryz.prog none n B w0 ops Q [] env H := VL_nil h
theorem zs66  (h : VQ n B w0 Q .normal env H)  : VL Tryz.prog (some none) n B w0 ops Q [] env H := VL_nilq h
theorem zs68 {y : Code} (h : VC Tryz.prog n B w0 y Q env H)  : VQ n B w0 (Exit.then (wpR Tryz.prog n.r y Q) Q) .normal env H := VQ_then h
theorem zs69 {x y : Code} (h : VC Tryz.prog n B w0 x (Exit.then (wpR Tryz.prog n.r y Q) Q) env H)  : VC Tryz.prog n B w0 (.seq x y) Q env H := VC_seq h
theorem zs70 {id : Nat} {l : List Oper} (h : VL Tryz.prog none n B w0 l.toArray Q l env H)  : VC Tryz.prog n B w0 (.region id l.toArray false) Q env H := VC_region h
theorem zs71 {c : Operand} {x y : Code} (h : VC Tryz.prog n B w0 x Q env H) (hc : evo env c = some (.bool true) := by exact rfl) : VC Tryz.prog n B w0 (.cond c x y) Q env H := VC_cond_true hc h
theorem zs72 {c : Operand} {x y : Code} (h : VC Tryz.prog n B w0 y Q env H) (hc : evo env c = some (.bool false) := by exact rfl) : VC Tryz.prog n B w0 (.cond c x y) Q env H := VC_cond_false hc h
theorem zs73 {id : Nat} {c : Code} (h : VC Tryz.prog n B w0 c (Exit.inBlock id Q) env H)  : VC Tryz.prog n B w0 (.block id c) Q env H := VC_block h
theorem zs74  (h : VQ n B w0 Q .ret env H)  : VC Tryz.prog n B w0 .ret Q env H := VC_ret h
theorem zs75 {id : Nat} (h : VQ n B w0 Q (.exit id) env H)  : VC Tryz.prog n B w0 (.exit id) Q env H := VC_exit h
theorem zs76  (h : VQ n B w0 Q .normal env H)  : VC Tryz.prog n B w0 .skip Q env H := VC_skip h
theorem zs77 {K : Act → World → Prop} (h : VQ n B w0 Q .ret env H)  : VQ n B w0 (Exit.then K Q) .ret env H := VQ_then_ret h
theorem zs78 {id : Nat} (h : VQ n B w0 Q .ret env H)  : VQ n B w0 (Exit.inBlock id Q) .ret env H := VQ_block_ret h
theorem zs79 {id : Nat} (h : VQ n B w0 Q .normal env H)  : VQ n B w0 (Exit.inBlock id Q) .normal env H := VQ_block_normal h
theorem zs80 {K : Act → World → Prop} {id : Nat} (h : VQ n B w0 Q (.exit id) env H)  : VQ n B w0 (Exit.then K Q) (.exit id) env H := VQ_then_exit h
theorem zs81 {id : Nat} (h : VQ n B w0 Q .normal env H)  : VQ n B w0 (Exit.inBlock id Q) (.exit id) env H := VQ_block_exit h
theorem zs82 {id id' : Nat} (h : VQ n B w0 Q (.exit id') env H) (hne : Nat.beq id' id = false := by exact rfl) : VQ n B w0 (Exit.inBlock id Q) (.exit id') env H := VQ_block_other hne h
theorem zs83 {id : Nat} {l : List Oper} (h : VL Tryz.prog (some none) n B w0 l.toArray Q l env H) (hq : (l.all fun o => !eff o) = true := by exact rfl) (hm : Tryz.prog.follows .mixedOrders = true := by kernel_rfl) (hB : Region.lexB .any l.toArray = true := by kernel_rfl) : VC Tryz.prog n B w0 (.region id l.toArray true) Q env H := VC_drawp hq hm hB h
theorem zs84 {id : Nat} {l : List Oper} (h : VL Tryz.prog (some none) n B w0 l.toArray Q l env H) (hq : (l.all fun o => !effW o) = true := by exact rfl) (hm : Tryz.prog.follows .mixedOrders = true := by kernel_rfl) (hB : Region.lexB .any l.toArray = true := by kernel_rfl) : VC Tryz.prog n B w0 (.region id l.toArray true) Q env H := VC_drawc hq hm hB h
theorem zs87 {o : Oper} {F HF : List HP} (h : VL Tryz.prog none n B w0 ops (HeldQ Tryz.prog B w0 ops Q H rest) [o] env HF) (he : eff o = true := by exact rfl) (hg : o.guard = none := by exact rfl) (happ : App H F HF := by ((repeat (first | with_reducible exact app_nil | with_reducible apply app_cons | exact app_niln _)); done)) : VL Tryz.prog (some (some F)) n B w0 ops Q (o :: rest) env H := VL_heff he hg happ h
theorem zs90 {l : List Oper} {F : List HP} {i : Nat} {t : OT} {o : Oper} (h : VL Tryz.prog (some (some F)) n B w0 ops (TreeQ Tryz.prog B w0 ops l Q H t) [o] env H) (ho : nthO l i = o := by (simp only [nthO]; rfl)) : VT Tryz.prog n B w0 ops l Q (.n1 i t) env H F := VT_n1 ho h
theorem zs91 {l : List Oper} {F : List HP} {i j : Nat} {t u : OT} {o o' : Oper} (h : VL Tryz.prog (some (some F)) n B w0 ops (TreeQ Tryz.prog B w0 ops l Q H t) [o] env H) (h' : VL Tryz.prog (some (some F)) n B w0 ops (TreeQ Tryz.prog B w0 ops l Q H u) [o'] env H) (ho : nthO l i = o := by (simp only [nthO]; rfl)) (ho' : nthO l j = o' := by (simp only [nthO]; rfl)) : VT Tryz.prog n B w0 ops l Q (.n2 i t j u) env H F := VT_n2 ho ho' h h'
theorem zs93 {l : List Oper} (h : VL Tryz.prog none n B w0 ops Q l env H)  : VQ n B w0 (TailQ Tryz.prog ops Q l) .normal env H := VQ_tailq h
theorem zs94  (h : VQ n B w0 Q .normal env H)  : VQ n B w0 (Only Q) .normal env H := VQ_only h
theorem zg1 {m : Mode} {d : Nat} {op : Op} {ty : TypeId} {pos : String} {after : Array Edge} {j : Nat} {b : Bool} (h : VL Tryz.prog m n B w0 ops Q (⟨some d, op, ty, pos, after, some (j, b)⟩ :: rest) env H) : VL Tryz.prog m n B w0 ops Q (⟨some d, op, ty, pos, after, some (j, b)⟩ :: rest) env H := h
theorem zg2 {s f : Nat} {x : Operand} (h : VL Tryz.prog m n B w0 ops Q (⟨some d, .fieldAddr s x f, ty, pos, after, none⟩ :: rest) env H) : VL Tryz.prog m n B w0 ops Q (⟨some d, .fieldAddr s x f, ty, pos, after, none⟩ :: rest) env H := h
theorem zg3 {t : Nat} {x : Operand} (h : VL Tryz.prog m n B w0 ops Q (⟨some d, .load t x, ty, pos, after, none⟩ :: rest) env H) : VL Tryz.prog m n B w0 ops Q (⟨some d, .load t x, ty, pos, after, none⟩ :: rest) env H := h
theorem zg4 {tx : Nat} {x : Operand} (h : VL Tryz.prog m n B w0 ops Q (⟨some d, .call ⟨.builtin .len, #[x], #[tx]⟩, ty, pos, after, none⟩ :: rest) env H) : VL Tryz.prog m n B w0 ops Q (⟨some d, .call ⟨.builtin .len, #[x], #[tx]⟩, ty, pos, after, none⟩ :: rest) env H := h
theorem zg5 {t : Nat} {x y : Operand} (h : VL Tryz.prog m n B w0 ops Q (⟨some d, .indexAddr t x y, ty, pos, after, none⟩ :: rest) env H) : VL Tryz.prog m n B w0 ops Q (⟨some d, .indexAddr t x y, ty, pos, after, none⟩ :: rest) env H := h
theorem zg6 {c x y : Operand} (h : VL Tryz.prog m n B w0 ops Q (⟨some d, .pick c x y, ty, pos, after, none⟩ :: rest) env H) : VL Tryz.prog m n B w0 ops Q (⟨some d, .pick c x y, ty, pos, after, none⟩ :: rest) env H := h
theorem zg7  (h : VL Tryz.prog m n B w0 ops Q (⟨some d, .binOp .eql xt x y yt, ty, pos, after, none⟩ :: rest) env H) : VL Tryz.prog m n B w0 ops Q (⟨some d, .binOp .eql xt x y yt, ty, pos, after, none⟩ :: rest) env H := h
theorem zg8  (h : VL Tryz.prog m n B w0 ops Q (⟨some d, .binOp .neq xt x y yt, ty, pos, after, none⟩ :: rest) env H) : VL Tryz.prog m n B w0 ops Q (⟨some d, .binOp .neq xt x y yt, ty, pos, after, none⟩ :: rest) env H := h
theorem zg9 {t : Nat} {x lo hi : Operand} (h : VL Tryz.prog m n B w0 ops Q (⟨some d, .slice t x (some lo) (some hi) none, ty, pos, after, none⟩ :: rest) env H) : VL Tryz.prog m n B w0 ops Q (⟨some d, .slice t x (some lo) (some hi) none, ty, pos, after, none⟩ :: rest) env H := h
theorem zg10 {t : Nat} {x lo : Operand} (h : VL Tryz.prog m n B w0 ops Q (⟨some d, .slice t x (some lo) none none, ty, pos, after, none⟩ :: rest) env H) : VL Tryz.prog m n B w0 ops Q (⟨some d, .slice t x (some lo) none none, ty, pos, after, none⟩ :: rest) env H := h
theorem zg11 {t : Nat} {x hi : Operand} (h : VL Tryz.prog m n B w0 ops Q (⟨some d, .slice t x none (some hi) none, ty, pos, after, none⟩ :: rest) env H) : VL Tryz.prog m n B w0 ops Q (⟨some d, .slice t x none (some hi) none, ty, pos, after, none⟩ :: rest) env H := h
theorem zg12 {t : Nat} {x y : Operand} (h : VL Tryz.prog m n B w0 ops Q (⟨some d, .index t x y, ty, pos, after, none⟩ :: rest) env H) : VL Tryz.prog m n B w0 ops Q (⟨some d, .index t x y, ty, pos, after, none⟩ :: rest) env H := h
theorem zg13  (h : VL Tryz.prog m n B w0 ops Q (⟨some d, .binOp .add xt x y yt, ty, pos, after, none⟩ :: rest) env H) : VL Tryz.prog m n B w0 ops Q (⟨some d, .binOp .add xt x y yt, ty, pos, after, none⟩ :: rest) env H := h
theorem zg14  (h : VL Tryz.prog m n B w0 ops Q (⟨some d, .binOp .sub xt x y yt, ty, pos, after, none⟩ :: rest) env H) : VL Tryz.prog m n B w0 ops Q (⟨some d, .binOp .sub xt x y yt, ty, pos, after, none⟩ :: rest) env H := h
theorem zg15  (h : VL Tryz.prog m n B w0 ops Q (⟨some d, .binOp .mul xt x y yt, ty, pos, after, none⟩ :: rest) env H) : VL Tryz.prog m n B w0 ops Q (⟨some d, .binOp .mul xt x y yt, ty, pos, after, none⟩ :: rest) env H := h
theorem zg16  (h : VL Tryz.prog m n B w0 ops Q (⟨some d, .binOp .quo xt x y yt, ty, pos, after, none⟩ :: rest) env H) : VL Tryz.prog m n B w0 ops Q (⟨some d, .binOp .quo xt x y yt, ty, pos, after, none⟩ :: rest) env H := h
theorem zg17  (h : VL Tryz.prog m n B w0 ops Q (⟨some d, .binOp .rem xt x y yt, ty, pos, after, none⟩ :: rest) env H) : VL Tryz.prog m n B w0 ops Q (⟨some d, .binOp .rem xt x y yt, ty, pos, after, none⟩ :: rest) env H := h
theorem zg18  (h : VL Tryz.prog m n B w0 ops Q (⟨some d, .binOp .shr xt x y yt, ty, pos, after, none⟩ :: rest) env H) : VL Tryz.prog m n B w0 ops Q (⟨some d, .binOp .shr xt x y yt, ty, pos, after, none⟩ :: rest) env H := h
theorem zg19 {src dst : TypeId} (h : VL Tryz.prog m n B w0 ops Q (⟨some d, .convert src dst x, ty, pos, after, none⟩ :: rest) env H) : VL Tryz.prog m n B w0 ops Q (⟨some d, .convert src dst x, ty, pos, after, none⟩ :: rest) env H := h
theorem zg20 {x : Operand} {xt : TypeId} (h : VL Tryz.prog m n B w0 ops Q (⟨some d, .unOp .not xt x, ty, pos, after, none⟩ :: rest) env H) : VL Tryz.prog m n B w0 ops Q (⟨some d, .unOp .not xt x, ty, pos, after, none⟩ :: rest) env H := h
theorem zg21 {t : Nat} {x y : Operand} (h : VL Tryz.prog m n B w0 ops Q (⟨some d, .call ⟨.builtin .append, #[x, y], #[t, t]⟩, ty, pos, after, none⟩ :: rest) env H) : VL Tryz.prog m n B w0 ops Q (⟨some d, .call ⟨.builtin .append, #[x, y], #[t, t]⟩, ty, pos, after, none⟩ :: rest) env H := h
theorem zg22 {t : Nat} {x y : Operand} (h : VL Tryz.prog m n B w0 ops Q (⟨none, .store t x y, ty, pos, after, none⟩ :: rest) env H) : VL Tryz.prog m n B w0 ops Q (⟨none, .store t x y, ty, pos, after, none⟩ :: rest) env H := h
theorem zg23 {t : TypeId} {x : Operand} (h : VL Tryz.prog m n B w0 ops Q (⟨some d, .box t x, ty, pos, after, none⟩ :: rest) env H) : VL Tryz.prog m n B w0 ops Q (⟨some d, .box t x, ty, pos, after, none⟩ :: rest) env H := h
theorem zg24 {t : TypeId} (h : VL Tryz.prog m n B w0 ops Q (⟨some d, .alloc t, ty, pos, after, none⟩ :: rest) env H) : VL Tryz.prog m n B w0 ops Q (⟨some d, .alloc t, ty, pos, after, none⟩ :: rest) env H := h
theorem zg25 {t : TypeId} {parts : List (Nat × Operand)} (h : VL Tryz.prog m n B w0 ops Q (⟨some d, .build t parts.toArray, ty, pos, after, none⟩ :: rest) env H) : VL Tryz.prog m n B w0 ops Q (⟨some d, .build t parts.toArray, ty, pos, after, none⟩ :: rest) env H := h
theorem zg26 {t len : Nat} {parts : List (Nat × Operand)} (h : VL Tryz.prog m n B w0 ops Q (⟨some d, .buildSlice t len parts.toArray, ty, pos, after, none⟩ :: rest) env H) : VL Tryz.prog m n B w0 ops Q (⟨some d, .buildSlice t len parts.toArray, ty, pos, after, none⟩ :: rest) env H := h
theorem zg27 {c : Operand} {x y : Code} (h : VC Tryz.prog n B w0 (.cond c x y) Q env H) : VC Tryz.prog n B w0 (.cond c x y) Q env H := h
theorem zg28 {id : Nat} {l : List Oper} (h : VC Tryz.prog n B w0 (.region id l.toArray true) Q env H) : VC Tryz.prog n B w0 (.region id l.toArray true) Q env H := h
theorem zg29 {fn : Fn} {caps : List Operand} (h : VL Tryz.prog m n B w0 ops Q (⟨some d, .makeFunc fn #[] caps.toArray, ty, pos, after, none⟩ :: rest) env H) : VL Tryz.prog m n B w0 ops Q (⟨some d, .makeFunc fn #[] caps.toArray, ty, pos, after, none⟩ :: rest) env H := h
end
end Go.Eng

/- Walks: networks in memory; comparing, and looking for an element. -/
namespace Go.Proofs.YtnkpfpgmbpnbgaaGreatDoor
open Go.RowKit Go.Eng Go.Nw

structure RowM where
  A : Option Addr
  cap : Nat
  xs : List Int
structure NetM where
  nodes : Int
  pA : Option Addr
  pcap : Nat
  rows : List RowM
  noise : Int
  thr : Int
  lA : Option Addr
  lcap : Nat
  links : List Lk
  mA : Option Addr
  mcap : Nat
  margin : List Int
def NetM.net (n : NetM) : Net := ⟨n.nodes, n.rows.map (·.xs), n.noise, n.thr, n.links, n.margin⟩
def NetM.val (n : NetM) : Value := .agg #[.int .i64 n.nodes, .slice n.pA n.rows.length n.pcap, .int .i64 n.noise, .int .i64 n.thr, .slice n.lA n.links.length n.lcap, .slice n.mA n.margin.length n.mcap]
def rowF (r : RowM) : List Value := [.slice r.A r.xs.length r.cap]
def numF (z : Int) : List Value := [.int .i64 z]
def lkF (l : Lk) : List Value := [.int .i64 l.1, .int .i64 l.2.1, .int .i64 l.2.2]
def lkV (l : Lk) : Value := .agg #[.int .i64 l.1, .int .i64 l.2.1, .int .i64 l.2.2]

/-- The network's rows can be read. -/
structure NetM.In (B : Nat) (w0 : World) (H : List HP) (n : NetM) : Prop where
  pw : Rd B w0 H n.pA (n.rows.flatMap rowF)
  rw_ : ∀ r ∈ n.rows, Rd B w0 H r.A (r.xs.flatMap numF)
  lk : Rd B w0 H n.lA (n.links.flatMap lkF)
  mg : Rd B w0 H n.mA (n.margin.flatMap numF)
  s1 : n.rows.length ≤ 9223372036854775807
  s2 : ∀ r ∈ n.rows, r.xs.length ≤ 9223372036854775807
  s3 : n.links.length ≤ 9223372036854775807
  s4 : n.margin.length ≤ 9223372036854775807
theorem NetM.In.cons {B : Nat} {w0 : World} {H : List HP} {n : NetM} {X : HP} (h : n.In B w0 H) : n.In B w0 (X :: H) :=
  ⟨h.pw.cons, fun r hr => (h.rw_ r hr).cons, h.lk.cons, h.mg.cons, h.s1, h.s2, h.s3, h.s4⟩

theorem indexFuncInts {α : Type} (val : α → Value) (p : α → Bool) (l : List α) (f : Nat) (cs : List Value) (hen : ∀ xs w, (callFunc f xs).run Tryz.prog w = .ok (.enter f xs) w) (hlen : l.length ≤ 9223372036854775807) {A : Option Addr} {cap B : Nat} {w0 : World} {H : List HP} {w : World} (hr : Rd B w0 H A (l.flatMap fun a => [val a]))
    (hp : ∀ a ∈ l, ∀ w, St B w0 H w → Calls Tryz.prog f ([val a] ++ cs).toArray w (Post B w0 fun v K => v = .bool (p a) ∧ K = H)) (hw : St B w0 H w) :
    Calls Tryz.prog 145 [.slice A l.length cap, .func (.func f) #[] cs.toArray].toArray w (Post B w0 fun v K => v = .int .i64 (idxFrom p l 0) ∧ K = H) := by
  refine Calls_of_VC Tryz.func145 Tryz.ntmps145 rfl rfl hw ?_
  repeat' (first | apply (zs1 ?_) | apply (zs2 ?_) | (apply zg4; refine zs9 ?_) | apply (zs65 ?_) | apply (zs68 ?_) | apply (zs69 ?_) | apply (zs70 ?_) | apply (zs73 ?_) | fail)
  refine VC_loop1 (fun (k : Nat) => [(8, .int .i64 k), (7, .int .i64 l.length), (0, .slice A l.length cap), (1, .func (.func f) #[] cs.toArray)]) (fun _ => H) (fun k => k ≤ l.length ∧ idxFrom p l 0 = idxFrom p (l.drop k) k) (fun k => l.length - k) 0 ⟨Nat.zero_le _, by simp⟩ ?_ (fun w hw => hw) ?_
  · (repeat (first | exact sub_nil _ | (apply sub_cons; first | exact rfl | exact congrArg (fun z : Int => some (Value.int .i64 z)) (by omega))))
  rintro k ⟨hk, hi⟩ K hK
  by_cases hlt : k < l.length
  · obtain ⟨a, ha⟩ : ∃ a, l[k]? = some a := ⟨_, List.getElem?_eq_getElem hlt⟩
    have hpa := hp a (List.mem_of_getElem? ha)
    rw [idx_drop p l ha] at hi
    repeat' (first | ((first | apply VL_callvt (cs := cs)); exact rfl; exact hen; (repeat (first | exact args_nil | (apply args_cons; exact rfl))); exact rfl; exact fun _ hw => hpa _ hw) | apply (zs1 ?_) | apply (zs2 ?_) | (apply zg3; refine zs60 ?_) | (apply zg5; refine zs57 ?_) | (apply (zs17 ?_ ?_) <;> intro _ <;> try (exfalso; omega)) | apply (zs65 ?_) | apply (zs68 ?_) | apply (zs69 ?_) | apply (zs70 ?_) | (apply zg27; refine zs71 ?_) | apply (zs73 ?_) | apply (zs76 ?_) | fail)
    cases hpv : p a
    · rw [hpv] at hi
      repeat' (first | apply (zs1 ?_) | (apply zg13; refine zs30 ?_) | apply (zs65 ?_) | apply (zs68 ?_) | apply (zs70 ?_) | (apply zg27; refine zs72 ?_) | apply (zs76 ?_) | apply (zs79 ?_) | fail)
      apply hK (k + 1)
      · exact ⟨by omega, hi⟩
      · omega
      · (repeat (first | exact sub_nil _ | (apply sub_cons; first | exact rfl | exact congrArg (fun z : Int => some (Value.int .i64 z)) (by omega))))
      · exact fun w hw => hw
    · rw [hpv] at hi
      repeat' (first | apply (zs1 ?_) | apply (zs2 ?_) | apply (zs65 ?_) | apply (zs68 ?_) | apply (zs69 ?_) | apply (zs70 ?_) | (apply zg27; refine zs71 ?_) | apply (zs74 ?_) | apply (zs77 ?_) | apply (zs78 ?_) | fail)
      apply VQ_ret1; exact rfl; exact rfl
      exact ⟨by rw [hi]; rfl, rfl⟩
  · repeat' (first | apply (zs2 ?_) | (apply (zs17 ?_ ?_) <;> intro _ <;> try (exfalso; omega)) | apply (zs65 ?_) | apply (zs68 ?_) | apply (zs69 ?_) | apply (zs70 ?_) | (apply zg27; refine zs72 ?_) | apply (zs74 ?_) | apply (zs75 ?_) | apply (zs80 ?_) | apply (zs81 ?_) | fail)
    apply VQ_ret1; exact rfl; exact rfl
    rw [hi, List.drop_eq_nil_of_le (by omega)]
    exact ⟨rfl, rfl⟩
theorem containsFuncInts {α : Type} (val : α → Value) (p : α → Bool) (l : List α) (f : Nat) (cs : List Value) (hen : ∀ xs w, (callFunc f xs).run Tryz.prog w = .ok (.enter f xs) w) (hlen : l.length ≤ 9223372036854775807) {A : Option Addr} {cap B : Nat} {w0 : World} {H : List HP} {w : World} (hr : Rd B w0 H A (l.flatMap fun a => [val a]))
    (hp : ∀ a ∈ l, ∀ w, St B w0 H w → Calls Tryz.prog f ([val a] ++ cs).toArray w (Post B w0 fun v K => v = .bool (p a) ∧ K = H)) (hw : St B w0 H w) :
    Calls Tryz.prog 114 [.slice A l.length cap, .func (.func f) #[] cs.toArray].toArray w (Post B w0 fun v K => v = .bool (l.any p) ∧ K = H) := by
  refine Calls_of_VC Tryz.func114 Tryz.ntmps114 rfl rfl hw ?_
  have hia := idx_any p l 0 (by omega)
  repeat' (first | ((first | apply VL_callt en145 | apply VL_callq en145); (repeat (first | exact args_nil | (apply args_cons; exact rfl))); exact rfl; exact fun _ hw => (indexFuncInts val p l f cs hen hlen hr hp hw)) | apply (zs1 ?_) | apply (zs2 ?_) | (apply (zs20 ?_ ?_) <;> intro _ <;> try (exfalso; omega)) | apply (zs65 ?_) | apply (zs68 ?_) | apply (zs69 ?_) | apply (zs70 ?_) | apply (zs74 ?_) | fail)
  all_goals (apply VQ_ret1; exact rfl; exact rfl)
  · rename_i h; exact ⟨by rw [hia.1 h], rfl⟩
  · rename_i h
    have : ¬ l.any p = true := fun e => by have := hia.2 e; omega
    exact ⟨by rw [Bool.eq_false_iff.2 this], rfl⟩
theorem indexFuncRows {α : Type} (val : α → Value) (p : α → Bool) (l : List α) (f : Nat) (cs : List Value) (hen : ∀ xs w, (callFunc f xs).run Tryz.prog w = .ok (.enter f xs) w) (hlen : l.length ≤ 9223372036854775807) {A : Option Addr} {cap B : Nat} {w0 : World} {H : List HP} {w : World} (hr : Rd B w0 H A (l.flatMap fun a => [val a]))
    (hp : ∀ a ∈ l, ∀ w, St B w0 H w → Calls Tryz.prog f ([val a] ++ cs).toArray w (Post B w0 fun v K => v = .bool (p a) ∧ K = H)) (hw : St B w0 H w) :
    Calls Tryz.prog 144 [.slice A l.length cap, .func (.func f) #[] cs.toArray].toArray w (Post B w0 fun v K => v = .int .i64 (idxFrom p l 0) ∧ K = H) := by
  refine Calls_of_VC Tryz.func144 Tryz.ntmps144 rfl rfl hw ?_
  repeat' (first | apply (zs1 ?_) | apply (zs2 ?_) | (apply zg4; refine zs9 ?_) | apply (zs65 ?_) | apply (zs68 ?_) | apply (zs69 ?_) | apply (zs70 ?_) | apply (zs73 ?_) | fail)
  refine VC_loop1 (fun (k : Nat) => [(8, .int .i64 k), (7, .int .i64 l.length), (0, .slice A l.length cap), (1, .func (.func f) #[] cs.toArray)]) (fun _ => H) (fun k => k ≤ l.length ∧ idxFrom p l 0 = idxFrom p (l.drop k) k) (fun k => l.length - k) 0 ⟨Nat.zero_le _, by simp⟩ ?_ (fun w hw => hw) ?_
  · (repeat (first | exact sub_nil _ | (apply sub_cons; first | exact rfl | exact congrArg (fun z : Int => some (Value.int .i64 z)) (by omega))))
  rintro k ⟨hk, hi⟩ K hK
  by_cases hlt : k < l.length
  · obtain ⟨a, ha⟩ : ∃ a, l[k]? = some a := ⟨_, List.getElem?_eq_getElem hlt⟩
    have hpa := hp a (List.mem_of_getElem? ha)
    rw [idx_drop p l ha] at hi
    repeat' (first | ((first | apply VL_callvt (cs := cs)); exact rfl; exact hen; (repeat (first | exact args_nil | (apply args_cons; exact rfl))); exact rfl; exact fun _ hw => hpa _ hw) | apply (zs1 ?_) | apply (zs2 ?_) | (apply zg3; refine zs60 ?_) | (apply zg5; refine zs57 ?_) | (apply (zs17 ?_ ?_) <;> intro _ <;> try (exfalso; omega)) | apply (zs65 ?_) | apply (zs68 ?_) | apply (zs69 ?_) | apply (zs70 ?_) | (apply zg27; refine zs71 ?_) | apply (zs73 ?_) | apply (zs76 ?_) | fail)
    cases hpv : p a
    · rw [hpv] at hi
      repeat' (first | apply (zs1 ?_) | (apply zg13; refine zs30 ?_) | apply (zs65 ?_) | apply (zs68 ?_) | apply (zs70 ?_) | (apply zg27; refine zs72 ?_) | apply (zs76 ?_) | apply (zs79 ?_) | fail)
      apply hK (k + 1)
      · exact ⟨by omega, hi⟩
      · omega
      · (repeat (first | exact sub_nil _ | (apply sub_cons; first | exact rfl | exact congrArg (fun z : Int => some (Value.int .i64 z)) (by omega))))
      · exact fun w hw => hw
    · rw [hpv] at hi
      repeat' (first | apply (zs1 ?_) | apply (zs2 ?_) | apply (zs65 ?_) | apply (zs68 ?_) | apply (zs69 ?_) | apply (zs70 ?_) | (apply zg27; refine zs71 ?_) | apply (zs74 ?_) | apply (zs77 ?_) | apply (zs78 ?_) | fail)
      apply VQ_ret1; exact rfl; exact rfl
      exact ⟨by rw [hi]; rfl, rfl⟩
  · repeat' (first | apply (zs2 ?_) | (apply (zs17 ?_ ?_) <;> intro _ <;> try (exfalso; omega)) | apply (zs65 ?_) | apply (zs68 ?_) | apply (zs69 ?_) | apply (zs70 ?_) | (apply zg27; refine zs72 ?_) | apply (zs74 ?_) | apply (zs75 ?_) | apply (zs80 ?_) | apply (zs81 ?_) | fail)
    apply VQ_ret1; exact rfl; exact rfl
    rw [hi, List.drop_eq_nil_of_le (by omega)]
    exact ⟨rfl, rfl⟩
theorem containsFuncRows {α : Type} (val : α → Value) (p : α → Bool) (l : List α) (f : Nat) (cs : List Value) (hen : ∀ xs w, (callFunc f xs).run Tryz.prog w = .ok (.enter f xs) w) (hlen : l.length ≤ 9223372036854775807) {A : Option Addr} {cap B : Nat} {w0 : World} {H : List HP} {w : World} (hr : Rd B w0 H A (l.flatMap fun a => [val a]))
    (hp : ∀ a ∈ l, ∀ w, St B w0 H w → Calls Tryz.prog f ([val a] ++ cs).toArray w (Post B w0 fun v K => v = .bool (p a) ∧ K = H)) (hw : St B w0 H w) :
    Calls Tryz.prog 110 [.slice A l.length cap, .func (.func f) #[] cs.toArray].toArray w (Post B w0 fun v K => v = .bool (l.any p) ∧ K = H) := by
  refine Calls_of_VC Tryz.func110 Tryz.ntmps110 rfl rfl hw ?_
  have hia := idx_any p l 0 (by omega)
  repeat' (first | ((first | apply VL_callt en144 | apply VL_callq en144); (repeat (first | exact args_nil | (apply args_cons; exact rfl))); exact rfl; exact fun _ hw => (indexFuncRows val p l f cs hen hlen hr hp hw)) | apply (zs1 ?_) | apply (zs2 ?_) | (apply (zs20 ?_ ?_) <;> intro _ <;> try (exfalso; omega)) | apply (zs65 ?_) | apply (zs68 ?_) | apply (zs69 ?_) | apply (zs70 ?_) | apply (zs74 ?_) | fail)
  all_goals (apply VQ_ret1; exact rfl; exact rfl)
  · rename_i h; exact ⟨by rw [hia.1 h], rfl⟩
  · rename_i h
    have : ¬ l.any p = true := fun e => by have := hia.2 e; omega
    exact ⟨by rw [Bool.eq_false_iff.2 this], rfl⟩
theorem isNaN_int (x : Int) {B : Nat} {w0 : World} {H : List HP} {w : World} (hw : St B w0 H w) : Calls Tryz.prog 160 [.int .i64 x].toArray w (Post B w0 fun v K => v = .bool false ∧ K = H) := by
  refine Calls_of_VC Tryz.func160 Tryz.ntmps160 rfl rfl hw ?_
  repeat' (first | apply (zs1 ?_) | apply (zs2 ?_) | (apply zg8; (refine zs16 ?_ ?_ <;> intro _ <;> try (exfalso; omega))) | apply (zs65 ?_) | apply (zs68 ?_) | apply (zs69 ?_) | apply (zs70 ?_) | apply (zs74 ?_) | fail)
  apply VQ_ret1; exact rfl; exact rfl
  exact ⟨rfl, rfl⟩
theorem compare_int (x y : Int) {B : Nat} {w0 : World} {H : List HP} {w : World} (hw : St B w0 H w) : Calls Tryz.prog 147 [.int .i64 x, .int .i64 y].toArray w (Post B w0 fun v K => v = .int .i64 (cmpI x y) ∧ K = H) := by
  refine Calls_of_VC Tryz.func147 Tryz.ntmps147 rfl rfl hw ?_
  unfold cmpI
  repeat' (first | ((first | apply VL_callt en160 | apply VL_callq en160); (repeat (first | exact args_nil | (apply args_cons; exact rfl))); exact rfl; exact fun _ hw => (isNaN_int _ hw)) | apply (zs1 ?_) | apply (zs2 ?_) | (apply (zs17 ?_ ?_) <;> intro _ <;> try (exfalso; omega)) | (apply (zs19 ?_ ?_) <;> intro _ <;> try (exfalso; omega)) | apply (zs65 ?_) | apply (zs68 ?_) | apply (zs69 ?_) | apply (zs70 ?_) | (apply zg27; first | refine zs71 ?_ | refine zs72 ?_) | apply (zs74 ?_) | apply (zs76 ?_) | apply (zs77 ?_) | fail)
  all_goals (((repeat apply VQ_tail); apply VQ_ret1; exact rfl; exact rfl; refine ⟨congrArg _ ?_, rfl⟩); (repeat (first | refine eq_ite_neg (by omega) ?_ | refine eq_ite_pos (by omega) ?_)); rfl)
end Go.Proofs.YtnkpfpgmbpnbgaaGreatDoor

/- Walks: Check of the program. -/
namespace Go.Proofs.YtnkpfpgmbpnbgaaGreatDoor
open Go.RowKit Go.Eng Go.Nw

theorem cp1_spec (xs : List Int) {A : Option Addr} {cap : Nat} (n : NetM) (g : Nat) {B : Nat} {w0 : World} {H : List HP} {w : World} (hw : St B w0 (blk g (.cells #[.int .i64 n.nodes, .slice n.pA n.rows.length n.pcap, .int .i64 n.noise, .int .i64 n.thr, .slice n.lA n.links.length n.lcap, .slice n.mA n.margin.length n.mcap] 26 (0, 0)) :: H) w) :
    Calls Tryz.prog 111 [.slice A xs.length cap, .pointer (some ⟨g, 0, none⟩)].toArray w (Post B w0 fun v K => v = .bool (wide n.nodes xs) ∧ K = blk g (.cells #[.int .i64 n.nodes, .slice n.pA n.rows.length n.pcap, .int .i64 n.noise, .int .i64 n.thr, .slice n.lA n.links.length n.lcap, .slice n.mA n.margin.length n.mcap] 26 (0, 0)) :: H) := by
  refine Calls_of_VC Tryz.func111 Tryz.ntmps111 rfl rfl hw ?_
  unfold wide
  repeat' (first | apply (zs1 ?_) | apply (zs2 ?_) | (apply zg2; refine zs6 ?_) | (apply zg3; refine zs7 ?_) | (apply zg4; refine zs9 ?_) | (apply zg8; (refine zs16 ?_ ?_ <;> intro _ <;> try (exfalso; omega))) | apply (zs65 ?_) | apply (zs68 ?_) | apply (zs69 ?_) | apply (zs70 ?_) | apply (zs74 ?_) | fail)
  · rename_i h
    apply VQ_ret1; exact rfl; exact rfl
    exact ⟨by rw [decide_eq_true h], rfl⟩
  · rename_i h
    apply VQ_ret1; exact rfl; exact rfl
    exact ⟨by rw [decide_eq_false (by omega)], rfl⟩

theorem cp2_spec (p : Int) {B : Nat} {w0 : World} {H : List HP} {w : World} (hw : St B w0 H w) : Calls Tryz.prog 112 [.int .i64 p].toArray w (Post B w0 fun v K => v = .bool (outside p) ∧ K = H) := by
  refine Calls_of_VC Tryz.func112 Tryz.ntmps112 rfl rfl hw ?_
  unfold outside
  repeat' (first | apply (zs1 ?_) | apply (zs2 ?_) | (apply zg1; first | refine zs3 ?_ | refine zs4 ?_) | (apply zg6; first | refine zs11 ?_ | refine zs12 ?_) | (apply (zs17 ?_ ?_) <;> intro _ <;> try (exfalso; omega)) | (apply (zs19 ?_ ?_) <;> intro _ <;> try (exfalso; omega)) | apply (zs65 ?_) | apply (zs68 ?_) | apply (zs69 ?_) | apply (zs70 ?_) | apply (zs74 ?_) | fail)
  · apply VQ_ret1; exact rfl; exact rfl
    exact ⟨by rw [decide_eq_true (by omega)], rfl⟩
  · apply VQ_ret1; exact rfl; exact rfl
    exact ⟨by rw [decide_eq_true (by omega)], rfl⟩
  · apply VQ_ret1; exact rfl; exact rfl
    exact ⟨by rw [decide_eq_false (by omega)], rfl⟩

theorem cp3_spec (xs : List Int) (hl : xs.length ≤ 9223372036854775807) {A : Option Addr} {cap : Nat} (g : Nat) {B : Nat} {w0 : World} {H : List HP} {w : World} (hr : Rd B w0 H A (xs.flatMap numF)) (hw : St B w0 (blk g (.cells #[.func (.func 112) #[] #[]] 124 (0, 0)) :: H) w) :
    Calls Tryz.prog 113 [.slice A xs.length cap, .pointer (some ⟨g, 0, none⟩)].toArray w (Post B w0 fun v K => v = .bool (xs.any outside) ∧ K = blk g (.cells #[.func (.func 112) #[] #[]] 124 (0, 0)) :: H) := by
  refine Calls_of_VC Tryz.func113 Tryz.ntmps113 rfl rfl hw ?_
  repeat' (first | ((first | apply VL_callt en114 | apply VL_callq en114); (repeat (first | exact args_nil | (apply args_cons; exact rfl))); exact rfl; exact fun _ hw => (containsFuncInts (fun z : Int => .int .i64 z) outside xs 112 [] en112 hl hr.cons (fun a _ _ hw => cp2_spec a hw) hw)) | apply (zs1 ?_) | apply (zs2 ?_) | (apply zg3; refine zs7 ?_) | apply (zs65 ?_) | apply (zs68 ?_) | apply (zs69 ?_) | apply (zs70 ?_) | apply (zs74 ?_) | fail)
  apply VQ_ret1; exact rfl; exact rfl
  exact ⟨rfl, rfl⟩

theorem any_rows (n : NetM) (p : List Int → Bool) : (n.rows.any fun r => p r.xs) = n.net.power.any p := by simp [NetM.net, List.any_map, Function.comp_def]

theorem checkPower_spec (n : NetM) {B : Nat} {w0 : World} {H : List HP} {w : World} (hin : n.In B w0 H) (hw : St B w0 H w) :
    Calls Tryz.prog 80 [n.val].toArray w (Post B w0 fun v K => v = .int .i64 (tableE n.net) ∧ K = H) := by
  refine Calls_of_VC Tryz.func80 Tryz.ntmps80 rfl rfl hw ?_
  obtain ⟨hpw, hrw, hlk, hmg, hs1, hs2, hs3, hs4⟩ := hin
  have e1 : n.net.power.length = n.rows.length := by simp [NetM.net]
  have e2 : n.net.nodes = n.nodes := rfl
  unfold tableE
  rw [e1, e2, ← any_rows, ← any_rows n (fun r => r.any outside)]
  repeat' (first | apply (zs1 ?_) | apply (zs2 ?_) | (apply zg1; first | refine zs3 ?_ | refine zs4 ?_) | (apply zg2; refine zs6 ?_) | (apply zg3; refine zs7 ?_) | (apply zg4; refine zs9 ?_) | (apply zg6; refine zs11 ?_) | (apply zg8; (refine zs16 ?_ ?_ <;> intro _ <;> try (exfalso; omega))) | (apply zg23; (refine zs52 ?_; intro _)) | apply (zs65 ?_) | apply (zs68 ?_) | apply (zs69 ?_) | apply (zs70 ?_) | (apply zg27; refine zs71 ?_) | apply (zs74 ?_) | apply (zs77 ?_) | (apply zg29; (apply VL_makeFunc; (repeat (first | exact args_nil | (apply args_cons; exact rfl))) ; exact rfl)) | fail)
  · ((repeat apply VQ_tail); apply VQ_ret1; exact rfl; exact rfl; refine ⟨congrArg _ ?_, rfl⟩)
    (repeat (first | refine eq_ite_neg (by omega) ?_ | refine eq_ite_pos (by omega) ?_))
    rfl
  rename_i g _
  repeat' (first | ((first | apply VL_callt en110 | apply VL_callq en110); (repeat (first | exact args_nil | (apply args_cons; exact rfl))); exact rfl; exact fun _ hw => (containsFuncRows (fun r : RowM => .slice r.A r.xs.length r.cap) (fun r => wide n.nodes r.xs) n.rows 111 [.pointer (some ⟨g, 0, none⟩)] en111 hs1 hpw.cons (fun a _ _ hw => cp1_spec a.xs n g hw) hw)) | (apply zg6; refine zs12 ?_) | apply (zs65 ?_) | apply (zs68 ?_) | fail)
  cases hc : (n.rows.any fun r => wide n.nodes r.xs)
  rotate_left
  · repeat' (first | apply (zs2 ?_) | apply (zs65 ?_) | apply (zs68 ?_) | apply (zs69 ?_) | apply (zs70 ?_) | (apply zg27; refine zs71 ?_) | apply (zs74 ?_) | apply (zs77 ?_) | fail)
    ((repeat apply VQ_tail); apply VQ_ret1; exact rfl; exact rfl; refine ⟨congrArg _ ?_, rfl⟩)
    rw [if_neg (by omega)]; rfl
  repeat' (first | (apply zg2; refine zs6 ?_) | (apply zg3; refine zs7 ?_) | (apply zg22; refine zs50 ?_) | (apply zg24; (refine zs54 ?_; intro _)) | apply (zs65 ?_) | apply (zs68 ?_) | apply (zs69 ?_) | apply (zs70 ?_) | (apply zg27; refine zs72 ?_) | apply (zs76 ?_) | (apply zg29; (apply VL_makeFunc; (repeat (first | exact args_nil | (apply args_cons; exact rfl))) ; exact rfl)) | fail)
  rename_i g2
  apply VL_callt en110
  (repeat (first | exact args_nil | (apply args_cons; exact rfl)))
  exact rfl
  exact fun _ hw => containsFuncRows (fun r : RowM => .slice r.A r.xs.length r.cap) (fun r => r.xs.any outside) n.rows 113 [.pointer (some ⟨g2, 0, none⟩)] en113 hs1 hpw.cons.cons (fun a ha _ hw => cp3_spec a.xs (hs2 a ha) g2 (hrw a ha).cons hw) hw
  cases hd : (n.rows.any fun r => r.xs.any outside)
  · repeat' (first | apply (zs2 ?_) | apply (zs65 ?_) | apply (zs68 ?_) | apply (zs69 ?_) | apply (zs70 ?_) | (apply zg27; refine zs72 ?_) | apply (zs74 ?_) | apply (zs76 ?_) | fail)
    ((repeat apply VQ_tail); apply VQ_ret1; exact rfl; exact rfl; refine ⟨congrArg _ ?_, rfl⟩)
    rw [if_neg (by omega)]; rfl
  · repeat' (first | apply (zs2 ?_) | apply (zs65 ?_) | apply (zs68 ?_) | apply (zs69 ?_) | apply (zs70 ?_) | (apply zg27; refine zs71 ?_) | apply (zs74 ?_) | apply (zs77 ?_) | fail)
    ((repeat apply VQ_tail); apply VQ_ret1; exact rfl; exact rfl; refine ⟨congrArg _ ?_, rfl⟩)
    rw [if_neg (by omega)]; rfl
end Go.Proofs.YtnkpfpgmbpnbgaaGreatDoor

/- Networks of chapter 31, plain: valid networks, their links in order, where a link is. -/
namespace Go.Nw

theorem cmpI_neg {x y : Int} : cmpI x y < 0 ↔ x < y := by unfold cmpI; split <;> (try split) <;> omega
theorem cmpI_zero {x y : Int} : cmpI x y = 0 ↔ x = y := by unfold cmpI; split <;> (try split) <;> omega
theorem cmpL_neg {a b : Lk} : cmpL a b < 0 ↔ a.1 < b.1 ∨ (a.1 = b.1 ∧ a.2.1 < b.2.1) := by
  have h1 := @cmpI_neg a.1 b.1
  have h2 := @cmpI_zero a.1 b.1
  have h3 := @cmpI_neg a.2.1 b.2.1
  unfold cmpL; split <;> omega
theorem cmpL_zero {a b : Lk} : cmpL a b = 0 ↔ a.1 = b.1 ∧ a.2.1 = b.2.1 := by
  have h2 := @cmpI_zero a.1 b.1
  have h3 := @cmpI_zero a.2.1 b.2.1
  unfold cmpL; split <;> omega

structure OkL (n : Net) (i : Nat) : Prop where
  f0 : 0 ≤ (lnk n i).1
  f1 : (lnk n i).1 < n.nodes
  t0 : 0 ≤ (lnk n i).2.1
  t1 : (lnk n i).2.1 < n.nodes
  ne : (lnk n i).1 ≠ (lnk n i).2.1
  l0 : 0 ≤ (lnk n i).2.2
  l1 : (lnk n i).2.2 ≤ 7
  ord : 0 < i → cmpL (lnk n (i - 1)) (lnk n i) < 0
  m0 : 0 ≤ mar n i
  m1 : mar n i ≤ powr n (lnk n i).1 (lnk n i).2.1

theorem link_ok {n : Net} {i : Nat} (h : linkE n i = 0) : OkL n i := by
  unfold linkE at h
  by_cases h1 : ¬ (0 ≤ (lnk n i).1 ∧ (lnk n i).1 < n.nodes) ∨ ¬ (0 ≤ (lnk n i).2.1 ∧ (lnk n i).2.1 < n.nodes) ∨ (lnk n i).1 = (lnk n i).2.1 ∨ (lnk n i).2.2 < 0 ∨ 7 < (lnk n i).2.2
  · rw [if_pos h1] at h; omega
  rw [if_neg h1] at h
  by_cases h2 : 0 < i ∧ 0 ≤ cmpL (lnk n (i - 1)) (lnk n i)
  · rw [if_pos h2] at h; omega
  rw [if_neg h2] at h
  by_cases h3 : mar n i < 0 ∨ powr n (lnk n i).1 (lnk n i).2.1 < mar n i
  · rw [if_pos h3] at h; omega
  constructor <;> omega

structure Ok (n : Net) : Prop where
  n0 : 2 ≤ n.nodes
  n1 : n.nodes ≤ 32
  p0 : (n.power.length : Int) = n.nodes
  p1 : ∀ r ∈ n.power, (r.length : Int) = n.nodes
  p2 : ∀ r ∈ n.power, ∀ p ∈ r, 0 ≤ p ∧ p ≤ 68719476736
  z0 : 0 ≤ n.noise
  z1 : n.noise ≤ 68719476736
  t0 : 1000 ≤ n.thr
  t1 : n.thr ≤ 100000
  k0 : n.links.length ≤ 128
  k1 : n.margin.length = n.links.length
  lk : ∀ i, i < n.links.length → OkL n i

theorem links_ok {n : Net} : ∀ (r i : Nat), linksE n r i = 0 → ∀ j, i ≤ j → j < i + r → OkL n j
  | 0, _, _, j, h1, h2 => by omega
  | r + 1, i, h, j, h1, h2 => by
    unfold linksE at h
    by_cases h0 : linkE n i = 0
    · rw [if_pos h0] at h
      by_cases e : i = j
      · subst e; exact link_ok h0
      · exact links_ok r (i + 1) h j (by omega) (by omega)
    · rw [if_neg h0] at h; exact absurd h h0

theorem check_ok {n : Net} (h : checkE n = 0) : Ok n := by
  unfold checkE at h
  by_cases h1 : n.nodes < 2 ∨ 32 < n.nodes
  · rw [if_pos h1] at h; omega
  rw [if_neg h1] at h
  by_cases h2 : tableE n ≠ 0
  · rw [if_pos h2] at h; exact absurd h h2
  rw [if_neg h2] at h
  by_cases h3 : n.noise < 0 ∨ 68719476736 < n.noise ∨ n.thr < 1000 ∨ 100000 < n.thr
  · rw [if_pos h3] at h; omega
  rw [if_neg h3] at h
  by_cases h4 : 128 < n.links.length
  · rw [if_pos h4] at h; omega
  rw [if_neg h4] at h
  by_cases h5 : n.margin.length ≠ n.links.length
  · rw [if_pos h5] at h; omega
  rw [if_neg h5] at h
  obtain ⟨t1, t2, t3⟩ := table_ok (Classical.not_not.1 h2)
  exact ⟨by omega, by omega, t1, t2, t3, by omega, by omega, by omega, by omega, by omega, Classical.not_not.1 h5, fun i hi => links_ok _ _ h i (Nat.zero_le _) (by omega)⟩

theorem sorted {n : Net} (h : Ok n) : ∀ (i j : Nat), i < j → j < n.links.length → cmpL (lnk n i) (lnk n j) < 0 := by
  intro i j
  induction j with
  | zero => intro h1; omega
  | succ j ih =>
    intro h1 h2
    have h3 := (h.lk (j + 1) h2).ord (by omega)
    rw [Nat.add_sub_cancel] at h3
    by_cases e : i = j
    · subst e; exact h3
    · have h4 := ih (by omega) (by omega)
      rw [cmpL_neg] at *
      omega

def isKey (a b : Int) (l : Lk) : Bool := decide (l.1 = a) && decide (l.2.1 = b)
def findE (n : Net) (a b : Int) : Int := idxFrom (isKey a b) n.links 0

theorem idxFrom_none {α : Type} {p : α → Bool} : ∀ {l : List α} {k : Int}, (∀ a ∈ l, p a = false) → idxFrom p l k = -1
  | [], _, _ => rfl
  | a :: l, k, h => by
    rw [idxFrom, h a List.mem_cons_self, if_neg (by simp)]
    exact idxFrom_none fun b hb => h b (List.mem_cons_of_mem _ hb)
theorem idxFrom_at {α : Type} {p : α → Bool} : ∀ {l : List α} {k : Int} {i : Nat} {a : α}, l[i]? = some a → p a = true → (∀ j b, j < i → l[j]? = some b → p b = false) → idxFrom p l k = k + i
  | [], _, _, _, h, _, _ => by simp at h
  | b :: l, k, 0, a, h, hp, _ => by
    obtain rfl : b = a := by simpa using h
    rw [idxFrom, if_pos hp]; simp
  | b :: l, k, i + 1, a, h, hp, hn => by
    have hb := hn 0 b (by omega) (by simp)
    rw [idxFrom, if_neg (by rw [hb]; simp), idxFrom_at (i := i) (a := a) (by simpa using h) hp fun j c hj hc => hn (j + 1) c (by omega) (by simpa using hc)]
    omega
theorem idxFrom_ge {α : Type} {p : α → Bool} : ∀ {l : List α} {k : Int}, 0 ≤ k → idxFrom p l k = -1 ∨ (k ≤ idxFrom p l k ∧ idxFrom p l k < k + l.length)
  | [], _, _ => .inl rfl
  | a :: l, k, h => by
    unfold idxFrom
    by_cases hp : p a = true
    · rw [if_pos hp]; simp only [List.length_cons]; omega
    · rw [if_neg hp]
      rcases @idxFrom_ge _ p l (k + 1) (by omega) with h1 | h1
      · exact .inl h1
      · simp only [List.length_cons]; omega
theorem idxFrom_spec {α : Type} {p : α → Bool} : ∀ {l : List α} {k : Int} {i : Nat}, 0 ≤ k → idxFrom p l k = k + i → ∃ a, l[i]? = some a ∧ p a = true
  | [], k, i, h0, h => by simp [idxFrom] at h; omega
  | a :: l, k, i, h0, h => by
    unfold idxFrom at h
    by_cases hp : p a = true
    · rw [if_pos hp] at h
      obtain rfl : i = 0 := by omega
      exact ⟨a, by simp, hp⟩
    · rw [if_neg hp] at h
      cases i with
      | zero =>
        rcases @idxFrom_ge _ p l (k + 1) (by omega) with h1 | h1 <;> omega
      | succ i =>
        obtain ⟨b, h1, h2⟩ := idxFrom_spec (p := p) (i := i) (l := l) (k := k + 1) (by omega) (by omega)
        exact ⟨b, by simpa using h1, h2⟩

theorem lnk_get {n : Net} {i : Nat} {l : Lk} (h : n.links[i]? = some l) : lnk n i = l := by simp [lnk, List.getD, h]
theorem mar_get {n : Net} {i : Nat} {z : Int} (h : n.margin[i]? = some z) : mar n i = z := by simp [mar, List.getD, h]
theorem lnk_some (n : Net) {i : Nat} (h : i < n.links.length) : n.links[i]? = some (lnk n i) := by simp [lnk, List.getD, h]

/-- What a search in the ordered links finds. -/
theorem find_pos {n : Net} (h : Ok n) {a b c : Int} {k : Nat} (hk : k ≤ n.links.length) (h1 : ∀ j, j < k → cmpL (lnk n j) (a, b, c) < 0) (h2 : ∀ j, k ≤ j → j < n.links.length → 0 ≤ cmpL (lnk n j) (a, b, c)) :
    findE n a b = if k < n.links.length ∧ cmpL (lnk n k) (a, b, c) = 0 then (k : Int) else -1 := by
  unfold findE
  have hlow : ∀ j l, j < k → n.links[j]? = some l → isKey a b l = false := fun j l hj hl => by
    have := h1 j hj
    rw [lnk_get hl, cmpL_neg] at this
    simp only [isKey, Bool.and_eq_false_iff, decide_eq_false_iff_not]
    simp only at this
    omega
  by_cases hc : k < n.links.length ∧ cmpL (lnk n k) (a, b, c) = 0
  · rw [if_pos hc, idxFrom_at (lnk_some n hc.1) (by have := cmpL_zero.1 hc.2; simp only at this; simp [isKey, this]) hlow]
    omega
  · rw [if_neg hc]
    refine idxFrom_none fun l hl => ?_
    obtain ⟨j, hj, rfl⟩ := List.mem_iff_getElem.1 hl
    by_cases hjk : j < k
    · exact hlow j _ hjk (List.getElem?_eq_getElem hj)
    · have e : lnk n j = n.links[j] := lnk_get (List.getElem?_eq_getElem hj)
      have h3 : cmpL (lnk n j) (a, b, c) ≠ 0 := by
        by_cases ejk : j = k
        · subst ejk; exact fun e => hc ⟨hj, e⟩
        · intro e0
          have h4 := sorted h k j (by omega) hj
          have h5 := h2 k (Nat.le_refl _) (by omega)
          rw [cmpL_zero] at e0
          rw [cmpL_neg] at h4
          have h6 : ¬ cmpL (lnk n k) (a, b, c) < 0 := by omega
          rw [cmpL_neg] at h6
          simp only at *
          omega
      rw [e, Ne, cmpL_zero] at h3
      simp only at h3
      simp only [isKey, Bool.and_eq_false_iff, decide_eq_false_iff_not]
      omega

def heardE (n : Net) (s d : Int) : Bool := decide (n.thr * (n.noise + d) ≤ s * 1000)
def usableE (n : Net) (i : Nat) : Bool := decide (0 ≤ findE n (lnk n i).2.1 (lnk n i).1) && (heardE n (mar n i) 0 && heardE n (mar n (findE n (lnk n i).2.1 (lnk n i).1).toNat) 0)
theorem hear_bd {n : Net} (h : Ok n) {d : Int} (h0 : 0 ≤ d) (h1 : d ≤ 8796093022208) : -9223372036854775808 ≤ n.thr * (n.noise + d) ∧ n.thr * (n.noise + d) ≤ 9223372036854775807 := by
  have h2 := h.t0; have h3 := h.t1; have h4 := h.z0; have h5 := h.z1
  have h6 : 0 ≤ n.thr * (n.noise + d) := Int.mul_nonneg (by omega) (by omega)
  have h7 : n.thr * (n.noise + d) ≤ 100000 * (n.noise + d) := Int.mul_le_mul_of_nonneg_right h3 (by omega)
  omega
theorem mar_bd {n : Net} (h : Ok n) {i : Nat} (hi : i < n.links.length) : 0 ≤ mar n i ∧ mar n i ≤ 68719476736 := by
  have hl := h.lk i hi
  refine ⟨hl.m0, Int.le_trans hl.m1 ?_⟩
  unfold powr
  have e1 : (lnk n i).1.toNat < n.power.length := by have := h.p0; have := hl.f1; have := hl.f0; omega
  rw [show n.power.getD (lnk n i).1.toNat [] = n.power[(lnk n i).1.toNat] by simp [List.getD, e1]]
  have hm := List.getElem_mem e1
  have e2 : (lnk n i).2.1.toNat < (n.power[(lnk n i).1.toNat]).length := by have := h.p1 _ hm; have := hl.t1; have := hl.t0; omega
  rw [show (n.power[(lnk n i).1.toNat]).getD (lnk n i).2.1.toNat 0 = (n.power[(lnk n i).1.toNat])[(lnk n i).2.1.toNat] by simp [List.getD, e2]]
  exact (h.p2 _ hm _ (List.getElem_mem e2)).2

theorem find_lt {n : Net} {a b : Int} (h : 0 ≤ findE n a b) : (findE n a b).toNat < n.links.length := by
  rcases @idxFrom_ge _ (isKey a b) n.links 0 (by omega) with h1 | h1 <;> unfold findE at h ⊢ <;> omega
theorem find_key {n : Net} {a b : Int} (h : 0 ≤ findE n a b) : (lnk n (findE n a b).toNat).1 = a ∧ (lnk n (findE n a b).toNat).2.1 = b := by
  obtain ⟨l, h1, h2⟩ := @idxFrom_spec _ (isKey a b) n.links 0 (findE n a b).toNat (by omega) (by unfold findE at *; omega)
  rw [lnk_get h1]
  simpa [isKey] using h2
end Go.Nw

/- Walks: comparing links, Check, and looking for a link. -/
namespace Go.Proofs.YtnkpfpgmbpnbgaaGreatDoor
open Go.RowKit Go.Eng Go.Nw

abbrev netB (g : Nat) (n : NetM) : HP := blk g (.cells #[.int .i64 n.nodes, .slice n.pA n.rows.length n.pcap, .int .i64 n.noise, .int .i64 n.thr, .slice n.lA n.links.length n.lcap, .slice n.mA n.margin.length n.mcap] 26 (0, 0))

def firstNZ : List Int → Int
  | [] => 0
  | a :: l => if a ≠ 0 then a else firstNZ l
theorem firstNZ_drop (l : List Int) {k : Nat} {a : Int} (h : l[k]? = some a) : firstNZ (l.drop k) = if a ≠ 0 then a else firstNZ (l.drop (k + 1)) := by
  obtain ⟨hk, rfl⟩ := List.getElem?_eq_some_iff.1 h
  rw [List.drop_eq_getElem_cons hk, firstNZ]

theorem or_ints (l : List Int) (hlen : l.length ≤ 1000) {A : Option Addr} {cap B : Nat} {w0 : World} {H : List HP} {w : World} (hr : Rd B w0 H A (l.flatMap numF)) (hw : St B w0 H w) :
    Calls Tryz.prog 146 [.slice A l.length cap].toArray w (Post B w0 fun v K => v = .int .i64 (firstNZ l) ∧ K = H) := by
  refine Calls_of_VC Tryz.func146 Tryz.ntmps146 rfl rfl hw ?_
  repeat' (first | apply (zs1 ?_) | apply (zs2 ?_) | (apply zg4; refine zs9 ?_) | apply (zs65 ?_) | apply (zs68 ?_) | apply (zs69 ?_) | apply (zs70 ?_) | apply (zs73 ?_) | fail)
  refine VC_loop1 (fun (k : Nat) => [(8, .int .i64 k), (7, .int .i64 l.length), (6, .slice A l.length cap), (3, .int .i64 0)]) (fun _ => H) (fun k => k ≤ l.length ∧ firstNZ l = firstNZ (l.drop k)) (fun k => l.length - k) 0 ⟨Nat.zero_le _, by simp⟩ ?_ (fun w hw => hw) ?_
  · (repeat (first | exact sub_nil _ | (apply sub_cons; first | exact rfl | exact congrArg (fun z : Int => some (Value.int .i64 z)) (by omega))))
  rintro k ⟨hk, hi⟩ K hK
  by_cases hlt : k < l.length
  · obtain ⟨a, ha⟩ : ∃ a, l[k]? = some a := ⟨_, List.getElem?_eq_getElem hlt⟩
    rw [firstNZ_drop l ha] at hi
    repeat' (first | apply (zs1 ?_) | apply (zs2 ?_) | (apply zg3; refine zs60 ?_) | (apply zg5; refine zs57 ?_) | (apply zg8; (refine zs16 ?_ ?_ <;> intro _ <;> try (exfalso; omega))) | (apply (zs17 ?_ ?_) <;> intro _ <;> try (exfalso; omega)) | (apply zg13; refine zs30 ?_) | apply (zs65 ?_) | apply (zs68 ?_) | apply (zs69 ?_) | apply (zs70 ?_) | (apply zg27; first | refine zs71 ?_ | refine zs72 ?_) | apply (zs73 ?_) | apply (zs74 ?_) | apply (zs76 ?_) | apply (zs77 ?_) | apply (zs78 ?_) | apply (zs79 ?_) | fail)
    · rename_i h
      rw [if_pos h] at hi
      ((repeat apply VQ_tail); apply VQ_ret1; exact rfl; exact rfl; refine ⟨congrArg _ ?_, rfl⟩)
      rw [hi]
    · rename_i h
      rw [if_neg (by omega)] at hi
      repeat' (first | fail)
      apply hK (k + 1)
      · exact ⟨by omega, hi⟩
      · omega
      · (repeat (first | exact sub_nil _ | (apply sub_cons; first | exact rfl | exact congrArg (fun z : Int => some (Value.int .i64 z)) (by omega))))
      · exact fun w hw => hw
  · repeat' (first | apply (zs1 ?_) | apply (zs2 ?_) | (apply (zs17 ?_ ?_) <;> intro _ <;> try (exfalso; omega)) | apply (zs65 ?_) | apply (zs68 ?_) | apply (zs69 ?_) | apply (zs70 ?_) | (apply zg27; refine zs72 ?_) | apply (zs74 ?_) | apply (zs75 ?_) | apply (zs80 ?_) | apply (zs81 ?_) | fail)
    ((repeat apply VQ_tail); apply VQ_ret1; exact rfl; exact rfl; refine ⟨congrArg _ ?_, rfl⟩)
    rw [hi, List.drop_eq_nil_of_le (by omega)]; rfl

theorem or_two (x y : Int) : firstNZ [x, y] = if x = 0 then y else x := by
  simp only [firstNZ]
  by_cases h : x = 0
  · by_cases h2 : y = 0 <;> simp [h, h2]
  · simp [h]

theorem compare_spec (a b : Lk) {B : Nat} {w0 : World} {H : List HP} {w : World} (hw : St B w0 H w) : Calls Tryz.prog 116 [lkV a, lkV b].toArray w (Post B w0 fun v K => v = .int .i64 (cmpL a b) ∧ K = H) := by
  refine Calls_of_VC Tryz.func116 Tryz.ntmps116 rfl rfl hw ?_
  repeat' (first | apply (zs2 ?_) | (apply zg23; (refine zs52 ?_; intro _)) | apply (zs65 ?_) | apply (zs68 ?_) | apply (zs69 ?_) | apply (zs70 ?_) | fail)
  apply VC_held [0, 1, 2, 3, 5, 6, 7, 8, 4, 9, 10, 11, 12] [] [true, true]
  kernel_rfl
  kernel_rfl
  (repeat (first | with_reducible exact split_nil | with_reducible apply split_t | with_reducible apply split_f))
  (simp only [pickOps, nthO]; rfl)
  exact rfl
  repeat' (first | ((first | apply VL_callt en147 | apply VL_callq en147); (repeat (first | exact args_nil | (apply args_cons; exact rfl))); exact rfl; exact fun _ hw => (compare_int _ _ hw)) | (apply zg2; refine zs6 ?_) | (apply zg3; refine zs7 ?_) | (apply zg26; (refine zs56 ?_; intro _)) | apply (zs65 ?_) | apply (zs87 ?_) | (apply VQ_heldq; (repeat (first | with_reducible exact pull_nil | (with_reducible apply pull_cons; (repeat (first | with_reducible exact rem_here | with_reducible apply rem_there)))))) | fail)
  rename_i g
  first | apply VL_callt en146 | apply VL_callq en146
  (repeat (first | exact args_nil | (apply args_cons; exact rfl)))
  exact rfl
  exact fun _ hw => (or_ints [cmpI a.1 b.1, cmpI a.2.1 b.2.1] (by simp) (Rd.blk (g := g) (cs := #[.int .i64 (cmpI a.1 b.1), .int .i64 (cmpI a.2.1 b.2.1)]) (by (focus repeat (first | with_reducible exact List.mem_cons_self | with_reducible apply List.mem_cons_of_mem | assumption)))) hw)
  repeat' (first | apply (zs2 ?_) | apply (zs65 ?_) | (apply VL_nilh; (repeat (first | with_reducible exact app_nil | with_reducible apply app_cons | exact app_niln _))) | apply (zs68 ?_) | apply (zs74 ?_) | (apply VQ_heldq; (repeat (first | with_reducible exact pull_nil | (with_reducible apply pull_cons; (repeat (first | with_reducible exact rem_here | with_reducible apply rem_there)))))) | apply (zs93 ?_) | apply (zs94 ?_) | fail)
  ((repeat apply VQ_tail); apply VQ_ret1; exact rfl; exact rfl; refine ⟨congrArg _ ?_, rfl⟩)
  rw [or_two]; rfl

theorem cl1_spec (n : NetM) (g : Nat) (a : Int) {B : Nat} {w0 : World} {H : List HP} {w : World} (hm : netB g n ∈ H) (hw : St B w0 H w) :
    Calls Tryz.prog 115 [.int .i64 a, .pointer (some ⟨g, 0, none⟩)].toArray w (Post B w0 fun v K => v = .bool (decide (0 ≤ a ∧ a < n.nodes)) ∧ K = H) := by
  refine Calls_of_VC Tryz.func115 Tryz.ntmps115 rfl rfl hw ?_
  repeat' (first | apply (zs1 ?_) | apply (zs2 ?_) | (apply zg1; first | refine zs3 ?_ | refine zs4 ?_) | (apply zg2; refine zs6 ?_) | (apply zg3; refine zs7 ?_) | (apply zg6; first | refine zs11 ?_ | refine zs12 ?_) | (apply (zs17 ?_ ?_) <;> intro _ <;> try (exfalso; omega)) | (apply (zs20 ?_ ?_) <;> intro _ <;> try (exfalso; omega)) | apply (zs65 ?_) | apply (zs68 ?_) | apply (zs69 ?_) | apply (zs70 ?_) | apply (zs74 ?_) | fail)
  · apply VQ_ret1; exact rfl; exact rfl
    exact ⟨by rw [decide_eq_true (by omega)], rfl⟩
  · apply VQ_ret1; exact rfl; exact rfl
    exact ⟨by rw [decide_eq_false (by omega)], rfl⟩
  · apply VQ_ret1; exact rfl; exact rfl
    exact ⟨by rw [decide_eq_false (by omega)], rfl⟩
end Go.Proofs.YtnkpfpgmbpnbgaaGreatDoor

/- Walks: Check of the program, and looking for a link. -/
namespace Go.Proofs.YtnkpfpgmbpnbgaaGreatDoor
open Go.RowKit Go.Eng Go.Nw

theorem powr_get {n : Net} {a b : Int} {r : List Int} {p : Int} (h1 : n.power[a.toNat]? = some r) (h2 : r[b.toNat]? = some p) : powr n a b = p := by simp [powr, List.getD, h1, h2]

theorem checkLink_spec (n : NetM) (i : Nat) {B : Nat} {w0 : World} {H : List HP} {w : World} (hin : n.In B w0 H) (hi : i < n.links.length) (hml : n.margin.length = n.links.length) (ht : tableE n.net = 0) (hw : St B w0 H w) :
    Calls Tryz.prog 81 [n.val, .int .i64 i].toArray w (Post B w0 fun v K => v = .int .i64 (linkE n.net i) ∧ K = H) := by
  refine Calls_of_VC Tryz.func81 Tryz.ntmps81 rfl rfl hw ?_
  obtain ⟨hpw, hrw, hlk, hmg, hs1, hs2, hs3, hs4⟩ := hin
  obtain ⟨t1, t2, t3⟩ := table_ok ht
  obtain ⟨l, hl⟩ : ∃ l, n.links[i]? = some l := ⟨_, List.getElem?_eq_getElem hi⟩
  obtain ⟨z, hz⟩ : ∃ z, n.margin[i]? = some z := ⟨_, List.getElem?_eq_getElem (by omega)⟩
  have e1 : lnk n.net i = l := lnk_get hl
  have e2 : mar n.net i = z := mar_get hz
  have e3 : n.net.nodes = n.nodes := rfl
  have e4 : n.net.power.length = n.rows.length := by simp [NetM.net]
  rw [e4, e3] at t1
  unfold linkE
  rw [e1, e2, e3]
  by_cases h1 : 0 ≤ l.1 ∧ l.1 < n.nodes
  rotate_left
  · skip
    repeat' (first | ((first | apply VL_callvtb (cs := [_]) | apply VL_callvqb (cs := [_])); exact rfl; exact en115; (repeat (first | exact args_nil | (apply args_cons; exact rfl))); exact rfl; exact fun _ hw => (cl1_spec n _ _ (by (focus repeat (first | with_reducible exact List.mem_cons_self | with_reducible apply List.mem_cons_of_mem | assumption))) hw); all_goals (intro hB; (try simp only [decide_eq_true_eq, decide_eq_false_iff_not] at hB); try (exfalso; omega))) | apply (zs1 ?_) | apply (zs2 ?_) | (apply zg1; refine zs3 ?_) | (apply zg2; refine zs6 ?_) | (apply zg3; first | refine zs7 ?_ | refine zs61 ?_) | (apply zg5; refine zs57 ?_) | (apply zg6; refine zs11 ?_) | (apply zg20; refine zs48 ?_) | (apply zg22; refine zs51 ?_) | (apply zg23; (refine zs52 ?_; intro _)) | (apply zg24; (refine zs54 ?_; intro _)) | apply (zs65 ?_) | apply (zs68 ?_) | apply (zs69 ?_) | apply (zs70 ?_) | (apply zg27; refine zs71 ?_) | apply (zs73 ?_) | apply (zs74 ?_) | apply (zs77 ?_) | apply (zs78 ?_) | (apply zg29; (apply VL_makeFunc; (repeat (first | exact args_nil | (apply args_cons; exact rfl))) ; exact rfl)) | fail)
    all_goals (((repeat apply VQ_tail); apply VQ_ret1; exact rfl; exact rfl; refine ⟨congrArg _ ?_, rfl⟩); (repeat (first | refine eq_ite_neg (by omega) ?_ | refine eq_ite_pos (by omega) ?_)); rfl)
  by_cases h2 : 0 ≤ l.2.1 ∧ l.2.1 < n.nodes
  rotate_left
  · skip
    repeat' (first | ((first | apply VL_callvtb (cs := [_]) | apply VL_callvqb (cs := [_])); exact rfl; exact en115; (repeat (first | exact args_nil | (apply args_cons; exact rfl))); exact rfl; exact fun _ hw => (cl1_spec n _ _ (by (focus repeat (first | with_reducible exact List.mem_cons_self | with_reducible apply List.mem_cons_of_mem | assumption))) hw); all_goals (intro hB; (try simp only [decide_eq_true_eq, decide_eq_false_iff_not] at hB); try (exfalso; omega))) | apply (zs1 ?_) | apply (zs2 ?_) | (apply zg1; first | refine zs3 ?_ | refine zs4 ?_) | (apply zg2; refine zs6 ?_) | (apply zg3; first | refine zs7 ?_ | refine zs61 ?_) | (apply zg5; refine zs57 ?_) | (apply zg6; first | refine zs11 ?_ | refine zs12 ?_) | (apply zg20; first | refine zs47 ?_ | refine zs48 ?_) | (apply zg22; refine zs51 ?_) | (apply zg23; (refine zs52 ?_; intro _)) | (apply zg24; (refine zs54 ?_; intro _)) | apply (zs65 ?_) | apply (zs68 ?_) | apply (zs69 ?_) | apply (zs70 ?_) | (apply zg27; refine zs71 ?_) | apply (zs73 ?_) | apply (zs74 ?_) | apply (zs77 ?_) | apply (zs78 ?_) | (apply zg29; (apply VL_makeFunc; (repeat (first | exact args_nil | (apply args_cons; exact rfl))) ; exact rfl)) | fail)
    all_goals (((repeat apply VQ_tail); apply VQ_ret1; exact rfl; exact rfl; refine ⟨congrArg _ ?_, rfl⟩); (repeat (first | refine eq_ite_neg (by omega) ?_ | refine eq_ite_pos (by omega) ?_)); rfl)
  obtain ⟨r, hr⟩ : ∃ r, n.rows[l.1.toNat]? = some r := ⟨_, List.getElem?_eq_getElem (by omega)⟩
  have hrm : r ∈ n.rows := List.mem_of_getElem? hr
  have hrr := hrw r hrm
  have hrs := hs2 r hrm
  have hrl : (r.xs.length : Int) = n.nodes := t2 r.xs (List.mem_map.2 ⟨r, hrm, rfl⟩)
  obtain ⟨p, hp⟩ : ∃ p, r.xs[l.2.1.toNat]? = some p := ⟨_, List.getElem?_eq_getElem (by omega)⟩
  rw [powr_get (n := n.net) (r := r.xs) (by simp [NetM.net, hr]) hp]
  by_cases h0 : 0 < i
  · obtain ⟨q, hq⟩ : ∃ q, n.links[((i : Int) - 1).toNat]? = some q := ⟨_, List.getElem?_eq_getElem (by omega)⟩
    rw [show lnk n.net (i - 1) = q from lnk_get (by rw [show i - 1 = ((i : Int) - 1).toNat by omega]; exact hq)]
    repeat' (first | ((first | apply VL_callvtb (cs := [_]) | apply VL_callvqb (cs := [_])); exact rfl; exact en115; (repeat (first | exact args_nil | (apply args_cons; exact rfl))); exact rfl; exact fun _ hw => (cl1_spec n _ _ (by (focus repeat (first | with_reducible exact List.mem_cons_self | with_reducible apply List.mem_cons_of_mem | assumption))) hw); all_goals (intro hB; (try simp only [decide_eq_true_eq, decide_eq_false_iff_not] at hB); try (exfalso; omega))) | ((first | apply VL_callt en116 | apply VL_callq en116); (repeat (first | exact args_nil | (apply args_cons; exact rfl))); exact rfl; exact fun _ hw => (compare_spec q l hw)) | apply (zs1 ?_) | apply (zs2 ?_) | (apply zg1; first | refine zs3 ?_ | refine zs4 ?_) | (apply zg2; refine zs6 ?_) | (apply zg3; first | refine zs7 ?_ | refine zs8 ?_ | refine zs60 ?_ | refine zs61 ?_) | (apply zg5; refine zs57 ?_) | (apply zg6; first | refine zs11 ?_ | refine zs12 ?_) | (apply zg7; (refine zs15 ?_ ?_ <;> intro _ <;> try (exfalso; omega))) | (apply (zs17 ?_ ?_) <;> intro _ <;> try (exfalso; omega)) | (apply (zs19 ?_ ?_) <;> intro _ <;> try (exfalso; omega)) | (apply (zs20 ?_ ?_) <;> intro _ <;> try (exfalso; omega)) | (apply zg14; refine zs31 ?_) | (apply zg20; refine zs47 ?_) | (apply zg22; refine zs51 ?_) | (apply zg23; (refine zs52 ?_; intro _)) | (apply zg24; (refine zs54 ?_; intro _)) | apply (zs65 ?_) | apply (zs66 ?_) | apply (zs68 ?_) | apply (zs69 ?_) | apply (zs70 ?_) | (apply zg27; first | refine zs71 ?_ | refine zs72 ?_) | apply (zs73 ?_) | apply (zs74 ?_) | apply (zs76 ?_) | apply (zs77 ?_) | apply (zs78 ?_) | apply (zs79 ?_) | (apply zg28; first | refine zs83 ?_ | refine zs84 ?_) | (apply zg29; (apply VL_makeFunc; (repeat (first | exact args_nil | (apply args_cons; exact rfl))) ; exact rfl)) | fail)
    all_goals (((repeat apply VQ_tail); apply VQ_ret1; exact rfl; exact rfl; refine ⟨congrArg _ ?_, rfl⟩); (repeat (first | refine eq_ite_neg (by omega) ?_ | refine eq_ite_pos (by omega) ?_)); rfl)
  · skip
    repeat' (first | ((first | apply VL_callvtb (cs := [_]) | apply VL_callvqb (cs := [_])); exact rfl; exact en115; (repeat (first | exact args_nil | (apply args_cons; exact rfl))); exact rfl; exact fun _ hw => (cl1_spec n _ _ (by (focus repeat (first | with_reducible exact List.mem_cons_self | with_reducible apply List.mem_cons_of_mem | assumption))) hw); all_goals (intro hB; (try simp only [decide_eq_true_eq, decide_eq_false_iff_not] at hB); try (exfalso; omega))) | ((first | apply VL_callt en116 | apply VL_callq en116); (repeat (first | exact args_nil | (apply args_cons; exact rfl))); exact rfl; exact fun _ hw => (compare_spec _ _ hw)) | apply (zs1 ?_) | apply (zs2 ?_) | (apply zg1; first | refine zs3 ?_ | refine zs4 ?_) | (apply zg2; refine zs6 ?_) | (apply zg3; first | refine zs7 ?_ | refine zs60 ?_ | refine zs61 ?_) | (apply zg5; refine zs57 ?_) | (apply zg6; first | refine zs11 ?_ | refine zs12 ?_) | (apply zg7; (refine zs15 ?_ ?_ <;> intro _ <;> try (exfalso; omega))) | (apply (zs17 ?_ ?_) <;> intro _ <;> try (exfalso; omega)) | (apply (zs19 ?_ ?_) <;> intro _ <;> try (exfalso; omega)) | (apply zg20; refine zs47 ?_) | (apply zg22; refine zs51 ?_) | (apply zg23; (refine zs52 ?_; intro _)) | (apply zg24; (refine zs54 ?_; intro _)) | apply (zs65 ?_) | apply (zs66 ?_) | apply (zs68 ?_) | apply (zs69 ?_) | apply (zs70 ?_) | (apply zg27; first | refine zs71 ?_ | refine zs72 ?_) | apply (zs73 ?_) | apply (zs74 ?_) | apply (zs76 ?_) | apply (zs77 ?_) | apply (zs78 ?_) | apply (zs79 ?_) | (apply zg28; first | refine zs83 ?_ | refine zs84 ?_) | (apply zg29; (apply VL_makeFunc; (repeat (first | exact args_nil | (apply args_cons; exact rfl))) ; exact rfl)) | fail)
    all_goals (((repeat apply VQ_tail); apply VQ_ret1; exact rfl; exact rfl; refine ⟨congrArg _ ?_, rfl⟩); (repeat (first | refine eq_ite_neg (by omega) ?_ | refine eq_ite_pos (by omega) ?_)); rfl)

theorem check_spec (n : NetM) {B : Nat} {w0 : World} {H : List HP} {w : World} (hin : n.In B w0 H) (hw : St B w0 H w) :
    Calls Tryz.prog 38 [n.val].toArray w (Post B w0 fun v K => v = .int .i64 (checkE n.net) ∧ K = H) := by
  refine Calls_of_VC Tryz.func38 Tryz.ntmps38 rfl rfl hw ?_
  have e3 : n.net.nodes = n.nodes := rfl
  have e5 : n.net.noise = n.noise := rfl
  have e6 : n.net.thr = n.thr := rfl
  have e7 : n.net.links = n.links := rfl
  have e8 : n.net.margin = n.margin := rfl
  have hs1 := hin.s1
  have hs3 := hin.s3
  have hs4 := hin.s4
  unfold checkE
  rw [e3, e5, e6, e7, e8]
  (apply VC_seq; apply VC_region; apply VL_box_agg; exact rfl; exact rfl; intro g)
  repeat' (first | ((first | apply VL_callt en80 | apply VL_callq en80); (repeat (first | exact args_nil | (apply args_cons; exact rfl))); exact rfl; exact fun _ hw => (checkPower_spec n hin.cons hw)) | apply (zs1 ?_) | apply (zs2 ?_) | (apply zg1; first | refine zs3 ?_ | refine zs4 ?_) | (apply zg2; refine zs6 ?_) | (apply zg3; first | refine zs7 ?_ | refine zs8 ?_) | (apply zg4; refine zs9 ?_) | (apply zg6; first | refine zs11 ?_ | refine zs12 ?_) | (apply zg8; (refine zs16 ?_ ?_ <;> intro _ <;> try (exfalso; omega))) | (apply (zs17 ?_ ?_) <;> intro _ <;> try (exfalso; omega)) | (apply (zs19 ?_ ?_) <;> intro _ <;> try (exfalso; omega)) | apply (zs65 ?_) | apply (zs68 ?_) | apply (zs69 ?_) | apply (zs70 ?_) | (apply zg27; first | refine zs71 ?_ | refine zs72 ?_) | apply (zs73 ?_) | apply (zs74 ?_) | apply (zs76 ?_) | apply (zs77 ?_) | apply (zs78 ?_) | apply (zs79 ?_) | fail)
  any_goals (((repeat apply VQ_tail); apply VQ_ret1; exact rfl; exact rfl; refine ⟨congrArg _ ?_, rfl⟩); (repeat (first | refine eq_ite_neg (by omega) ?_ | refine eq_ite_pos (by omega) ?_)); rfl)
  have ht : tableE n.net = 0 := by assumption
  refine VC_loop1 (fun (k : Nat) => [(54, .int .i64 k), (53, .int .i64 n.links.length), (1, .pointer (some ⟨g, 0, none⟩))]) (fun _ => netB g n :: H) (fun k => k ≤ n.links.length ∧ linksE n.net n.links.length 0 = linksE n.net (n.links.length - k) k) (fun k => n.links.length - k) 0 ⟨Nat.zero_le _, rfl⟩ ?_ (fun w hw => hw) ?_
  · (repeat (first | exact sub_nil _ | (apply sub_cons; first | exact rfl | exact congrArg (fun z : Int => some (Value.int .i64 z)) (by omega))))
  rintro k ⟨hk, hi⟩ K hK
  by_cases hlt : k < n.links.length
  · skip
    repeat' (first | ((first | apply VL_callt en81 | apply VL_callq en81); (repeat (first | exact args_nil | (apply args_cons; exact rfl))); exact rfl; exact fun _ hw => (checkLink_spec n k hin.cons hlt (by omega) ht hw)) | apply (zs1 ?_) | apply (zs2 ?_) | (apply zg3; refine zs8 ?_) | (apply zg8; (refine zs16 ?_ ?_ <;> intro _ <;> try (exfalso; omega))) | (apply (zs17 ?_ ?_) <;> intro _ <;> try (exfalso; omega)) | (apply zg13; refine zs30 ?_) | apply (zs65 ?_) | apply (zs68 ?_) | apply (zs69 ?_) | apply (zs70 ?_) | (apply zg27; first | refine zs71 ?_ | refine zs72 ?_) | apply (zs73 ?_) | apply (zs74 ?_) | apply (zs76 ?_) | apply (zs77 ?_) | apply (zs78 ?_) | apply (zs79 ?_) | fail)
    · ((repeat apply VQ_tail); apply VQ_ret1; exact rfl; exact rfl; refine ⟨congrArg _ ?_, rfl⟩)
      (repeat (first | refine eq_ite_neg (by omega) ?_ | refine eq_ite_pos (by omega) ?_))
      rw [hi]; exact (linksE_stop n.net hlt (by assumption)).symm
    · apply hK (k + 1)
      · exact ⟨by omega, by rw [hi]; exact linksE_step n.net hlt (by assumption)⟩
      · omega
      · (repeat (first | exact sub_nil _ | (apply sub_cons; first | exact rfl | exact congrArg (fun z : Int => some (Value.int .i64 z)) (by omega))))
      · exact fun w hw => hw
  · repeat' (first | apply (zs2 ?_) | (apply (zs17 ?_ ?_) <;> intro _ <;> try (exfalso; omega)) | apply (zs65 ?_) | apply (zs68 ?_) | apply (zs69 ?_) | apply (zs70 ?_) | (apply zg27; refine zs72 ?_) | apply (zs74 ?_) | apply (zs75 ?_) | apply (zs80 ?_) | apply (zs81 ?_) | fail)
    ((repeat apply VQ_tail); apply VQ_ret1; exact rfl; exact rfl; refine ⟨congrArg _ ?_, rfl⟩)
    (repeat (first | refine eq_ite_neg (by omega) ?_ | refine eq_ite_pos (by omega) ?_))
    rw [hi, show n.links.length - k = 0 by omega]; rfl
end Go.Proofs.YtnkpfpgmbpnbgaaGreatDoor

/- Walks: looking for a link in a valid network; what is heard, and usable. -/
namespace Go.Proofs.YtnkpfpgmbpnbgaaGreatDoor
open Go.RowKit Go.Eng Go.Nw

theorem search_spec (n : NetM) (t : Lk) {B : Nat} {w0 : World} {H : List HP} {w : World} (hin : n.In B w0 H) (hok : Ok n.net) (hw : St B w0 H w) :
    Calls Tryz.prog 148 [.slice n.lA n.links.length n.lcap, lkV t, .func (.func 116) #[] #[]].toArray w (Post B w0 fun v K => ∃ k : Nat,
      v = .tuple #[.int .i64 k, .bool (decide (k < n.links.length ∧ cmpL (lnk n.net k) t = 0))] ∧ k ≤ n.links.length ∧ (∀ j, j < k → cmpL (lnk n.net j) t < 0) ∧ (∀ j, k ≤ j → j < n.links.length → 0 ≤ cmpL (lnk n.net j) t) ∧ K = H) := by
  refine Calls_of_VC Tryz.func148 Tryz.ntmps148 rfl rfl hw ?_
  obtain ⟨hpw, hrw, hlk, hmg, hs1, hs2, hs3, hs4⟩ := hin
  have hl8 : n.links.length ≤ 128 := hok.k0
  (apply VC_seq; apply VC_region; apply VL_box_agg; exact rfl; exact rfl; intro g)
  repeat' (first | apply (zs1 ?_) | apply (zs2 ?_) | (apply zg4; refine zs9 ?_) | apply (zs65 ?_) | apply (zs68 ?_) | apply (zs69 ?_) | apply (zs70 ?_) | apply (zs73 ?_) | fail)
  refine VC_loop2 (fun (lo hi : Nat) => [(9, .int .i64 lo), (10, .int .i64 hi), (8, .int .i64 n.links.length), (0, .slice n.lA n.links.length n.lcap), (2, .func (.func 116) #[] #[]), (4, .pointer (some ⟨g, 0, none⟩))]) (fun _ _ => blk g (.cells #[.int .i64 t.1, .int .i64 t.2.1, .int .i64 t.2.2] 135 (0, 0)) :: H)
    (fun lo hi => lo ≤ hi ∧ hi ≤ n.links.length ∧ (∀ j, j < lo → cmpL (lnk n.net j) t < 0) ∧ (∀ j, hi ≤ j → j < n.links.length → 0 ≤ cmpL (lnk n.net j) t)) (fun lo hi => hi - lo) 0 n.links.length ⟨by omega, by omega, fun j hj => by omega, fun j h1 h2 => by omega⟩ ?_ (fun w hw => hw) ?_
  · (repeat (first | exact sub_nil _ | (apply sub_cons; first | exact rfl | exact congrArg (fun z : Int => some (Value.int .i64 z)) (by omega))))
  rintro lo hi ⟨h1, h2, h3, h4⟩ K hK
  by_cases hlt : lo < hi
  · obtain ⟨b, hb⟩ : ∃ b, n.links[(((lo : Int) + hi) / 2).toNat]? = some b := ⟨_, List.getElem?_eq_getElem (by omega)⟩
    have hm : (((lo : Int) + hi) / 2).toNat = (lo + hi) / 2 := by omega
    have eb : lnk n.net ((lo + hi) / 2) = b := by rw [← hm]; exact lnk_get hb
    repeat' (first | ((first | apply VL_callvt (cs := []) | apply VL_callvq (cs := [])); exact rfl; exact en116; (repeat (first | exact args_nil | (apply args_cons; exact rfl))); exact rfl; exact fun _ hw => (compare_spec b t hw)) | apply (zs1 ?_) | apply (zs2 ?_) | (apply zg3; first | refine zs8 ?_ | refine zs61 ?_) | (apply zg5; refine zs57 ?_) | (apply (zs17 ?_ ?_) <;> intro _ <;> try (exfalso; omega)) | (apply zg13; refine zs30 ?_) | (apply zg18; refine zs38 ?_) | (apply zg19; first | refine zs44 ?_ | refine zs45 ?_) | apply (zs65 ?_) | apply (zs66 ?_) | apply (zs68 ?_) | apply (zs69 ?_) | apply (zs70 ?_) | (apply zg27; first | refine zs71 ?_ | refine zs72 ?_) | apply (zs73 ?_) | apply (zs76 ?_) | apply (zs79 ?_) | (apply zg28; refine zs84 ?_) | fail)
    · rename_i hc
      apply hK ((lo + hi) / 2 + 1) hi
      · refine ⟨by omega, by omega, fun j hj => ?_, h4⟩
        by_cases e : j = (lo + hi) / 2
        · rw [e, eb]; exact hc
        · have h5 := sorted hok j ((lo + hi) / 2) (by omega) (by show _ < n.links.length; omega)
          rw [eb] at h5
          rw [cmpL_neg] at *
          omega
      · omega
      · (repeat (first | exact sub_nil _ | (apply sub_cons; first | exact rfl | exact congrArg (fun z : Int => some (Value.int .i64 z)) (by omega))))
      · exact fun w hw => hw
    · rename_i hc
      apply hK lo ((lo + hi) / 2)
      · refine ⟨by omega, by omega, h3, fun j hj hjl => ?_⟩
        by_cases e : j = (lo + hi) / 2
        · rw [e, eb]; exact hc
        · have h5 := sorted hok ((lo + hi) / 2) j (by omega) hjl
          rw [eb] at h5
          have h6 : ¬ cmpL b t < 0 := by omega
          have h7 : ¬ cmpL (lnk n.net j) t < 0 := by
            rw [cmpL_neg] at *
            omega
          omega
      · omega
      · (repeat (first | exact sub_nil _ | (apply sub_cons; first | exact rfl | exact congrArg (fun z : Int => some (Value.int .i64 z)) (by omega))))
      · exact fun w hw => hw
  · obtain rfl : lo = hi := by omega
    by_cases hl : lo < n.links.length
    · obtain ⟨b, hb⟩ : ∃ b, n.links[lo]? = some b := ⟨_, List.getElem?_eq_getElem hl⟩
      have eb : lnk n.net lo = b := lnk_get hb
      repeat' (first | ((first | apply VL_callvt (cs := []) | apply VL_callvq (cs := [])); exact rfl; exact en116; (repeat (first | exact args_nil | (apply args_cons; exact rfl))); exact rfl; exact fun _ hw => (compare_spec b t hw)) | apply (zs1 ?_) | apply (zs2 ?_) | (apply zg1; refine zs4 ?_) | (apply zg3; first | refine zs8 ?_ | refine zs61 ?_) | (apply zg5; refine zs57 ?_) | (apply zg6; refine zs11 ?_) | (apply zg7; (refine zs15 ?_ ?_ <;> intro _ <;> try (exfalso; omega))) | (apply (zs17 ?_ ?_) <;> intro _ <;> try (exfalso; omega)) | apply (zs65 ?_) | apply (zs66 ?_) | apply (zs68 ?_) | apply (zs69 ?_) | apply (zs70 ?_) | (apply zg27; refine zs72 ?_) | apply (zs74 ?_) | apply (zs75 ?_) | apply (zs80 ?_) | apply (zs81 ?_) | (apply zg28; refine zs84 ?_) | fail)
      all_goals (apply VQ_tail; apply VQ_ret2; exact rfl; exact rfl; exact rfl; refine ⟨lo, ?_, h2, h3, h4, rfl⟩; rw [eb])
      · rw [decide_eq_true ⟨hl, by assumption⟩]
      · rw [decide_eq_false fun hc => absurd hc.2 (by assumption)]
    · repeat' (first | apply (zs1 ?_) | apply (zs2 ?_) | (apply zg1; refine zs3 ?_) | (apply zg6; refine zs12 ?_) | (apply (zs17 ?_ ?_) <;> intro _ <;> try (exfalso; omega)) | apply (zs65 ?_) | apply (zs66 ?_) | apply (zs68 ?_) | apply (zs69 ?_) | apply (zs70 ?_) | (apply zg27; refine zs72 ?_) | apply (zs74 ?_) | apply (zs75 ?_) | apply (zs80 ?_) | apply (zs81 ?_) | (apply zg28; refine zs84 ?_) | fail)
      apply VQ_tail; apply VQ_ret2; exact rfl; exact rfl; exact rfl
      refine ⟨lo, ?_, h2, h3, h4, rfl⟩
      rw [decide_eq_false fun hc => hl hc.1]

theorem find_spec (n : NetM) (a b : Int) {B : Nat} {w0 : World} {H : List HP} {w : World} (hin : n.In B w0 H) (hok : Ok n.net) (hw : St B w0 H w) :
    Calls Tryz.prog 119 [n.val, .int .i64 a, .int .i64 b].toArray w (Post B w0 fun v K => v = .int .i64 (findE n.net a b) ∧ K = H) := by
  refine Calls_of_VC Tryz.func119 Tryz.ntmps119 rfl rfl hw ?_
  (apply VC_seq; apply VC_region; apply VL_box_agg; exact rfl; exact rfl; intro g)
  repeat' (first | apply (zs1 ?_) | apply (zs2 ?_) | (apply zg2; refine zs6 ?_) | (apply zg3; refine zs7 ?_) | (apply zg25; refine zs55 ?_) | apply (zs65 ?_) | apply (zs68 ?_) | apply (zs69 ?_) | apply (zs70 ?_) | fail)
  apply VL_call _ en148
  (repeat (first | exact args_nil | (apply args_cons; exact rfl)))
  exact rfl
  exact fun _ hw => (search_spec n (a, b, 0) hin.cons hok (hw))
  rintro _ _ ⟨k, rfl, hk, h1, h2, rfl⟩
  have hf := find_pos hok hk h1 h2
  rw [hf]
  by_cases hc : k < n.links.length ∧ cmpL (lnk n.net k) (a, b, 0) = 0
  · rw [decide_eq_true hc]
    repeat' (first | apply (zs1 ?_) | apply (zs2 ?_) | apply (zs13 ?_) | (apply zg20; refine zs47 ?_) | apply (zs65 ?_) | apply (zs68 ?_) | apply (zs69 ?_) | apply (zs70 ?_) | (apply zg27; refine zs72 ?_) | apply (zs74 ?_) | apply (zs76 ?_) | fail)
    ((repeat apply VQ_tail); apply VQ_ret1; exact rfl; exact rfl; refine ⟨congrArg _ ?_, rfl⟩)
    exact (if_pos hc).symm
  · rw [decide_eq_false hc]
    repeat' (first | apply (zs1 ?_) | apply (zs2 ?_) | apply (zs13 ?_) | (apply zg20; refine zs48 ?_) | apply (zs65 ?_) | apply (zs68 ?_) | apply (zs69 ?_) | apply (zs70 ?_) | (apply zg27; refine zs71 ?_) | apply (zs74 ?_) | apply (zs77 ?_) | fail)
    ((repeat apply VQ_tail); apply VQ_ret1; exact rfl; exact rfl; refine ⟨congrArg _ ?_, rfl⟩)
    exact (if_neg hc).symm

def indexE (n : Net) (a b : Int) : Int := if checkE n ≠ 0 then -1 else findE n a b
theorem index_spec (n : NetM) (a b : Int) {B : Nat} {w0 : World} {H : List HP} {w : World} (hin : n.In B w0 H) (hw : St B w0 H w) :
    Calls Tryz.prog 86 [n.val, .int .i64 a, .int .i64 b].toArray w (Post B w0 fun v K => v = .int .i64 (indexE n.net a b) ∧ K = H) := by
  refine Calls_of_VC Tryz.func86 Tryz.ntmps86 rfl rfl hw ?_
  unfold indexE
  repeat' (first | ((first | apply VL_callt en38 | apply VL_callq en38); (repeat (first | exact args_nil | (apply args_cons; exact rfl))); exact rfl; exact fun _ hw => (check_spec n hin.cons hw)) | ((first | apply VL_callt en119 | apply VL_callq en119); (repeat (first | exact args_nil | (apply args_cons; exact rfl))); exact rfl; exact fun _ hw => (find_spec n _ _ hin.cons (check_ok (by assumption)) hw)) | apply (zs1 ?_) | apply (zs2 ?_) | (apply zg3; refine zs8 ?_) | (apply zg8; (refine zs16 ?_ ?_ <;> intro _ <;> try (exfalso; omega))) | (apply zg23; (refine zs52 ?_; intro _)) | apply (zs65 ?_) | apply (zs68 ?_) | apply (zs69 ?_) | apply (zs70 ?_) | (apply zg27; first | refine zs71 ?_ | refine zs72 ?_) | apply (zs74 ?_) | apply (zs76 ?_) | apply (zs77 ?_) | fail)
  all_goals (((repeat apply VQ_tail); apply VQ_ret1; exact rfl; exact rfl; refine ⟨congrArg _ ?_, rfl⟩); (repeat (first | refine eq_ite_neg (by omega) ?_ | refine eq_ite_pos (by omega) ?_)); rfl)

theorem hears_spec (n : NetM) (s d : Int) {B : Nat} {w0 : World} {H : List HP} {w : World} (hok : Ok n.net) (hs : 0 ≤ s ∧ s ≤ 8796093022208) (hd : 0 ≤ d ∧ d ≤ 8796093022208) (hw : St B w0 H w) :
    Calls Tryz.prog 121 [n.val, .int .i64 s, .int .i64 d].toArray w (Post B w0 fun v K => v = .bool (heardE n.net s d) ∧ K = H) := by
  refine Calls_of_VC Tryz.func121 Tryz.ntmps121 rfl rfl hw ?_
  have hb : -9223372036854775808 ≤ n.thr * (n.noise + d) ∧ n.thr * (n.noise + d) ≤ 9223372036854775807 := hear_bd hok hd.1 hd.2
  have hz0 : 0 ≤ n.noise := hok.z0
  have hz1 : n.noise ≤ 68719476736 := hok.z1
  unfold heardE
  show VC Tryz.prog _ B w0 _ (bodyPost Tryz.prog _ (Post B w0 fun v K => v = .bool (decide (n.thr * (n.noise + d) ≤ s * 1000)) ∧ K = H)) _ _
  repeat' (first | apply (zs1 ?_) | apply (zs2 ?_) | (apply zg2; refine zs6 ?_) | (apply zg3; refine zs7 ?_) | (apply (zs20 ?_ ?_) <;> intro _ <;> try (exfalso; omega)) | (apply zg13; refine zs30 ?_) | (apply zg15; refine zs32 ?_) | (apply zg23; (refine zs52 ?_; intro _)) | apply (zs65 ?_) | apply (zs68 ?_) | apply (zs69 ?_) | apply (zs70 ?_) | apply (zs74 ?_) | fail)
  · (repeat apply VQ_tail); apply VQ_ret1; exact rfl; exact rfl
    exact ⟨by rw [decide_eq_true (by assumption)], rfl⟩
  · (repeat apply VQ_tail); apply VQ_ret1; exact rfl; exact rfl
    exact ⟨by rw [decide_eq_false (by omega)], rfl⟩

def hearsE (n : Net) (s d : Int) : Bool := decide (checkE n = 0) && (decide (0 ≤ s ∧ 0 ≤ d ∧ s ≤ 8796093022208 ∧ d ≤ 8796093022208) && heardE n s d)
theorem Hears_spec (n : NetM) (s d : Int) {B : Nat} {w0 : World} {H : List HP} {w : World} (hin : n.In B w0 H) (hw : St B w0 H w) :
    Calls Tryz.prog 88 [n.val, .int .i64 s, .int .i64 d].toArray w (Post B w0 fun v K => v = .bool (hearsE n.net s d) ∧ K = H) := by
  refine Calls_of_VC Tryz.func88 Tryz.ntmps88 rfl rfl hw ?_
  unfold hearsE
  by_cases h0 : checkE n.net = 0
  rotate_left
  · rw [decide_eq_false h0]
    repeat' (first | ((first | apply VL_callt en38 | apply VL_callq en38); (repeat (first | exact args_nil | (apply args_cons; exact rfl))); exact rfl; exact fun _ hw => (check_spec n hin.cons hw)) | apply (zs1 ?_) | apply (zs2 ?_) | (apply zg1; refine zs3 ?_) | (apply zg3; refine zs8 ?_) | (apply zg6; refine zs11 ?_) | (apply zg8; (refine zs16 ?_ ?_ <;> intro _ <;> try (exfalso; omega))) | (apply zg23; (refine zs52 ?_; intro _)) | apply (zs65 ?_) | apply (zs68 ?_) | apply (zs69 ?_) | apply (zs70 ?_) | (apply zg27; refine zs71 ?_) | apply (zs74 ?_) | apply (zs77 ?_) | fail)
    (repeat apply VQ_tail); apply VQ_ret1; exact rfl; exact rfl
    exact ⟨rfl, rfl⟩
  rw [decide_eq_true h0]
  by_cases h1 : 0 ≤ s ∧ 0 ≤ d ∧ s ≤ 8796093022208 ∧ d ≤ 8796093022208
  rotate_left
  · rw [decide_eq_false h1]
    repeat' (first | ((first | apply VL_callt en38 | apply VL_callq en38); (repeat (first | exact args_nil | (apply args_cons; exact rfl))); exact rfl; exact fun _ hw => (check_spec n hin.cons hw)) | apply (zs1 ?_) | apply (zs2 ?_) | (apply zg1; first | refine zs3 ?_ | refine zs4 ?_) | (apply zg3; refine zs8 ?_) | (apply zg6; first | refine zs11 ?_ | refine zs12 ?_) | (apply zg8; (refine zs16 ?_ ?_ <;> intro _ <;> try (exfalso; omega))) | (apply (zs17 ?_ ?_) <;> intro _ <;> try (exfalso; omega)) | (apply (zs19 ?_ ?_) <;> intro _ <;> try (exfalso; omega)) | (apply (zs25 ?_ ?_) <;> intro _ <;> try (exfalso; omega)) | (apply zg23; (refine zs52 ?_; intro _)) | (apply (zs62 ?_ ?_) <;> intro _ <;> try (exfalso; omega)) | apply (zs65 ?_) | apply (zs68 ?_) | apply (zs69 ?_) | apply (zs70 ?_) | (apply zg27; refine zs71 ?_) | apply (zs74 ?_) | apply (zs77 ?_) | fail)
    all_goals ((repeat apply VQ_tail); apply VQ_ret1; exact rfl; exact rfl; exact ⟨rfl, rfl⟩)
  rw [decide_eq_true h1]
  repeat' (first | ((first | apply VL_callt en38 | apply VL_callq en38); (repeat (first | exact args_nil | (apply args_cons; exact rfl))); exact rfl; exact fun _ hw => (check_spec n hin.cons hw)) | ((first | apply VL_callt en121 | apply VL_callq en121); (repeat (first | exact args_nil | (apply args_cons; exact rfl))); exact rfl; exact fun _ hw => (hears_spec n _ _ (check_ok h0) (by omega) (by omega) hw)) | apply (zs1 ?_) | apply (zs2 ?_) | (apply zg1; refine zs4 ?_) | (apply zg3; refine zs8 ?_) | (apply zg6; refine zs12 ?_) | (apply zg8; (refine zs16 ?_ ?_ <;> intro _ <;> try (exfalso; omega))) | (apply (zs17 ?_ ?_) <;> intro _ <;> try (exfalso; omega)) | (apply (zs19 ?_ ?_) <;> intro _ <;> try (exfalso; omega)) | (apply (zs25 ?_ ?_) <;> intro _ <;> try (exfalso; omega)) | (apply zg23; (refine zs52 ?_; intro _)) | (apply (zs62 ?_ ?_) <;> intro _ <;> try (exfalso; omega)) | apply (zs65 ?_) | apply (zs68 ?_) | apply (zs69 ?_) | apply (zs70 ?_) | (apply zg27; refine zs72 ?_) | apply (zs74 ?_) | apply (zs76 ?_) | fail)
  all_goals ((repeat apply VQ_tail); apply VQ_ret1; exact rfl; exact rfl; exact ⟨rfl, rfl⟩)

theorem usable_spec (n : NetM) (i : Nat) {B : Nat} {w0 : World} {H : List HP} {w : World} (hin : n.In B w0 H) (hok : Ok n.net) (hi : i < n.links.length) (hw : St B w0 H w) :
    Calls Tryz.prog 118 [n.val, .int .i64 i].toArray w (Post B w0 fun v K => v = .bool (usableE n.net i) ∧ K = H) := by
  refine Calls_of_VC Tryz.func118 Tryz.ntmps118 rfl rfl hw ?_
  obtain ⟨hpw, hrw, hlk, hmg, hs1, hs2, hs3, hs4⟩ := id hin
  have hml : n.margin.length = n.links.length := hok.k1
  obtain ⟨l, hl⟩ : ∃ l, n.links[i]? = some l := ⟨_, List.getElem?_eq_getElem hi⟩
  obtain ⟨z, hz⟩ : ∃ z, n.margin[i]? = some z := ⟨_, List.getElem?_eq_getElem (by omega)⟩
  have e1 : lnk n.net i = l := lnk_get hl
  have e2 : mar n.net i = z := mar_get hz
  have hzb := mar_bd hok hi
  unfold usableE
  rw [e2] at hzb
  rw [e1, e2]
  by_cases hb : 0 ≤ findE n.net l.2.1 l.1
  · have hlt : (findE n.net l.2.1 l.1).toNat < n.links.length := find_lt hb
    obtain ⟨y, hy⟩ : ∃ y, n.margin[(findE n.net l.2.1 l.1).toNat]? = some y := ⟨_, List.getElem?_eq_getElem (by omega)⟩
    have e3 : mar n.net (findE n.net l.2.1 l.1).toNat = y := mar_get hy
    have hyb := mar_bd hok hlt
    rw [e3] at hyb
    rw [e3, decide_eq_true hb]
    repeat' (first | ((first | apply VL_callt en119 | apply VL_callq en119); (repeat (first | exact args_nil | (apply args_cons; exact rfl))); exact rfl; exact fun _ hw => (find_spec n _ _ hin.cons hok hw)) | ((first | apply VL_calltb en121 | apply VL_callqb en121); (repeat (first | exact args_nil | (apply args_cons; exact rfl))); exact rfl; exact fun _ hw => (hears_spec n _ _ hok (by omega) (by omega) hw); all_goals (intro hB; (try simp only [decide_eq_true_eq, decide_eq_false_iff_not] at hB); try (exfalso; omega))) | apply (zs1 ?_) | apply (zs2 ?_) | (apply zg1; first | refine zs3 ?_ | refine zs4 ?_) | (apply zg2; first | refine zs6 ?_ | refine zs58 ?_) | (apply zg3; first | refine zs7 ?_ | refine zs8 ?_ | refine zs59 ?_ | refine zs60 ?_) | (apply zg5; refine zs57 ?_) | (apply zg6; first | refine zs11 ?_ | refine zs12 ?_) | (apply (zs20 ?_ ?_) <;> intro _ <;> try (exfalso; omega)) | (apply zg23; (refine zs52 ?_; intro _)) | apply (zs65 ?_) | apply (zs66 ?_) | apply (zs68 ?_) | apply (zs69 ?_) | apply (zs70 ?_) | apply (zs74 ?_) | (apply zg28; refine zs84 ?_) | fail)
    all_goals ((repeat apply VQ_tail); apply VQ_ret1; exact rfl; exact rfl; refine ⟨?_, rfl⟩; simp_all)
  · rw [decide_eq_false hb]
    repeat' (first | ((first | apply VL_callt en119 | apply VL_callq en119); (repeat (first | exact args_nil | (apply args_cons; exact rfl))); exact rfl; exact fun _ hw => (find_spec n _ _ hin.cons hok hw)) | apply (zs1 ?_) | apply (zs2 ?_) | (apply zg1; refine zs3 ?_) | (apply zg2; first | refine zs6 ?_ | refine zs58 ?_) | (apply zg3; first | refine zs7 ?_ | refine zs8 ?_ | refine zs59 ?_) | (apply zg5; refine zs57 ?_) | (apply zg6; refine zs12 ?_) | (apply (zs20 ?_ ?_) <;> intro _ <;> try (exfalso; omega)) | (apply zg23; (refine zs52 ?_; intro _)) | apply (zs65 ?_) | apply (zs66 ?_) | apply (zs68 ?_) | apply (zs69 ?_) | apply (zs70 ?_) | apply (zs74 ?_) | (apply zg28; refine zs84 ?_) | fail)
    all_goals ((repeat apply VQ_tail); apply VQ_ret1; exact rfl; exact rfl; exact ⟨rfl, rfl⟩)

def UsableE (n : Net) (i : Int) : Bool := decide (checkE n = 0) && (decide (0 ≤ i ∧ i < n.links.length) && usableE n i.toNat)
theorem Usable_spec (n : NetM) (i : Int) {B : Nat} {w0 : World} {H : List HP} {w : World} (hin : n.In B w0 H) (hw : St B w0 H w) :
    Calls Tryz.prog 85 [n.val, .int .i64 i].toArray w (Post B w0 fun v K => v = .bool (UsableE n.net i) ∧ K = H) := by
  refine Calls_of_VC Tryz.func85 Tryz.ntmps85 rfl rfl hw ?_
  have hs3 := hin.s3
  have e7 : n.net.links = n.links := rfl
  unfold UsableE
  rw [e7]
  by_cases h0 : checkE n.net = 0
  rotate_left
  · rw [decide_eq_false h0]
    repeat' (first | ((first | apply VL_callt en38 | apply VL_callq en38); (repeat (first | exact args_nil | (apply args_cons; exact rfl))); exact rfl; exact fun _ hw => (check_spec n hin.cons hw)) | apply (zs1 ?_) | apply (zs2 ?_) | (apply zg1; refine zs3 ?_) | (apply zg3; refine zs8 ?_) | (apply zg6; refine zs12 ?_) | (apply zg7; (refine zs15 ?_ ?_ <;> intro _ <;> try (exfalso; omega))) | (apply zg23; (refine zs52 ?_; intro _)) | apply (zs65 ?_) | apply (zs68 ?_) | apply (zs69 ?_) | apply (zs70 ?_) | apply (zs74 ?_) | fail)
    all_goals ((repeat apply VQ_tail); apply VQ_ret1; exact rfl; exact rfl; exact ⟨rfl, rfl⟩)
  rw [decide_eq_true h0]
  by_cases h1 : 0 ≤ i ∧ i < n.links.length
  rotate_left
  · rw [decide_eq_false h1]
    repeat' (first | ((first | apply VL_callt en38 | apply VL_callq en38); (repeat (first | exact args_nil | (apply args_cons; exact rfl))); exact rfl; exact fun _ hw => (check_spec n hin.cons hw)) | apply (zs1 ?_) | apply (zs2 ?_) | (apply zg1; first | refine zs3 ?_ | refine zs4 ?_) | (apply zg2; refine zs6 ?_) | (apply zg3; first | refine zs7 ?_ | refine zs8 ?_) | (apply zg4; refine zs9 ?_) | (apply zg6; first | refine zs11 ?_ | refine zs12 ?_) | (apply zg7; (refine zs15 ?_ ?_ <;> intro _ <;> try (exfalso; omega))) | (apply (zs17 ?_ ?_) <;> intro _ <;> try (exfalso; omega)) | (apply (zs20 ?_ ?_) <;> intro _ <;> try (exfalso; omega)) | (apply zg23; (refine zs52 ?_; intro _)) | apply (zs65 ?_) | apply (zs68 ?_) | apply (zs69 ?_) | apply (zs70 ?_) | apply (zs74 ?_) | fail)
    all_goals ((repeat apply VQ_tail); apply VQ_ret1; exact rfl; exact rfl; exact ⟨rfl, rfl⟩)
  rw [decide_eq_true h1]
  obtain ⟨k, rfl⟩ : ∃ k : Nat, i = k := ⟨i.toNat, by omega⟩
  repeat' (first | ((first | apply VL_callt en38 | apply VL_callq en38); (repeat (first | exact args_nil | (apply args_cons; exact rfl))); exact rfl; exact fun _ hw => (check_spec n hin.cons hw)) | ((first | apply VL_callt en118 | apply VL_callq en118); (repeat (first | exact args_nil | (apply args_cons; exact rfl))); exact rfl; exact fun _ hw => (usable_spec n _ hin.cons (check_ok h0) (by omega) hw)) | apply (zs1 ?_) | apply (zs2 ?_) | (apply zg1; refine zs4 ?_) | (apply zg2; refine zs6 ?_) | (apply zg3; first | refine zs7 ?_ | refine zs8 ?_) | (apply zg4; refine zs9 ?_) | (apply zg6; refine zs11 ?_) | (apply zg7; (refine zs15 ?_ ?_ <;> intro _ <;> try (exfalso; omega))) | (apply (zs17 ?_ ?_) <;> intro _ <;> try (exfalso; omega)) | (apply (zs20 ?_ ?_) <;> intro _ <;> try (exfalso; omega)) | (apply zg23; (refine zs52 ?_; intro _)) | apply (zs65 ?_) | apply (zs68 ?_) | apply (zs69 ?_) | apply (zs70 ?_) | apply (zs74 ?_) | fail)
  all_goals ((repeat apply VQ_tail); apply VQ_ret1; exact rfl; exact rfl; exact ⟨rfl, rfl⟩)
end Go.Proofs.YtnkpfpgmbpnbgaaGreatDoor
