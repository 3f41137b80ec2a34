/- Lemmas for the claim, part 3. -/
import Derived.Shelf.Strings.Builder1
import Derived.Shelf.Small.Bits
import Derived.Shelf.Small.Wraps
import Derived.Shelf.Strings.BuilderF
import Derived.Shelf.Strings.BuilderK
import Derived.Shelf.Strconv.Atoi
import Derived.Shelf.Strconv.Itoa0
import Derived.Shelf.Strconv.Itoa1
import Derived.Shelf.LaysM
import Derived.Shelf.Strconv.Itoa2
import Derived.Shelf.Strconv.Itoa3
import Derived.Shelf.Strconv.AtoiErrFast
import Derived.Shelf.Strconv.ParseIntEmpty
import Derived.Shelf.Strconv.AtoiFail
import Derived.Shelf.Strconv.Clone
import Derived.Shelf.Strconv.SyntaxError
import Derived.Shelf.LaysC
import Derived.Shelf.Strconv.ToError
import Derived.Shelf.Strconv.Lower
import Derived.Shelf.Strconv.ParseUint10
import Derived.Shelf.Strconv.ParseUint10Empty
import Derived.Shelf.Strconv.ParseUint10Any
import Derived.Shelf.Strconv.ParseInt10
import Derived.Shelf.Strconv.AtoiLong
import Derived.Shelf.Strconv.AtoiInnerAll
import Derived.Shelf.Strconv.RangeError
import Derived.Shelf.Strconv.ToErrorRange
import Derived.Shelf.Strconv.AtoiAll
import Derived.Shelf.Strconv.ErrVarAll
import Derived.Shelf.Strings.Search1
import Derived.Shelf.Strings.Search2
import Derived.Shelf.Strings.Search3
import Derived.Shelf.Strings.Count
import Derived.Shelf.Strings.Split
import Derived.Shelf.Strings.SplitShaped
import Derived.Shelf.Slices.Turned
import Derived.Shelf.Slices.Equal
import Derived.Ground.Names2Prog
import Derived.Shelf.Slices.Clone
import Derived.Shelf.Slices.SearchI
import Derived.Test.YtmalhidldgfeoaaGreatDoorProg
import Derived.Lib.Split
import Derived.Lib.ItoaNum
import Derived.Lib.AtoiAll
import Derived.Lib.AtoiTie
import Derived.Lib.AppendIntMem
import Derived.WideLaws
import Derived.Lib.SmallJoins
import Derived.Lib.Builder
import Derived.Lib.AtoiAllCases
import Derived.Deep.Slices
import Derived.OpenShut
import Derived.ProofKit
import Derived.Below
import Derived.ChangeSame
import Derived.Carry
import Derived.Sort.OwnSortedInts
import Derived.Test.YtmalhidldgfeoaaGreatDoorQ2

namespace Go.Proofs.YtmalhidldgfeoaaGreatDoor
open Go.RowKit Go.Eng Go.Nw
theorem Yab {α : Type} (p : α → Bool) : ∀ (l : List α) (k : Int), (l.filter (fun a => !p a) = l ∧ Yq p l k = -1) ∨ ∃ j, j < l.length ∧ Yq p l k = k + j ∧ (l.take j).filter (fun a => !p a) = l.take j ∧ ∃ a, l[j]? = some a ∧ p a = true
  | [], _ => .inl ⟨rfl, rfl⟩
  | a :: l, k => by
    unfold Yq
    cases h : p a with
    | true => exact .inr ⟨0, by simp, by simp, rfl, a, rfl, h⟩
    | false =>
      rw [if_neg (by decide)]
      have hn : (!p a) = true := by rw [h]; rfl
      rcases Yab p l (k + 1) with ⟨h1, h2⟩ | ⟨j, h1, h2, h3, b, h4, h5⟩
      · exact .inl ⟨by rw [List.filter_cons, if_pos hn, h1], h2⟩
      · refine .inr ⟨j + 1, by simp only [List.length_cons]; omega, by rw [h2]; omega, ?_, b, h4, h5⟩
        rw [List.take_succ_cons, List.filter_cons, if_pos hn, h3]
theorem Yaf (p : Cel → Bool) (l : List Cel) (f : Nat) (cs : List Value) (hen : ∀ xs w, (callFunc f xs).run Tryz.prog w = .ok (.enter f xs) w) (hlen : l.length ≤ 1000) {A : Option Addr} {cap B : Nat} {w0 : World} {H : List HP} {w : World} (hr : Rd B w0 H A (l.flatMap celF))
    (hp : ∀ a ∈ l, ∀ w, St B w0 H w → Calls Tryz.prog f ([celV a] ++ cs).toArray w (Post B w0 fun v K => v = .bool (p a) ∧ K = H)) (hw : St B w0 H w) :
    Calls Tryz.prog 229 [.slice A l.length cap, .func (.func f) #[] cs.toArray].toArray w (Post B w0 fun v K => v = .int .i64 (Yq p l 0) ∧ K = H) := by
  refine Yf Tryz.func229 Tryz.ntmps229 rfl rfl hw ?_
  repeat' (first | (apply zg7; first | (refine zs15 ?_ ?_ <;> intro _ <;> try (exfalso; omega)) | (refine zs21 ?_ ?_ <;> intro _ _ <;> try (exfalso; omega)) | (refine zs23 ?_ ?_ <;> intro _) | refine zs64 ?_) | (apply zg8; first | (refine zs16 ?_ ?_ <;> intro _ <;> try (exfalso; omega)) | (refine zs22 ?_ ?_ <;> intro _ _ <;> try (exfalso; omega)) | (refine zs24 ?_ ?_ <;> intro _) | refine zs63 ?_) | (apply zg12; first | (refine zs29 ?_; intro _ _)) | (apply zg13; first | refine zs30 ?_ | (refine zs33 ?_; intro _ _)) | (apply zg14; first | refine zs31 ?_ | (refine zs34 ?_; intro _ _)) | (apply zg15; first | refine zs32 ?_ | (refine zs35 ?_; intro _ _)) | (apply zg21; first | (refine zs49 ?_; intro _ _)) | (apply zg23; first | (refine zs52 ?_; intro _) | (refine zs53 ?_; intro _)) | (apply zg24; first | (refine zs54 ?_; intro _)) | (apply zg26; first | (refine zs56 ?_; intro _)) | (apply zg29; first | (apply Yj; exact za ; exact rfl) | (apply Ym; exact za ; exact rfl)) | (apply Yi; (repeat (first | with_reducible exact Yh | (with_reducible apply Yd; (repeat (first | with_reducible exact Ye | with_reducible apply Yc)))))) | apply (zs91 ?_ ?_) | (apply Yo; (repeat (first | with_reducible exact Yh | (with_reducible apply Yd; (repeat (first | with_reducible exact Ye | with_reducible apply Yc)))))) | refine zgd ?_ | (refine zgf ?_ ?_ <;> intro _ <;> try (exfalso; omega)) | fail)
  refine Yn (fun (k : Nat) => [(8, .int .i64 k), (7, .int .i64 l.length), (0, .slice A l.length cap), (1, .func (.func f) #[] cs.toArray)]) (fun _ => H) (fun k => k ≤ l.length ∧ Yq p l 0 = Yq p (l.drop k) k) (fun k => l.length - k) 0 ⟨Nat.zero_le _, by simp⟩ ?_ (fun w hw => hw) ?_
  · exact zu
  rintro k ⟨hk, hi⟩ K hK
  by_cases hlt : k < l.length
  · obtain ⟨a, ha⟩ : ∃ a, l[k]? = some a := ⟨_, List.getElem?_eq_getElem hlt⟩
    have hpa := hp a (List.mem_of_getElem? ha)
    rw [Jo p l ha] at hi
    repeat' (first | ((first | apply YD (cs := cs)); exact rfl; exact hen; exact za; exact rfl; exact fun _ hw => hpa _ hw) | (apply zg7; first | (refine zs15 ?_ ?_ <;> intro _ <;> try (exfalso; omega)) | (refine zs21 ?_ ?_ <;> intro _ _ <;> try (exfalso; omega)) | (refine zs23 ?_ ?_ <;> intro _) | refine zs64 ?_) | (apply zg8; first | (refine zs16 ?_ ?_ <;> intro _ <;> try (exfalso; omega)) | (refine zs22 ?_ ?_ <;> intro _ _ <;> try (exfalso; omega)) | (refine zs24 ?_ ?_ <;> intro _) | refine zs63 ?_) | (apply zg12; first | (refine zs29 ?_; intro _ _)) | (apply zg13; first | refine zs30 ?_ | (refine zs33 ?_; intro _ _)) | (apply zg14; first | refine zs31 ?_ | (refine zs34 ?_; intro _ _)) | (apply zg15; first | refine zs32 ?_ | (refine zs35 ?_; intro _ _)) | (apply zg21; first | (refine zs49 ?_; intro _ _)) | (apply zg23; first | (refine zs52 ?_; intro _) | (refine zs53 ?_; intro _)) | (apply zg24; first | (refine zs54 ?_; intro _)) | (apply zg26; first | (refine zs56 ?_; intro _)) | (apply zg29; first | (apply Yj; exact za ; exact rfl) | (apply Ym; exact za ; exact rfl)) | (apply Yi; (repeat (first | with_reducible exact Yh | (with_reducible apply Yd; (repeat (first | with_reducible exact Ye | with_reducible apply Yc)))))) | apply (zs91 ?_ ?_) | (apply Yo; (repeat (first | with_reducible exact Yh | (with_reducible apply Yd; (repeat (first | with_reducible exact Ye | with_reducible apply Yc)))))) | refine zgd ?_ | (refine zgf ?_ ?_ <;> intro _ <;> try (exfalso; omega)) | fail)
    cases hpv : p a
    · rw [hpv] at hi
      repeat' (first | (apply zg7; first | (refine zs15 ?_ ?_ <;> intro _ <;> try (exfalso; omega)) | (refine zs21 ?_ ?_ <;> intro _ _ <;> try (exfalso; omega)) | (refine zs23 ?_ ?_ <;> intro _) | refine zs64 ?_) | (apply zg8; first | (refine zs16 ?_ ?_ <;> intro _ <;> try (exfalso; omega)) | (refine zs22 ?_ ?_ <;> intro _ _ <;> try (exfalso; omega)) | (refine zs24 ?_ ?_ <;> intro _) | refine zs63 ?_) | (apply zg12; first | (refine zs29 ?_; intro _ _)) | (apply zg13; first | refine zs30 ?_ | (refine zs33 ?_; intro _ _)) | (apply zg14; first | refine zs31 ?_ | (refine zs34 ?_; intro _ _)) | (apply zg15; first | refine zs32 ?_ | (refine zs35 ?_; intro _ _)) | (apply zg21; first | (refine zs49 ?_; intro _ _)) | (apply zg23; first | (refine zs52 ?_; intro _) | (refine zs53 ?_; intro _)) | (apply zg24; first | (refine zs54 ?_; intro _)) | (apply zg26; first | (refine zs56 ?_; intro _)) | (apply zg29; first | (apply Yj; exact za ; exact rfl) | (apply Ym; exact za ; exact rfl)) | (apply Yi; (repeat (first | with_reducible exact Yh | (with_reducible apply Yd; (repeat (first | with_reducible exact Ye | with_reducible apply Yc)))))) | apply (zs91 ?_ ?_) | (apply Yo; (repeat (first | with_reducible exact Yh | (with_reducible apply Yd; (repeat (first | with_reducible exact Ye | with_reducible apply Yc)))))) | refine zgd ?_ | (refine zgf ?_ ?_ <;> intro _ <;> try (exfalso; omega)) | fail)
      apply hK (k + 1)
      · exact ⟨by omega, hi⟩
      · omega
      · exact zu
      · exact fun w hw => hw
    · rw [hpv] at hi
      repeat' (first | (apply zg7; first | (refine zs15 ?_ ?_ <;> intro _ <;> try (exfalso; omega)) | (refine zs21 ?_ ?_ <;> intro _ _ <;> try (exfalso; omega)) | (refine zs23 ?_ ?_ <;> intro _) | refine zs64 ?_) | (apply zg8; first | (refine zs16 ?_ ?_ <;> intro _ <;> try (exfalso; omega)) | (refine zs22 ?_ ?_ <;> intro _ _ <;> try (exfalso; omega)) | (refine zs24 ?_ ?_ <;> intro _) | refine zs63 ?_) | (apply zg12; first | (refine zs29 ?_; intro _ _)) | (apply zg13; first | refine zs30 ?_ | (refine zs33 ?_; intro _ _)) | (apply zg14; first | refine zs31 ?_ | (refine zs34 ?_; intro _ _)) | (apply zg15; first | refine zs32 ?_ | (refine zs35 ?_; intro _ _)) | (apply zg21; first | (refine zs49 ?_; intro _ _)) | (apply zg23; first | (refine zs52 ?_; intro _) | (refine zs53 ?_; intro _)) | (apply zg24; first | (refine zs54 ?_; intro _)) | (apply zg26; first | (refine zs56 ?_; intro _)) | (apply zg29; first | (apply Yj; exact za ; exact rfl) | (apply Ym; exact za ; exact rfl)) | (apply Yi; (repeat (first | with_reducible exact Yh | (with_reducible apply Yd; (repeat (first | with_reducible exact Ye | with_reducible apply Yc)))))) | apply (zs91 ?_ ?_) | (apply Yo; (repeat (first | with_reducible exact Yh | (with_reducible apply Yd; (repeat (first | with_reducible exact Ye | with_reducible apply Yc)))))) | refine zgd ?_ | (refine zgf ?_ ?_ <;> intro _ <;> try (exfalso; omega)) | fail)
      apply Yg; exact rfl; exact rfl
      exact ⟨by rw [hi]; rfl, rfl⟩
  · repeat' (first | (apply zg7; first | (refine zs15 ?_ ?_ <;> intro _ <;> try (exfalso; omega)) | (refine zs21 ?_ ?_ <;> intro _ _ <;> try (exfalso; omega)) | (refine zs23 ?_ ?_ <;> intro _) | refine zs64 ?_) | (apply zg8; first | (refine zs16 ?_ ?_ <;> intro _ <;> try (exfalso; omega)) | (refine zs22 ?_ ?_ <;> intro _ _ <;> try (exfalso; omega)) | (refine zs24 ?_ ?_ <;> intro _) | refine zs63 ?_) | (apply zg12; first | (refine zs29 ?_; intro _ _)) | (apply zg13; first | refine zs30 ?_ | (refine zs33 ?_; intro _ _)) | (apply zg14; first | refine zs31 ?_ | (refine zs34 ?_; intro _ _)) | (apply zg15; first | refine zs32 ?_ | (refine zs35 ?_; intro _ _)) | (apply zg21; first | (refine zs49 ?_; intro _ _)) | (apply zg23; first | (refine zs52 ?_; intro _) | (refine zs53 ?_; intro _)) | (apply zg24; first | (refine zs54 ?_; intro _)) | (apply zg26; first | (refine zs56 ?_; intro _)) | (apply zg29; first | (apply Yj; exact za ; exact rfl) | (apply Ym; exact za ; exact rfl)) | (apply Yi; (repeat (first | with_reducible exact Yh | (with_reducible apply Yd; (repeat (first | with_reducible exact Ye | with_reducible apply Yc)))))) | apply (zs91 ?_ ?_) | (apply Yo; (repeat (first | with_reducible exact Yh | (with_reducible apply Yd; (repeat (first | with_reducible exact Ye | with_reducible apply Yc)))))) | refine zgd ?_ | (refine zgf ?_ ?_ <;> intro _ <;> try (exfalso; omega)) | fail)
    apply Yg; exact rfl; exact rfl
    rw [hi, List.drop_eq_nil_of_le (by omega)]
    exact ⟨rfl, rfl⟩
structure Kc where
  i : Nat
  j : Nat
  M : List Cel
set_option maxRecDepth 10000 in
set_option maxHeartbeats 1000000 in
theorem Yd6 (p : Cel → Bool) (l : List Cel) (f : Nat) (cs : List Value) (hen : ∀ xs w, (callFunc f xs).run Tryz.prog w = .ok (.enter f xs) w) (hlen : l.length ≤ 1000) {A : Option Addr} {cap B : Nat} {w0 : World} {H : List HP} {w : World}
    (hp : ∀ a ∈ l, ∀ (X : List HP) w, St B w0 (X ++ H) w → Calls Tryz.prog f ([celV a] ++ cs).toArray w (Post B w0 fun v K => v = .bool (p a) ∧ K = X ++ H)) (hw : St B w0 (cels A cap l :: H) w) :
    Calls Tryz.prog 286 [.slice A l.length cap, .func (.func f) #[] cs.toArray].toArray w (Post B w0 fun v K => v = .slice A (l.filter fun a => !p a).length cap ∧ K = cels A cap (l.filter fun a => !p a) :: H) := by
  refine Yf Tryz.func286 Tryz.ntmps286 rfl rfl hw ?_
  refine YjI (e := 40) (size := 5) (A := A) (xs := l.flatMap celF) (k := l.length) (cap := cap) List.mem_cons_self fun hcap => ?_
  have hif := fun {w : World} (hw : St B w0 (cels A cap l :: H) w) => Yaf p l f cs hen hlen (cap := cap) (.sl List.mem_cons_self) (fun a ha w hw => hp a ha [cels A cap l] w hw) hw
  rcases Yab p l 0 with ⟨h1, h2⟩ | ⟨i0, h1, h2, h3, a0, h4, h5⟩
  · rw [h2] at hif
    rw [h1]
    repeat' (first | ((first | apply Ya YbI | apply Yb YbI); exact za; exact rfl; exact fun _ hw => (hif hw)) | (apply zg7; first | (refine zs15 ?_ ?_ <;> intro _ <;> try (exfalso; omega)) | (refine zs21 ?_ ?_ <;> intro _ _ <;> try (exfalso; omega)) | (refine zs23 ?_ ?_ <;> intro _) | refine zs64 ?_) | (apply zg8; first | (refine zs16 ?_ ?_ <;> intro _ <;> try (exfalso; omega)) | (refine zs22 ?_ ?_ <;> intro _ _ <;> try (exfalso; omega)) | (refine zs24 ?_ ?_ <;> intro _) | refine zs63 ?_) | (apply zg12; first | (refine zs29 ?_; intro _ _)) | (apply zg13; first | refine zs30 ?_ | (refine zs33 ?_; intro _ _)) | (apply zg14; first | refine zs31 ?_ | (refine zs34 ?_; intro _ _)) | (apply zg15; first | refine zs32 ?_ | (refine zs35 ?_; intro _ _)) | (apply zg21; first | (refine zs49 ?_; intro _ _)) | (apply zg23; first | (refine zs52 ?_; intro _) | (refine zs53 ?_; intro _)) | (apply zg24; first | (refine zs54 ?_; intro _)) | (apply zg26; first | (refine zs56 ?_; intro _)) | (apply zg29; first | (apply Yj; exact za ; exact rfl) | (apply Ym; exact za ; exact rfl)) | (apply Yi; (repeat (first | with_reducible exact Yh | (with_reducible apply Yd; (repeat (first | with_reducible exact Ye | with_reducible apply Yc)))))) | apply (zs91 ?_ ?_) | (apply Yo; (repeat (first | with_reducible exact Yh | (with_reducible apply Yd; (repeat (first | with_reducible exact Ye | with_reducible apply Yc)))))) | refine zgd ?_ | (refine zgf ?_ ?_ <;> intro _ <;> try (exfalso; omega)) | fail)
    apply Yg; exact rfl; exact rfl; exact ⟨rfl, rfl⟩
  rw [h2, Int.zero_add] at hif
  repeat' (first | ((first | apply Ya YbI | apply Yb YbI); exact za; exact rfl; exact fun _ hw => (hif hw)) | (apply zg7; first | (refine zs15 ?_ ?_ <;> intro _ <;> try (exfalso; omega)) | (refine zs21 ?_ ?_ <;> intro _ _ <;> try (exfalso; omega)) | (refine zs23 ?_ ?_ <;> intro _) | refine zs64 ?_) | (apply zg8; first | (refine zs16 ?_ ?_ <;> intro _ <;> try (exfalso; omega)) | (refine zs22 ?_ ?_ <;> intro _ _ <;> try (exfalso; omega)) | (refine zs24 ?_ ?_ <;> intro _) | refine zs63 ?_) | (apply zg12; first | (refine zs29 ?_; intro _ _)) | (apply zg13; first | refine zs30 ?_ | (refine zs33 ?_; intro _ _)) | (apply zg14; first | refine zs31 ?_ | (refine zs34 ?_; intro _ _)) | (apply zg15; first | refine zs32 ?_ | (refine zs35 ?_; intro _ _)) | (apply zg21; first | (refine zs49 ?_; intro _ _)) | (apply zg23; first | (refine zs52 ?_; intro _) | (refine zs53 ?_; intro _)) | (apply zg24; first | (refine zs54 ?_; intro _)) | (apply zg26; first | (refine zs56 ?_; intro _)) | (apply zg29; first | (apply Yj; exact za ; exact rfl) | (apply Ym; exact za ; exact rfl)) | (apply Yi; (repeat (first | with_reducible exact Yh | (with_reducible apply Yd; (repeat (first | with_reducible exact Ye | with_reducible apply Yc)))))) | apply (zs91 ?_ ?_) | (apply Yo; (repeat (first | with_reducible exact Yh | (with_reducible apply Yd; (repeat (first | with_reducible exact Ye | with_reducible apply Yc)))))) | refine zgd ?_ | (refine zgf ?_ ?_ <;> intro _ <;> try (exfalso; omega)) | fail)
  refine Yn (fun (z : Kc) => [(6, .int .i64 z.j), (5, .int .i64 z.i), (0, .slice A z.M.length cap), (1, .func (.func f) #[] cs.toArray)]) (fun z => cels A cap z.M :: H) (fun z => z.M.length = l.length ∧ z.i < z.j ∧ z.j ≤ l.length ∧ z.M.take z.i = (l.take z.j).filter (fun a => !p a) ∧ z.M.drop z.j = l.drop z.j) (fun z => l.length - z.j) ⟨i0, i0 + 1, l⟩ ⟨rfl, by simp only; omega, by simp only; omega, ?_, rfl⟩ ?_ (fun w hw => hw) ?_
  · simp only
    rw [List.take_add_one, h4, List.filter_append, h3]
    simp [h5]
  · exact zu
  rintro ⟨i, j, M⟩ ⟨hM, hij, hj, ht, hd⟩ K hK
  simp only at hM hij hj ht hd ⊢
  unfold cels
  by_cases hlt : j < l.length
  · obtain ⟨a, ha⟩ : ∃ a, l[j]? = some a := ⟨_, List.getElem?_eq_getElem hlt⟩
    have hMa : M[j]? = some a := by
      have e1 : (M.drop j)[0]? = (l.drop j)[0]? := by rw [hd]
      rw [List.getElem?_drop, List.getElem?_drop, Nat.add_zero, ha] at e1
      exact e1
    have hpa := fun {X1 X2 : HP} {w : World} (hw : St B w0 (X1 :: X2 :: H) w) => hp a (List.mem_of_getElem? ha) [X1, X2] w hw
    have hft : (l.take (j + 1)).filter (fun a => !p a) = M.take i ++ (if p a = true then [] else [a]) := by
      rw [List.take_add_one, ha, List.filter_append, ht]
      cases hpv : p a <;> simp [hpv]
    obtain ⟨b, hb⟩ : ∃ b, p a = b := ⟨_, rfl⟩
    rw [hb] at hft hpa
    have hd1 : ∀ x : Cel, (M.set i x).drop (j + 1) = l.drop (j + 1) := fun x => by
      rw [List.drop_set_of_lt (by omega), ← List.drop_drop, ← List.drop_drop, hd]
    cases b with
    | true =>
      rw [if_pos rfl, List.append_nil] at hft
      repeat' (first | ((first | apply YD (cs := cs)); exact rfl; exact hen; exact za; exact rfl; exact fun _ hw => hpa hw) | (apply zg7; first | (refine zs15 ?_ ?_ <;> intro _ <;> try (exfalso; omega)) | (refine zs21 ?_ ?_ <;> intro _ _ <;> try (exfalso; omega)) | (refine zs23 ?_ ?_ <;> intro _) | refine zs64 ?_) | (apply zg8; first | (refine zs16 ?_ ?_ <;> intro _ <;> try (exfalso; omega)) | (refine zs22 ?_ ?_ <;> intro _ _ <;> try (exfalso; omega)) | (refine zs24 ?_ ?_ <;> intro _) | refine zs63 ?_) | (apply zg12; first | (refine zs29 ?_; intro _ _)) | (apply zg13; first | refine zs30 ?_ | (refine zs33 ?_; intro _ _)) | (apply zg14; first | refine zs31 ?_ | (refine zs34 ?_; intro _ _)) | (apply zg15; first | refine zs32 ?_ | (refine zs35 ?_; intro _ _)) | (apply zg21; first | (refine zs49 ?_; intro _ _)) | (apply zg23; first | (refine zs52 ?_; intro _) | (refine zs53 ?_; intro _)) | (apply zg24; first | (refine zs54 ?_; intro _)) | (apply zg26; first | (refine zs56 ?_; intro _)) | (apply zg29; first | (apply Yj; exact za ; exact rfl) | (apply Ym; exact za ; exact rfl)) | (apply Yi; (repeat (first | with_reducible exact Yh | (with_reducible apply Yd; (repeat (first | with_reducible exact Ye | with_reducible apply Yc)))))) | apply (zs91 ?_ ?_) | (apply Yo; (repeat (first | with_reducible exact Yh | (with_reducible apply Yd; (repeat (first | with_reducible exact Ye | with_reducible apply Yc)))))) | refine zgd ?_ | (refine zgf ?_ ?_ <;> intro _ <;> try (exfalso; omega)) | fail)
      apply hK ⟨i, j + 1, M⟩
      · exact ⟨hM, by simp only; omega, by simp only; omega, hft.symm, by simp only; rw [← List.drop_drop, ← List.drop_drop, hd]⟩
      · simp only; omega
      · exact zu
      · exact fun w hw => hw.tail
    | false =>
      rw [if_neg (by decide)] at hft
      have hMl : (M.set i a).length = M.length := List.length_set
      repeat' (first | ((first | apply YD (cs := cs)); exact rfl; exact hen; exact za; exact rfl; exact fun _ hw => hpa hw) | (apply UH T (f := celF) (l := M) (i := i) (a := a); exact rfl; exact rfl; exact rfl; exact zd; exact fun _ => rfl; exact rfl; exact rfl; exact rfl; omega) | (apply zg7; first | (refine zs15 ?_ ?_ <;> intro _ <;> try (exfalso; omega)) | (refine zs21 ?_ ?_ <;> intro _ _ <;> try (exfalso; omega)) | (refine zs23 ?_ ?_ <;> intro _) | refine zs64 ?_) | (apply zg8; first | (refine zs16 ?_ ?_ <;> intro _ <;> try (exfalso; omega)) | (refine zs22 ?_ ?_ <;> intro _ _ <;> try (exfalso; omega)) | (refine zs24 ?_ ?_ <;> intro _) | refine zs63 ?_) | (apply zg12; first | (refine zs29 ?_; intro _ _)) | (apply zg13; first | refine zs30 ?_ | (refine zs33 ?_; intro _ _)) | (apply zg14; first | refine zs31 ?_ | (refine zs34 ?_; intro _ _)) | (apply zg15; first | refine zs32 ?_ | (refine zs35 ?_; intro _ _)) | (apply zg21; first | (refine zs49 ?_; intro _ _)) | (apply zg23; first | (refine zs52 ?_; intro _) | (refine zs53 ?_; intro _)) | (apply zg24; first | (refine zs54 ?_; intro _)) | (apply zg26; first | (refine zs56 ?_; intro _)) | (apply zg29; first | (apply Yj; exact za ; exact rfl) | (apply Ym; exact za ; exact rfl)) | (apply Yi; (repeat (first | with_reducible exact Yh | (with_reducible apply Yd; (repeat (first | with_reducible exact Ye | with_reducible apply Yc)))))) | apply (zs91 ?_ ?_) | (apply Yo; (repeat (first | with_reducible exact Yh | (with_reducible apply Yd; (repeat (first | with_reducible exact Ye | with_reducible apply Yc)))))) | refine zgd ?_ | (refine zgf ?_ ?_ <;> intro _ <;> try (exfalso; omega)) | fail)
      apply hK ⟨i + 1, j + 1, M.set i a⟩
      · refine ⟨by simp only; omega, by simp only; omega, by simp only; omega, ?_, hd1 a⟩
        simp only
        rw [hft, List.take_add_one, List.getElem?_set_self (by omega), List.take_set_of_le (Nat.le_refl _)]
        rfl
      · simp only; omega
      · dsimp only
        rw [hMl]
        exact zu
      · unfold cels
        dsimp only
        rw [hMl]
        exact fun w hw => hw.tail
  · obtain rfl : j = l.length := by omega
    clear hK
    rw [List.take_length] at ht
    have hil : (l.filter fun a => !p a).length = i := by rw [← ht, List.length_take]; omega
    have hfl : (M.flatMap celF).take (i * 5) = (l.filter fun a => !p a).flatMap celF := by rw [← JV (q := 5) (fun _ => rfl), ht]
    repeat' (first | (apply Jz T (n' := M.length - i); exact rfl; exact rfl; exact rfl; exact rfl; omega; omega) | (apply zg7; first | (refine zs15 ?_ ?_ <;> intro _ <;> try (exfalso; omega)) | (refine zs21 ?_ ?_ <;> intro _ _ <;> try (exfalso; omega)) | (refine zs23 ?_ ?_ <;> intro _) | refine zs64 ?_) | (apply zg8; first | (refine zs16 ?_ ?_ <;> intro _ <;> try (exfalso; omega)) | (refine zs22 ?_ ?_ <;> intro _ _ <;> try (exfalso; omega)) | (refine zs24 ?_ ?_ <;> intro _) | refine zs63 ?_) | (apply zg12; first | (refine zs29 ?_; intro _ _)) | (apply zg13; first | refine zs30 ?_ | (refine zs33 ?_; intro _ _)) | (apply zg14; first | refine zs31 ?_ | (refine zs34 ?_; intro _ _)) | (apply zg15; first | refine zs32 ?_ | (refine zs35 ?_; intro _ _)) | (apply zg21; first | (refine zs49 ?_; intro _ _)) | (apply zg23; first | (refine zs52 ?_; intro _) | (refine zs53 ?_; intro _)) | (apply zg24; first | (refine zs54 ?_; intro _)) | (apply zg26; first | (refine zs56 ?_; intro _)) | (apply zg29; first | (apply Yj; exact za ; exact rfl) | (apply Ym; exact za ; exact rfl)) | (apply Yi; (repeat (first | with_reducible exact Yh | (with_reducible apply Yd; (repeat (first | with_reducible exact Ye | with_reducible apply Yc)))))) | apply (zs91 ?_ ?_) | (apply Yo; (repeat (first | with_reducible exact Yh | (with_reducible apply Yd; (repeat (first | with_reducible exact Ye | with_reducible apply Yc)))))) | refine zgd ?_ | (refine zgf ?_ ?_ <;> intro _ <;> try (exfalso; omega)) | fail)
    rw [Int.toNat_natCast]
    apply Ybq (sl 40 5 A i cap ((l.filter fun a => !p a).flatMap celF) :: H)
    · intro w hw
      refine hw.shrink (e := 40) (size := 5) (cap := cap) (A := A) (xs := M.flatMap celF) (k := M.length) (k' := i) (by omega) ?_
      rw [hfl]
      exact Upd.here _
    apply Yid T T2 (e := 40) (size := 5) (k := i) (xs := (l.filter fun a => !p a).flatMap celF); exact rfl; exact List.mem_cons_self; exact rfl; exact rfl; exact rfl; omega
    repeat' (first | (apply Zd T (l := M) (n' := i); exact rfl; exact rfl; exact rfl; exact rfl; omega; omega; omega) | (apply zg7; first | (refine zs15 ?_ ?_ <;> intro _ <;> try (exfalso; omega)) | (refine zs21 ?_ ?_ <;> intro _ _ <;> try (exfalso; omega)) | (refine zs23 ?_ ?_ <;> intro _) | refine zs64 ?_) | (apply zg8; first | (refine zs16 ?_ ?_ <;> intro _ <;> try (exfalso; omega)) | (refine zs22 ?_ ?_ <;> intro _ _ <;> try (exfalso; omega)) | (refine zs24 ?_ ?_ <;> intro _) | refine zs63 ?_) | (apply zg12; first | (refine zs29 ?_; intro _ _)) | (apply zg13; first | refine zs30 ?_ | (refine zs33 ?_; intro _ _)) | (apply zg14; first | refine zs31 ?_ | (refine zs34 ?_; intro _ _)) | (apply zg15; first | refine zs32 ?_ | (refine zs35 ?_; intro _ _)) | (apply zg21; first | (refine zs49 ?_; intro _ _)) | (apply zg23; first | (refine zs52 ?_; intro _) | (refine zs53 ?_; intro _)) | (apply zg24; first | (refine zs54 ?_; intro _)) | (apply zg26; first | (refine zs56 ?_; intro _)) | (apply zg29; first | (apply Yj; exact za ; exact rfl) | (apply Ym; exact za ; exact rfl)) | (apply Yi; (repeat (first | with_reducible exact Yh | (with_reducible apply Yd; (repeat (first | with_reducible exact Ye | with_reducible apply Yc)))))) | apply (zs91 ?_ ?_) | (apply Yo; (repeat (first | with_reducible exact Yh | (with_reducible apply Yd; (repeat (first | with_reducible exact Ye | with_reducible apply Yc)))))) | refine zgd ?_ | (refine zgf ?_ ?_ <;> intro _ <;> try (exfalso; omega)) | fail)
    rw [YaU]
    repeat' (first | (apply zg7; first | (refine zs15 ?_ ?_ <;> intro _ <;> try (exfalso; omega)) | (refine zs21 ?_ ?_ <;> intro _ _ <;> try (exfalso; omega)) | (refine zs23 ?_ ?_ <;> intro _) | refine zs64 ?_) | (apply zg8; first | (refine zs16 ?_ ?_ <;> intro _ <;> try (exfalso; omega)) | (refine zs22 ?_ ?_ <;> intro _ _ <;> try (exfalso; omega)) | (refine zs24 ?_ ?_ <;> intro _) | refine zs63 ?_) | (apply zg12; first | (refine zs29 ?_; intro _ _)) | (apply zg13; first | refine zs30 ?_ | (refine zs33 ?_; intro _ _)) | (apply zg14; first | refine zs31 ?_ | (refine zs34 ?_; intro _ _)) | (apply zg15; first | refine zs32 ?_ | (refine zs35 ?_; intro _ _)) | (apply zg21; first | (refine zs49 ?_; intro _ _)) | (apply zg23; first | (refine zs52 ?_; intro _) | (refine zs53 ?_; intro _)) | (apply zg24; first | (refine zs54 ?_; intro _)) | (apply zg26; first | (refine zs56 ?_; intro _)) | (apply zg29; first | (apply Yj; exact za ; exact rfl) | (apply Ym; exact za ; exact rfl)) | (apply Yi; (repeat (first | with_reducible exact Yh | (with_reducible apply Yd; (repeat (first | with_reducible exact Ye | with_reducible apply Yc)))))) | apply (zs91 ?_ ?_) | (apply Yo; (repeat (first | with_reducible exact Yh | (with_reducible apply Yd; (repeat (first | with_reducible exact Ye | with_reducible apply Yc)))))) | refine zgd ?_ | (refine zgf ?_ ?_ <;> intro _ <;> try (exfalso; omega)) | fail)
    apply Yg; exact rfl; exact rfl
    exact ⟨by rw [hil], by rw [hil]⟩
end Go.Proofs.YtmalhidldgfeoaaGreatDoor
namespace Go.Proofs
open Go.Shelf
def Tryz.lays169_ren : Go.Shelf.Ren := ⟨fun | 169 => 78 | n => n, fun | 70 => 129 | 9 => 9 | 0 => 0 | 72 => 132 | 37 => 130 | 127 => 207 | 3 => 3 | 5 => 5 | n => n, fun | n => n⟩
theorem Tryz.lays169 : Go.Proofs.Lays.n169 Tryz.prog Tryz.lays169_ren := {
  mixed := by kernel_rfl
  f169 := Tryz.func78.trans (congrArg some (by kernel_rfl))
  t0 := Tryz.underlying0
  a0 := Tryz.isAgg0
  z0 := Tryz.sizeOf0
  v0 := Tryz.zeroValue0
  t3 := Tryz.underlying3
  a3 := Tryz.isAgg3
  z3 := Tryz.sizeOf3
  v3 := Tryz.zeroValue3
  t9 := Tryz.underlying9
  a9 := Tryz.isAgg9
  z9 := Tryz.sizeOf9
  v9 := Tryz.zeroValue9
  t37 := Tryz.underlying130
  a37 := Tryz.isAgg130
  z37 := Tryz.sizeOf130
  v37 := Tryz.zeroValue130
  t70 := Tryz.underlying129
  a70 := Tryz.isAgg129
  z70 := Tryz.sizeOf129
  v70 := Tryz.zeroValue129
  t72 := Tryz.underlying132
  a72 := Tryz.isAgg132
  z72 := Tryz.sizeOf132
  v72 := Tryz.zeroValue132
  t127 := Tryz.underlying207
  a127 := Tryz.isAgg207
  z127 := Tryz.sizeOf207
  v127 := Tryz.zeroValue207 }
theorem Tryz.Builder_Extra_169 : Builder.Extra Tryz.prog Tryz.lays169_ren := {
  sizeBuilder := by kernel_rfl
  liesBuilder := by kernel_rfl
  t5 := Tryz.underlying5
  a5 := Tryz.isAgg5
  z5 := Tryz.sizeOf5
  v5 := Tryz.zeroValue5
  infoByte := by kernel_rfl
  cellsByte := by kernel_rfl
  sizeByte := by kernel_rfl
  neB5 := by decide }
open Go.RowKit in
theorem Tryz.Builder_String_any (B b : Nat) (l : List UInt8) (w : World) (h : Lib.IsBuilder 132 5 B b (Lib.byteCells l) w) (hBw : B ≤ w.heap.size) :
    Calls Tryz.prog 78 #[.pointer (some ⟨b, 0, none⟩)] w fun e w' => e = .returned (.string ⟨l.toArray⟩) ∧ Below B w w' := Any.Builder_String_any Tryz.lays169 Tryz.Builder_Extra_169 B b l w h hBw
def Tryz.lays122_ren : Go.Shelf.Ren := ⟨fun | 122 => 99 | 215 => 158 | n => n, fun | 3 => 3 | 4 => 4 | n => n, fun | n => n⟩
theorem Tryz.lays122 : Go.Proofs.Lays.n122 Tryz.prog Tryz.lays122_ren := {
  mixed := by kernel_rfl
  f122 := Tryz.func99.trans (congrArg some (by kernel_rfl))
  f215 := Tryz.func158.trans (congrArg some (by kernel_rfl))
  t3 := Tryz.underlying3
  a3 := Tryz.isAgg3
  z3 := Tryz.sizeOf3
  v3 := Tryz.zeroValue3
  t4 := Tryz.underlying4
  a4 := Tryz.isAgg4
  z4 := Tryz.sizeOf4
  v4 := Tryz.zeroValue4 }
open Go.RowKit in
theorem Tryz.cmp_Compare_int (x y : Int) (w : World) :
    Calls Tryz.prog 99 #[.int .i64 x, .int .i64 y] w fun e w' => e = .returned (.int .i64 (Lib.compareInt x y)) ∧ w' = w := Any.cmp_Compare_int Tryz.lays122 x y w
def Tryz.laysM171_ren : Go.Shelf.Ren := ⟨fun | 171 => 137 | 243 => 197 | 246 => 239 | 283 => 275 | 284 => 276 | 285 => 277 | 286 => 278 | 129 => 224 | 317 => 295 | 318 => 296 | 319 => 297 | 320 => 298 | 337 => 304 | 338 => 305 | n => n, fun | 3 => 3 | 9 => 9 | 2 => 2 | 4 => 4 | 171 => 315 | 0 => 0 | 53 => 277 | 37 => 130 | 5 => 5 | 173 => 317 | 212 => 334 | 51 => 275 | 20 => 20 | 213 => 335 | 46 => 197 | 232 => 347 | 233 => 348 | n => n, fun | 17 => 3 | 18 => 6 | 19 => 7 | n => n⟩
theorem Tryz.laysM171 : Go.Proofs.LaysM.n171 Tryz.prog Tryz.laysM171_ren := {
  mixed := by kernel_rfl
  f129 := Tryz.func224.trans (congrArg some (by kernel_rfl))
  f171 := Tryz.func137.trans (congrArg some (by kernel_rfl))
  f243 := Tryz.func197.trans (congrArg some (by kernel_rfl))
  f246 := Tryz.func239.trans (congrArg some (by kernel_rfl))
  f283 := Tryz.func275.trans (congrArg some (by kernel_rfl))
  f284 := Tryz.func276.trans (congrArg some (by kernel_rfl))
  f285 := Tryz.func277.trans (congrArg some (by kernel_rfl))
  f286 := Tryz.func278.trans (congrArg some (by kernel_rfl))
  f317 := Tryz.func295.trans (congrArg some (by kernel_rfl))
  f318 := Tryz.func296.trans (congrArg some (by kernel_rfl))
  f319 := Tryz.func297.trans (congrArg some (by kernel_rfl))
  f320 := Tryz.func298.trans (congrArg some (by kernel_rfl))
  f337 := Tryz.func304.trans (congrArg some (by kernel_rfl))
  f338 := Tryz.func305.trans (congrArg some (by kernel_rfl))
  t0 := Tryz.underlying0
  a0 := Tryz.isAgg0
  z0 := Tryz.sizeOf0
  v0 := Tryz.zeroValue0
  t2 := Tryz.underlying2
  a2 := Tryz.isAgg2
  z2 := Tryz.sizeOf2
  v2 := Tryz.zeroValue2
  t3 := Tryz.underlying3
  a3 := Tryz.isAgg3
  z3 := Tryz.sizeOf3
  v3 := Tryz.zeroValue3
  t4 := Tryz.underlying4
  a4 := Tryz.isAgg4
  z4 := Tryz.sizeOf4
  v4 := Tryz.zeroValue4
  t5 := Tryz.underlying5
  a5 := Tryz.isAgg5
  z5 := Tryz.sizeOf5
  v5 := Tryz.zeroValue5
  t9 := Tryz.underlying9
  a9 := Tryz.isAgg9
  z9 := Tryz.sizeOf9
  v9 := Tryz.zeroValue9
  t20 := Tryz.underlying20
  a20 := Tryz.isAgg20
  z20 := Tryz.sizeOf20
  v20 := Tryz.zeroValue20
  t37 := Tryz.underlying130
  a37 := Tryz.isAgg130
  z37 := Tryz.sizeOf130
  v37 := Tryz.zeroValue130
  t46 := Tryz.underlying197
  a46 := Tryz.isAgg197
  z46 := Tryz.sizeOf197
  v46 := Tryz.zeroValue197
  t51 := Tryz.underlying275
  a51 := Tryz.isAgg275
  z51 := Tryz.sizeOf275
  v51 := Tryz.zeroValue275
  t53 := Tryz.underlying277
  a53 := Tryz.isAgg277
  z53 := Tryz.sizeOf277
  v53 := Tryz.zeroValue277
  t171 := Tryz.underlying315
  a171 := Tryz.isAgg315
  z171 := Tryz.sizeOf315
  v171 := Tryz.zeroValue315
  t173 := Tryz.underlying317
  a173 := Tryz.isAgg317
  z173 := Tryz.sizeOf317
  v173 := Tryz.zeroValue317
  t212 := Tryz.underlying334
  a212 := Tryz.isAgg334
  z212 := Tryz.sizeOf334
  v212 := Tryz.zeroValue334
  t213 := Tryz.underlying335
  a213 := Tryz.isAgg335
  z213 := Tryz.sizeOf335
  t232 := Tryz.underlying347
  a232 := Tryz.isAgg347
  z232 := Tryz.sizeOf347
  v232 := Tryz.zeroValue347
  t233 := Tryz.underlying348
  a233 := Tryz.isAgg348
  z233 := Tryz.sizeOf348
  v233 := Tryz.zeroValue348
  g17 := by kernel_rfl
  g18 := by kernel_rfl
  g19 := by kernel_rfl
  i0 := by kernel_rfl
  i2 := by kernel_rfl
  i3 := by kernel_rfl
  i4 := by kernel_rfl
  i5 := by kernel_rfl
  i9 := by kernel_rfl
  i20 := by kernel_rfl
  i37 := by kernel_rfl
  i46 := by kernel_rfl
  i51 := by kernel_rfl
  i53 := by kernel_rfl
  i171 := by kernel_rfl
  i173 := by kernel_rfl
  i212 := by kernel_rfl
  i232 := by kernel_rfl
  i233 := by kernel_rfl
  m17 := by kernel_rfl
  m18 := by kernel_rfl
  m19 := by kernel_rfl }
open Go.RowKit Go.Sort Go.Lib in
theorem Tryz.strconv_Itoa (n : Int) (h0 : -9223372036854775808 ≤ n) (h1 : n ≤ 9223372036854775807) (w : World) (htab : Lib.TabIs Tryz.prog w "internal/strconv.uint64pow10" .u64 Lib.pow10Tab) :
    Calls Tryz.prog 137 #[.int .i64 n] w fun e w' => e = .returned (.string ⟨(Lib.itoa n).toArray⟩) ∧ ∃ k os, w' = grow (w.drewN k) os := Any.strconv_Itoa Tryz.laysM171 n h0 h1 w htab
def Tryz.laysC172_ren : Go.Shelf.Ren := ⟨fun | 172 => 159 | 244 => 225 | 245 => 226 | 247 => 266 | 279 => 267 | 280 => 268 | 281 => 269 | 282 => 270 | 287 => 292 | 316 => 293 | 171 => 137 | 205 => 294 | 321 => 302 | 322 => 303 | 243 => 197 | 246 => 239 | 283 => 275 | 284 => 276 | 285 => 277 | 286 => 278 | 129 => 224 | 317 => 295 | 318 => 296 | 319 => 297 | 320 => 298 | 337 => 304 | 338 => 305 | n => n, fun | 9 => 9 | 3 => 3 | 75 => 134 | 76 => 135 | 4 => 4 | 5 => 5 | 167 => 308 | 37 => 130 | 0 => 0 | 85 => 309 | 2 => 2 | 168 => 311 | 53 => 277 | 175 => 327 | 46 => 197 | 210 => 331 | 127 => 207 | 145 => 346 | 143 => 344 | 21 => 21 | 171 => 315 | 173 => 317 | 212 => 334 | 51 => 275 | 20 => 20 | 213 => 335 | 232 => 347 | 233 => 348 | 80 => 138 | n => n, fun | 15 => 1 | 16 => 2 | 17 => 3 | 18 => 6 | 19 => 7 | n => n⟩
theorem Tryz.laysC172 : Go.Proofs.LaysC.n172 Tryz.prog Tryz.laysC172_ren := {
  mixed := by kernel_rfl
  f129 := Tryz.func224.trans (congrArg some (by kernel_rfl))
  f171 := Tryz.func137.trans (congrArg some (by kernel_rfl))
  f172 := Tryz.func159.trans (congrArg some (by kernel_rfl))
  f205 := Tryz.func294.trans (congrArg some (by kernel_rfl))
  f243 := Tryz.func197.trans (congrArg some (by kernel_rfl))
  f244 := Tryz.func225.trans (congrArg some (by kernel_rfl))
  f245 := Tryz.func226.trans (congrArg some (by kernel_rfl))
  f246 := Tryz.func239.trans (congrArg some (by kernel_rfl))
  f247 := Tryz.func266.trans (congrArg some (by kernel_rfl))
  f279 := Tryz.func267.trans (congrArg some (by kernel_rfl))
  f280 := Tryz.func268.trans (congrArg some (by kernel_rfl))
  f281 := Tryz.func269.trans (congrArg some (by kernel_rfl))
  f282 := Tryz.func270.trans (congrArg some (by kernel_rfl))
  f283 := Tryz.func275.trans (congrArg some (by kernel_rfl))
  f284 := Tryz.func276.trans (congrArg some (by kernel_rfl))
  f285 := Tryz.func277.trans (congrArg some (by kernel_rfl))
  f286 := Tryz.func278.trans (congrArg some (by kernel_rfl))
  f287 := Tryz.func292.trans (congrArg some (by kernel_rfl))
  f316 := Tryz.func293.trans (congrArg some (by kernel_rfl))
  f317 := Tryz.func295.trans (congrArg some (by kernel_rfl))
  f318 := Tryz.func296.trans (congrArg some (by kernel_rfl))
  f319 := Tryz.func297.trans (congrArg some (by kernel_rfl))
  f320 := Tryz.func298.trans (congrArg some (by kernel_rfl))
  f321 := Tryz.func302.trans (congrArg some (by kernel_rfl))
  f322 := Tryz.func303.trans (congrArg some (by kernel_rfl))
  f337 := Tryz.func304.trans (congrArg some (by kernel_rfl))
  f338 := Tryz.func305.trans (congrArg some (by kernel_rfl))
  t0 := Tryz.underlying0
  a0 := Tryz.isAgg0
  z0 := Tryz.sizeOf0
  v0 := Tryz.zeroValue0
  t2 := Tryz.underlying2
  a2 := Tryz.isAgg2
  z2 := Tryz.sizeOf2
  v2 := Tryz.zeroValue2
  t3 := Tryz.underlying3
  a3 := Tryz.isAgg3
  z3 := Tryz.sizeOf3
  v3 := Tryz.zeroValue3
  t4 := Tryz.underlying4
  a4 := Tryz.isAgg4
  z4 := Tryz.sizeOf4
  v4 := Tryz.zeroValue4
  t5 := Tryz.underlying5
  a5 := Tryz.isAgg5
  z5 := Tryz.sizeOf5
  v5 := Tryz.zeroValue5
  t9 := Tryz.underlying9
  a9 := Tryz.isAgg9
  z9 := Tryz.sizeOf9
  v9 := Tryz.zeroValue9
  t20 := Tryz.underlying20
  a20 := Tryz.isAgg20
  z20 := Tryz.sizeOf20
  v20 := Tryz.zeroValue20
  t21 := Tryz.underlying21
  a21 := Tryz.isAgg21
  z21 := Tryz.sizeOf21
  v21 := Tryz.zeroValue21
  t37 := Tryz.underlying130
  a37 := Tryz.isAgg130
  z37 := Tryz.sizeOf130
  v37 := Tryz.zeroValue130
  t46 := Tryz.underlying197
  a46 := Tryz.isAgg197
  z46 := Tryz.sizeOf197
  v46 := Tryz.zeroValue197
  t51 := Tryz.underlying275
  a51 := Tryz.isAgg275
  z51 := Tryz.sizeOf275
  v51 := Tryz.zeroValue275
  t53 := Tryz.underlying277
  a53 := Tryz.isAgg277
  z53 := Tryz.sizeOf277
  v53 := Tryz.zeroValue277
  t75 := Tryz.underlying134
  a75 := Tryz.isAgg134
  z75 := Tryz.sizeOf134
  v75 := Tryz.zeroValue134
  t76 := Tryz.underlying135
  a76 := Tryz.isAgg135
  z76 := Tryz.sizeOf135
  v76 := Tryz.zeroValue135
  t85 := Tryz.underlying309
  a85 := Tryz.isAgg309
  z85 := Tryz.sizeOf309
  v85 := Tryz.zeroValue309
  t127 := Tryz.underlying207
  a127 := Tryz.isAgg207
  z127 := Tryz.sizeOf207
  v127 := Tryz.zeroValue207
  t143 := Tryz.underlying344
  a143 := Tryz.isAgg344
  z143 := Tryz.sizeOf344
  v143 := Tryz.zeroValue344
  t145 := Tryz.underlying346
  a145 := Tryz.isAgg346
  z145 := Tryz.sizeOf346
  v145 := Tryz.zeroValue346
  t167 := Tryz.underlying308
  a167 := Tryz.isAgg308
  z167 := Tryz.sizeOf308
  v167 := Tryz.zeroValue308
  t168 := Tryz.underlying311
  a168 := Tryz.isAgg311
  z168 := Tryz.sizeOf311
  v168 := Tryz.zeroValue311
  t171 := Tryz.underlying315
  a171 := Tryz.isAgg315
  z171 := Tryz.sizeOf315
  v171 := Tryz.zeroValue315
  t173 := Tryz.underlying317
  a173 := Tryz.isAgg317
  z173 := Tryz.sizeOf317
  v173 := Tryz.zeroValue317
  t175 := Tryz.underlying327
  a175 := Tryz.isAgg327
  z175 := Tryz.sizeOf327
  v175 := Tryz.zeroValue327
  t210 := Tryz.underlying331
  a210 := Tryz.isAgg331
  z210 := Tryz.sizeOf331
  v210 := Tryz.zeroValue331
  t212 := Tryz.underlying334
  a212 := Tryz.isAgg334
  z212 := Tryz.sizeOf334
  v212 := Tryz.zeroValue334
  t213 := Tryz.underlying335
  a213 := Tryz.isAgg335
  z213 := Tryz.sizeOf335
  t232 := Tryz.underlying347
  a232 := Tryz.isAgg347
  z232 := Tryz.sizeOf347
  v232 := Tryz.zeroValue347
  t233 := Tryz.underlying348
  a233 := Tryz.isAgg348
  z233 := Tryz.sizeOf348
  v233 := Tryz.zeroValue348
  g15 := by kernel_rfl
  g16 := by kernel_rfl
  g17 := by kernel_rfl
  g18 := by kernel_rfl
  g19 := by kernel_rfl
  t80 := Tryz.underlying138
  a80 := Tryz.isAgg138
  z80 := Tryz.sizeOf138
  v80 := Tryz.zeroValue138
  i0 := by kernel_rfl
  i2 := by kernel_rfl
  i3 := by kernel_rfl
  i4 := by kernel_rfl
  i5 := by kernel_rfl
  i9 := by kernel_rfl
  i20 := by kernel_rfl
  i21 := by kernel_rfl
  i37 := by kernel_rfl
  i46 := by kernel_rfl
  i51 := by kernel_rfl
  i53 := by kernel_rfl
  i75 := by kernel_rfl
  i76 := by kernel_rfl
  i80 := by kernel_rfl
  i85 := by kernel_rfl
  i127 := by kernel_rfl
  i143 := by kernel_rfl
  i145 := by kernel_rfl
  i167 := by kernel_rfl
  i168 := by kernel_rfl
  i171 := by kernel_rfl
  i173 := by kernel_rfl
  i175 := by kernel_rfl
  i210 := by kernel_rfl
  i212 := by kernel_rfl
  i232 := by kernel_rfl
  i233 := by kernel_rfl
  m15 := by kernel_rfl
  m16 := by kernel_rfl
  m17 := by kernel_rfl
  m18 := by kernel_rfl
  m19 := by kernel_rfl
  c0 := by kernel_rfl
  c2 := by kernel_rfl
  c3 := by kernel_rfl
  c4 := by kernel_rfl
  c5 := by kernel_rfl
  c9 := by kernel_rfl
  c20 := by kernel_rfl
  c21 := by kernel_rfl
  c37 := by kernel_rfl
  c46 := by kernel_rfl
  c51 := by kernel_rfl
  c53 := by kernel_rfl
  c75 := by kernel_rfl
  c76 := by kernel_rfl
  c80 := by kernel_rfl
  c85 := by kernel_rfl
  c127 := by kernel_rfl
  c143 := by kernel_rfl
  c145 := by kernel_rfl
  c167 := by kernel_rfl
  c168 := by kernel_rfl
  c171 := by kernel_rfl
  c173 := by kernel_rfl
  c175 := by kernel_rfl
  c210 := by kernel_rfl
  c212 := by kernel_rfl
  c213 := by kernel_rfl
  c232 := by kernel_rfl
  c233 := by kernel_rfl }
open Go.RowKit in
theorem Tryz.strconv_Atoi_ok (s : ByteArray) (hmax : s.size ≤ 9223372036854775806) (v : Int) (h : Lib.atoiAll s.data.toList = .ok v) (w : World) :
    Calls Tryz.prog 159 #[.string s] w fun e w' => e = .returned (.tuple #[.int .i64 v, .nilIface]) ∧ (w' = w ∨ ∃ t, w' = Lib.bytesWorld w 5 t) := Any.strconv_Atoi_ok Tryz.laysC172 s hmax v h w
open Go.RowKit in
theorem Tryz.strconv_Atoi_range_var (s : ByteArray) (hlim : s.size ≤ 281474976710656) (h : Lib.atoiAll s.data.toList = .range) (tp : TypeId) (p : Value) (w : World) (hvar : w.var? Tryz.prog "strconv.ErrRange" = some #[.iface tp p]) :
    Calls Tryz.prog 159 #[.string s] w fun e w' => ∃ N, e = .returned (.tuple #[.int .i64 (Lib.atoiSat s.data.toList), .iface 311 (.pointer (some ⟨N, 0, none⟩))]) ∧ w.heap.size ≤ N ∧ w'.heap[N]? = some (.cells #[.string ⟨#[65, 116, 111, 105]⟩, .string s, .iface tp p] 331 (0, 0)) ∧ Below w.heap.size w w' := Any.strconv_Atoi_range_var Tryz.laysC172 s hlim h tp p w hvar
def Tryz.lays146_ren : Go.Shelf.Ren := ⟨fun | 146 => 81 | 221 => 141 | 268 => 198 | 138 => 199 | 143 => 200 | 195 => 240 | 197 => 241 | 218 => 242 | 219 => 243 | 260 => 279 | 217 => 280 | 225 => 281 | 224 => 282 | 267 => 283 | 266 => 299 | 314 => 300 | n => n, fun | 9 => 9 | 31 => 140 | 3 => 3 | 4 => 4 | 0 => 0 | 105 => 286 | 21 => 21 | 5 => 5 | 46 => 197 | 119 => 336 | 139 => 339 | 138 => 338 | 146 => 340 | 51 => 275 | n => n, fun | 1 => 0 | 3 => 4 | 4 => 5 | n => n⟩
theorem Tryz.lays146 : Go.Proofs.Lays.n146 Tryz.prog Tryz.lays146_ren := {
  mixed := by kernel_rfl
  f138 := Tryz.func199.trans (congrArg some (by kernel_rfl))
  f143 := Tryz.func200.trans (congrArg some (by kernel_rfl))
  f146 := Tryz.func81.trans (congrArg some (by kernel_rfl))
  f195 := Tryz.func240.trans (congrArg some (by kernel_rfl))
  f197 := Tryz.func241.trans (congrArg some (by kernel_rfl))
  f217 := Tryz.func280.trans (congrArg some (by kernel_rfl))
  f218 := Tryz.func242.trans (congrArg some (by kernel_rfl))
  f219 := Tryz.func243.trans (congrArg some (by kernel_rfl))
  f221 := Tryz.func141.trans (congrArg some (by kernel_rfl))
  f224 := Tryz.func282.trans (congrArg some (by kernel_rfl))
  f225 := Tryz.func281.trans (congrArg some (by kernel_rfl))
  f260 := Tryz.func279.trans (congrArg some (by kernel_rfl))
  f266 := Tryz.func299.trans (congrArg some (by kernel_rfl))
  f267 := Tryz.func283.trans (congrArg some (by kernel_rfl))
  f268 := Tryz.func198.trans (congrArg some (by kernel_rfl))
  f314 := Tryz.func300.trans (congrArg some (by kernel_rfl))
  t0 := Tryz.underlying0
  a0 := Tryz.isAgg0
  z0 := Tryz.sizeOf0
  v0 := Tryz.zeroValue0
  t3 := Tryz.underlying3
  a3 := Tryz.isAgg3
  z3 := Tryz.sizeOf3
  v3 := Tryz.zeroValue3
  t4 := Tryz.underlying4
  a4 := Tryz.isAgg4
  z4 := Tryz.sizeOf4
  v4 := Tryz.zeroValue4
  t5 := Tryz.underlying5
  a5 := Tryz.isAgg5
  z5 := Tryz.sizeOf5
  v5 := Tryz.zeroValue5
  t9 := Tryz.underlying9
  a9 := Tryz.isAgg9
  z9 := Tryz.sizeOf9
  v9 := Tryz.zeroValue9
  t21 := Tryz.underlying21
  a21 := Tryz.isAgg21
  z21 := Tryz.sizeOf21
  v21 := Tryz.zeroValue21
  t31 := Tryz.underlying140
  a31 := Tryz.isAgg140
  z31 := Tryz.sizeOf140
  v31 := Tryz.zeroValue140
  t46 := Tryz.underlying197
  a46 := Tryz.isAgg197
  z46 := Tryz.sizeOf197
  v46 := Tryz.zeroValue197
  t51 := Tryz.underlying275
  a51 := Tryz.isAgg275
  z51 := Tryz.sizeOf275
  v51 := Tryz.zeroValue275
  t105 := Tryz.underlying286
  a105 := Tryz.isAgg286
  z105 := Tryz.sizeOf286
  v105 := Tryz.zeroValue286
  t119 := Tryz.underlying336
  a119 := Tryz.isAgg336
  z119 := Tryz.sizeOf336
  t138 := Tryz.underlying338
  a138 := Tryz.isAgg338
  z138 := Tryz.sizeOf338
  v138 := Tryz.zeroValue338
  t139 := Tryz.underlying339
  a139 := Tryz.isAgg339
  z139 := Tryz.sizeOf339
  v139 := Tryz.zeroValue339
  t146 := Tryz.underlying340
  a146 := Tryz.isAgg340
  z146 := Tryz.sizeOf340
  v146 := Tryz.zeroValue340
  g1 := by kernel_rfl
  g3 := by kernel_rfl
  g4 := by kernel_rfl }
open Go.RowKit Go.Lib in
theorem Tryz.strings_Split (s sep : ByteArray) (m : Int) (w : World) (hs : s.size < 4294967281) (hm : w.cell? ⟨0, 0, none⟩ = some (.int .i64 m)) (h1 : 1 ≤ sep.size) :
    Calls Tryz.prog 81 #[.string s, .string sep] w fun e w' =>
      e = .returned (.slice (some ⟨w.heap.size, 0, none⟩) (Lib.countB s sep + 1) (Lib.countB s sep + 1)) ∧ w' = w.alloc (.cells ((Lib.splitB sep 0 (Lib.countB s sep) s).map Value.string).toArray 9) := Any.strings_Split Tryz.lays146 (by kernel_rfl) s sep m w hs hm h1
end Go.Proofs
namespace Go.Proofs.YtmalhidldgfeoaaGreatDoor
def cutC (c : UInt8) : List UInt8 → List (List UInt8)
  | [] => [[]]
  | x :: l => if x = c then [] :: cutC c l else match cutC c l with
    | [] => [[x]]
    | h :: t => (x :: h) :: t
theorem WR (c : UInt8) : ∀ l, cutC c l ≠ []
  | [] => by simp [cutC]
  | x :: l => by
    unfold cutC
    split
    · simp
    · split <;> simp
theorem YcK {c : UInt8} : ∀ {a : List UInt8} (l : List UInt8), c ∉ a → cutC c (a ++ c :: l) = a :: cutC c l
  | [], l, _ => by rw [List.nil_append, cutC, if_pos rfl]
  | x :: a, l, h => by
    have hx : x ≠ c := fun e => h (e ▸ List.mem_cons_self)
    rw [List.cons_append, cutC, if_neg hx, YcK l fun hm => h (List.mem_cons_of_mem _ hm)]
theorem Yfp {c : UInt8} : ∀ {a : List UInt8}, c ∉ a → cutC c a = [a]
  | [], _ => rfl
  | x :: a, h => by
    have hx : x ≠ c := fun e => h (e ▸ List.mem_cons_self)
    rw [cutC, if_neg hx, Yfp fun hm => h (List.mem_cons_of_mem _ hm)]
def J2 (c : UInt8) : List (List UInt8) → List UInt8
  | [] => []
  | [p] => p
  | p :: q :: r => p ++ c :: J2 c (q :: r)
theorem Yei {c : UInt8} : ∀ l : List UInt8, J2 c (cutC c l) = l
  | [] => rfl
  | x :: l => by
    have ih := Yei (c := c) l
    unfold cutC
    split
    · rename_i e
      subst e
      cases h : cutC x l with
      | nil => exact absurd h (WR x l)
      | cons a t => rw [h] at ih; show [] ++ x :: J2 x (a :: t) = _; rw [ih]; rfl
    · split
      · rename_i h; exact absurd h (WR c l)
      · rename_i a t h
        rw [h] at ih
        cases t with
        | nil => show x :: a = _; rw [show a = l from ih]
        | cons b t => show (x :: a) ++ c :: J2 c (b :: t) = _; rw [List.cons_append, show a ++ c :: J2 c (b :: t) = l from ih]
theorem QS {c : UInt8} : ∀ {ps : List (List UInt8)}, ps ≠ [] → (∀ p ∈ ps, c ∉ p) → cutC c (J2 c ps) = ps
  | [], h, _ => absurd rfl h
  | [p], _, h => Yfp (h p List.mem_cons_self)
  | p :: q :: r, _, h => by
    show cutC c (p ++ c :: J2 c (q :: r)) = _
    rw [YcK _ (h p List.mem_cons_self), QS (by simp) fun x hx => h x (List.mem_cons_of_mem _ hx)]
theorem YbU {c : UInt8} : ∀ {a : List UInt8} (b : List UInt8), c ∉ a → Lib.index (a ++ c :: b) [c] = a.length
  | [], b, _ => by simp [Lib.index, List.isPrefixOf]
  | x :: a, b, h => by
    have hx : ¬ c = x := fun e => h (e ▸ List.mem_cons_self)
    have ih := YbU (c := c) (a := a) b fun hm => h (List.mem_cons_of_mem _ hm)
    rw [List.cons_append, Lib.index, if_neg (by simp [List.isPrefixOf, hx]), ih, if_neg (by intro h; have := eq_of_beq h; omega)]
    simp
theorem Yeh {c : UInt8} : ∀ {a : List UInt8}, c ∉ a → Lib.index a [c] = -1
  | [], _ => rfl
  | x :: a, h => by
    have hx : ¬ c = x := fun e => h (e ▸ List.mem_cons_self)
    have ih := Yeh (c := c) (a := a) fun hm => h (List.mem_cons_of_mem _ hm)
    rw [Lib.index, if_neg (by simp [List.isPrefixOf, hx]), ih, if_pos (by decide)]
theorem YhS {c : UInt8} (s : List UInt8) : Lib.split s [c] = cutC c s := by
  unfold Lib.split
  obtain ⟨k, hk⟩ : ∃ k, s.length = k := ⟨_, rfl⟩
  induction k using Nat.strongRecOn generalizing s with
  | _ k ih =>
    by_cases hm : c ∈ s
    · obtain ⟨a, b, rfl, ha⟩ := List.eq_append_cons_of_mem hm
      have hi := YbU b ha
      rw [Lib.count_hit (by simp) hi, Nat.add_comm, Lib.splitK, if_neg (by rw [hi]; intro h; have := eq_of_beq h; omega), hi, YcK b ha]
      have e1 : ((a.length : Int).toNat) = a.length := rfl
      have e2 : (a ++ c :: b).take (a.length + 0) = a := by simp
      have e3 : (a ++ c :: b).drop (a.length + [c].length) = b := by
        rw [show a ++ c :: b = (a ++ [c]) ++ b by simp, show a.length + [c].length = (a ++ [c]).length by simp, List.drop_left]
      rw [e1, e2, e3, ih b.length (by rw [← hk]; simp; omega) b rfl]
    · rw [Lib.count_miss (Yeh hm), Lib.splitK, Yfp hm]
def digB (b : UInt8) : Bool := decide (48 ≤ b.toNat ∧ b.toNat ≤ 57)
def valN (l : List UInt8) : Nat := l.foldl (fun a b => 10 * a + (b.toNat - 48)) 0
def numW (w : List UInt8) : Int := if w.length < 1 ∨ 4 < w.length ∨ (1 < w.length ∧ w.head? = some 48) ∨ w.all digB = false then -1 else (valN w : Int)
theorem WJ (l : List UInt8) (d : UInt8) : valN (l ++ [d]) = 10 * valN l + (d.toNat - 48) := by
  unfold valN; rw [List.foldl_append]; rfl
theorem YkG : ∀ {l : List UInt8}, l ≠ [] → l.all digB = true → l.head? ≠ some 48 → 1 ≤ valN l := by
  intro l
  obtain ⟨k, hk⟩ : ∃ k, l.length = k := ⟨_, rfl⟩
  induction k generalizing l with
  | zero => intro h; exact absurd (List.length_eq_zero_iff.1 hk) h
  | succ k ih =>
    intro hne ha hh
    rcases List.eq_nil_or_concat l with rfl | ⟨m, d, rfl⟩
    · exact absurd rfl hne
    rw [List.concat_eq_append] at *
    rw [WJ]
    cases m with
    | nil =>
      have h1 : digB d = true := by simpa using ha
      unfold digB at h1
      have h2 := of_decide_eq_true h1
      have h3 : d ≠ 48 := fun e => hh (by rw [e]; rfl)
      have h4 : d.toNat ≠ 48 := fun e => h3 (UInt8.toNat_inj.1 e)
      omega
    | cons x m =>
      have := ih (l := x :: m) (by simpa using hk) (by simp) (by rw [List.all_append] at ha; simp only [Bool.and_eq_true] at ha; exact ha.1) (by simpa using hh)
      omega
theorem Ykb : ∀ {l : List UInt8}, l ≠ [] → l.all digB = true → (l.length = 1 ∨ l.head? ≠ some 48) → Lib.decDigits (valN l) = l := by
  intro l
  obtain ⟨k, hk⟩ : ∃ k, l.length = k := ⟨_, rfl⟩
  induction k generalizing l with
  | zero => intro h; exact absurd (List.length_eq_zero_iff.1 hk) h
  | succ k ih =>
    intro hne ha hh
    rcases List.eq_nil_or_concat l with rfl | ⟨m, d, rfl⟩
    · exact absurd rfl hne
    rw [List.concat_eq_append] at *
    rw [List.all_append] at ha
    simp only [Bool.and_eq_true] at ha
    have h1 : digB d = true := by simpa using ha.2
    unfold digB at h1
    have h2 := of_decide_eq_true h1
    have hd : UInt8.ofNat (48 + (d.toNat - 48)) = d := by
      rw [show 48 + (d.toNat - 48) = d.toNat by omega]; exact UInt8.ofNat_toNat
    rw [WJ]
    cases m with
    | nil => rw [show 10 * valN [] + (d.toNat - 48) = d.toNat - 48 by simp [valN], Lib.decDigits_one (by omega), hd]; rfl
    | cons x m =>
      have hx : (x :: m).head? ≠ some 48 := by
        rcases hh with h | h
        · simp at h
        · simpa using h
      have hp := YkG (by simp) ha.1 hx
      rw [Lib.decDigits, dif_neg (by omega), show (10 * valN (x :: m) + (d.toNat - 48)) / 10 = valN (x :: m) by omega, show (10 * valN (x :: m) + (d.toNat - 48)) % 10 = d.toNat - 48 by omega, hd, ih (by simpa using hk) (by simp) ha.1 (.inr hx)]
theorem YlR {l : List UInt8} (h : l.all digB = true) : valN l < 10 ^ l.length := by
  obtain ⟨k, hk⟩ : ∃ k, l.length = k := ⟨_, rfl⟩
  induction k generalizing l with
  | zero => rw [List.length_eq_zero_iff.1 hk]; decide
  | succ k ih =>
    rcases List.eq_nil_or_concat l with rfl | ⟨m, d, rfl⟩
    · simp at hk
    rw [List.concat_eq_append] at *
    rw [List.all_append] at h
    simp only [Bool.and_eq_true] at h
    have h1 : digB d = true := by simpa using h.2
    unfold digB at h1
    have h2 := of_decide_eq_true h1
    have hm : m.length = k := by simpa using hk
    have := ih h.1 hm
    rw [WJ, List.length_append, hm, List.length_singleton, Nat.pow_succ]
    rw [hm] at this
    omega
structure Dec (u : Nat) (l : List UInt8) : Prop where
  ne : l ≠ []
  dig : l.all digB = true
  head : 1 ≤ u → l.head? ≠ some 48
  one : u = 0 → l.length = 1
  val : valN l = u
theorem YcM (u : Nat) : Dec u (Lib.decDigits u) := by
  induction u using Nat.strongRecOn with
  | _ u ih =>
    have hdg : ∀ d : Nat, d < 10 → (UInt8.ofNat (48 + d)).toNat = 48 + d := fun d hd => by rw [UInt8.toNat_ofNat']; omega
    by_cases h : u < 10
    · rw [Lib.decDigits_one h]
      have e := hdg u h
      refine ⟨by simp, ?_, fun h1 => ?_, fun _ => rfl, ?_⟩
      · simp [digB]; omega
      · simp only [List.head?_cons, ne_eq, Option.some.injEq]
        intro e2
        rw [e2] at e
        have : (48 : UInt8).toNat = 48 := rfl
        omega
      · show 10 * 0 + ((UInt8.ofNat (48 + u)).toNat - 48) = u
        rw [e]; omega
    · have h2 := ih (u / 10) (by omega)
      have e := hdg (u % 10) (by omega)
      rw [Lib.decDigits, dif_neg h]
      refine ⟨by simp, ?_, fun _ => ?_, fun h0 => by omega, ?_⟩
      · rw [List.all_append, h2.dig]
        simp [digB]; omega
      · have := h2.head (by omega)
        cases hl : Lib.decDigits (u / 10) with
        | nil => exact absurd hl h2.ne
        | cons x m => rw [hl] at this; simpa using this
      · rw [WJ, h2.val, e]; omega
theorem YcV {w : List UInt8} (h : 0 ≤ numW w) : (numW w).toNat < 10000 ∧ w = Lib.decDigits (numW w).toNat := by
  unfold numW at h ⊢
  split at h
  · omega
  · rename_i hc
    rw [if_neg hc]
    have hne : w ≠ [] := fun e => hc (.inl (by rw [e]; decide))
    have hd : w.all digB = true := by
      cases hd : w.all digB with
      | true => rfl
      | false => exact absurd (.inr (.inr (.inr hd))) hc
    have hb := YlR hd
    have h4 : w.length ≤ 4 := by omega
    refine ⟨?_, ?_⟩
    · have : 10 ^ w.length ≤ 10 ^ 4 := Nat.pow_le_pow_right (by decide) h4
      simp only [Int.toNat_natCast]
      omega
    · rw [Int.toNat_natCast, Ykb hne hd]
      by_cases h1 : w.length = 1
      · exact .inl h1
      · refine .inr fun e => hc (.inr (.inr (.inl ⟨?_, e⟩)))
        have := List.length_pos_iff.2 hne
        omega
theorem Qe {u : Nat} (h : u < 10000) : (Lib.decDigits u).length ≤ 4 := by
  rw [Lib.decDigits_length]
  by_cases h1 : u < 10
  · rw [Lib.nDigits_small h1]; omega
  · rw [Lib.nDigits_big h1]
    by_cases h2 : u / 10 < 10
    · rw [Lib.nDigits_small h2]; omega
    · rw [Lib.nDigits_big h2]
      by_cases h3 : u / 10 / 10 < 10
      · rw [Lib.nDigits_small h3]; omega
      · rw [Lib.nDigits_big h3, Lib.nDigits_small (by omega)]; omega
theorem Yaw {u : Nat} (h : u < 10000) : numW (Lib.decDigits u) = u := by
  have hd := YcM u
  have hl := Qe h
  unfold numW
  rw [if_neg, hd.val]
  rintro (h1 | h1 | ⟨h1, h2⟩ | h1)
  · have := List.length_pos_iff.2 hd.ne; omega
  · omega
  · rcases Nat.eq_zero_or_pos u with h0 | h0
    · have := hd.one h0; omega
    · exact hd.head h0 h2
  · rw [hd.dig] at h1; cases h1
theorem Ow : ∀ (l : List UInt8) (a : Nat), l.all digB = true → Lib.decFrom a l = some (l.foldl (fun a b => 10 * a + (b.toNat - 48)) a)
  | [], _, _ => rfl
  | b :: l, a, h => by
    simp only [List.all_cons, Bool.and_eq_true] at h
    have h1 := h.1
    unfold digB at h1
    have h2 := of_decide_eq_true h1
    rw [Lib.decFrom, show Lib.digitVal b = some (b.toNat - 48) by unfold Lib.digitVal; rw [if_pos h2]]
    show Lib.decFrom (a * 10 + (b.toNat - 48)) l = _
    rw [Ow l _ h.2, List.foldl_cons, Nat.mul_comm]
theorem YdM {u : Nat} (h : u < 10000) : Lib.atoiAll (Lib.decDigits u) = .ok (u : Int) := by
  have hd := YcM u
  have hl := Qe h
  rw [Lib.atoiAll_short _ (by omega)]
  have h1 : Lib.atoi (Lib.decDigits u) = some (u : Int) := by
    have hv := Ow _ 0 hd.dig
    have e := hd.val
    unfold valN at e
    rw [e] at hv
    have hdig := hd.dig
    cases hl : Lib.decDigits u with
    | nil => exact absurd hl hd.ne
    | cons b r =>
      rw [hl] at hv hdig
      simp only [List.all_cons, Bool.and_eq_true] at hdig
      have h1 := hdig.1
      unfold digB at h1
      have h2 := of_decide_eq_true h1
      have n1 : ¬ (b == 45) = true := fun e => by
        have := eq_of_beq e
        rw [this] at h2
        exact absurd h2.1 (by decide)
      have n2 : ¬ (b == 43) = true := fun e => by
        have := eq_of_beq e
        rw [this] at h2
        exact absurd h2.1 (by decide)
      show (if (b == 45) = true then (Lib.decNat r).map (fun (m : Nat) => -(m : Int)) else if (b == 43) = true then (Lib.decNat r).map (fun (m : Nat) => (m : Int)) else (Lib.decNat (b :: r)).map fun (m : Nat) => (m : Int)) = _
      rw [if_neg n1, if_neg n2]
      unfold Lib.decNat
      rw [if_neg (by simp), hv]
      rfl
  rw [h1]
  rfl
theorem Yjf {w : List UInt8} {n : Int} (h : Lib.atoiAll w = .ok n) : (w.length ≤ 4 ∧ Lib.itoa n = w ∧ 0 ≤ n → numW w = n) ∧ (¬ (w.length ≤ 4 ∧ Lib.itoa n = w ∧ 0 ≤ n) → numW w < 0) := by
  constructor
  · rintro ⟨h1, h2, h3⟩
    obtain ⟨u, rfl⟩ : ∃ u : Nat, n = u := ⟨n.toNat, by omega⟩
    have h4 : Lib.itoa (u : Int) = Lib.decDigits u := by unfold Lib.itoa; rw [if_neg (by omega)]; rfl
    rw [h4] at h2
    subst h2
    refine Yaw ?_
    have := Lib.lt_pow_nDigits u
    rw [Lib.decDigits_length] at h1
    have h5 : 10 ^ Lib.nDigits u ≤ 10 ^ 4 := Nat.pow_le_pow_right (by decide) h1
    omega
  · intro hc
    refine Int.not_le.1 fun h0 => hc ?_
    obtain ⟨h1, h2⟩ := YcV h0
    have h3 := YdM h1
    rw [← h2, h] at h3
    injection h3 with h3
    have h4 : Lib.itoa ((numW w).toNat : Int) = Lib.decDigits (numW w).toNat := by unfold Lib.itoa; rw [if_neg (by omega)]; rfl
    refine ⟨?_, ?_, by omega⟩
    · have := Qe h1
      rw [← h2] at this; exact this
    · rw [h3, h4]; exact h2.symm
theorem Yje {w : List UInt8} (h : ∀ n, Lib.atoiAll w ≠ .ok n) : numW w < 0 := by
  refine Int.not_le.1 fun h0 => ?_
  obtain ⟨h1, h2⟩ := YcV h0
  have h3 := YdM h1
  rw [← h2] at h3
  exact h _ h3
open Go.RowKit Go.Eng Go.Nw
def wordS : List UInt8 := [115, 99, 104, 101, 100, 117, 108, 101]
def wordC : List UInt8 := [99, 101, 108, 108]
def YO (w : List UInt8) (l : List Int) : List UInt8 := w ++ l.flatMap fun n => 32 :: Lib.itoa n
def XP (w : List UInt8) (l : List Int) : List UInt8 := YO w l ++ [10]
def YjA (s : Sch) : List UInt8 := XP wordS [s.len, s.off] ++ s.cells.flatMap fun c => XP wordC (nums c)
def ZY (s : Sch) : List UInt8 × Int := if Y7 s = false then ([], 1) else (YjA s, 0)
def J4 (ws : List (List UInt8)) : Option (List Int) := if (ws.any fun w => decide (numW w < 0)) = true then none else some (ws.map numW)
def YaB (line word : List UInt8) (many : Nat) : Option (List Int) :=
  if (cutC 32 line).length ≠ many + 1 ∨ (cutC 32 line).headD [] ≠ word then none else J4 (cutC 32 line).tail
def XB (ls : List (List UInt8)) (i : Nat) : List UInt8 := ls.getD i []
theorem Vl {c : UInt8} (p : List UInt8) : ∀ l : List (List UInt8), J2 c (p :: l) = p ++ l.flatMap fun q => c :: q
  | [] => by simp [J2]
  | q :: r => by
    show p ++ c :: J2 c (q :: r) = _
    rw [Vl q r]; rfl
theorem Yaj : ∀ l : List (List UInt8), J2 10 (l ++ [[]]) = l.flatMap fun p => p ++ [10]
  | [] => rfl
  | p :: l => by
    rw [List.cons_append, Vl, List.flatMap_cons, ← Yaj l]
    cases l with
    | nil => simp [J2]
    | cons q r => rw [List.cons_append, Vl, List.flatMap_cons]; simp
theorem Ybu (w : List UInt8) (l : List Int) : YO w l = J2 32 (w :: l.map Lib.itoa) := by
  rw [Vl, List.flatMap_map]; rfl
theorem Yd5 (u : Nat) {b : UInt8} (hb : b ∈ Lib.decDigits u) : b ≠ 32 ∧ b ≠ 10 := by
  have := List.all_eq_true.1 (YcM u).dig b hb
  unfold digB at this
  have h := of_decide_eq_true this
  constructor <;> (intro e; subst e; exact absurd h (by decide))
theorem J0 {n : Int} (h : 0 ≤ n) : Lib.itoa n = Lib.decDigits n.toNat := by unfold Lib.itoa; rw [if_neg (by omega)]
theorem Uu {w : List UInt8} {l : List Int} (hw : (10 : UInt8) ∉ w) (hl : ∀ n ∈ l, 0 ≤ n) : (10 : UInt8) ∉ YO w l := by
  unfold YO
  intro h
  rcases List.mem_append.1 h with h | h
  · exact hw h
  · obtain ⟨n, hn, h⟩ := List.mem_flatMap.1 h
    rcases List.mem_cons.1 h with h | h
    · exact absurd h (by decide)
    · rw [J0 (hl n hn)] at h
      exact (Yd5 _ h).2 rfl
theorem YhE {w : List UInt8} {l : List Int} (hw : (32 : UInt8) ∉ w) (hl : ∀ n ∈ l, 0 ≤ n ∧ n < 10000) : YaB (YO w l) w l.length = some l := by
  have hc : cutC 32 (YO w l) = w :: l.map Lib.itoa := by
    rw [Ybu]
    refine QS (by simp) fun p hp => ?_
    rcases List.mem_cons.1 hp with rfl | hp
    · exact hw
    · obtain ⟨n, hn, rfl⟩ := List.mem_map.1 hp
      rw [J0 (hl n hn).1]
      exact fun h => (Yd5 _ h).1 rfl
  have hn : ∀ n ∈ l, numW (Lib.itoa n) = n := fun n hm => by
    have := hl n hm
    rw [J0 this.1, Yaw (by omega)]
    omega
  unfold YaB
  rw [hc, if_neg (by simp), List.tail_cons]
  unfold J4
  rw [if_neg, List.map_map]
  · congr 1
    have : l.map (numW ∘ Lib.itoa) = l.map id := List.map_congr_left fun n hm => hn n hm
    rw [this, List.map_id]
  · rw [List.any_map, Bool.not_eq_true, List.any_eq_false]
    intro n hm
    show ¬ decide (numW (Lib.itoa n) < 0) = true
    rw [hn n hm, decide_eq_true_eq]
    have := hl n hm
    omega
theorem YhF {line w : List UInt8} {k : Nat} {x : List Int} (h : YaB line w k = some x) : line = YO w x ∧ x.length = k ∧ ∀ n ∈ x, 0 ≤ n := by
  unfold YaB at h
  split at h
  · cases h
  rename_i hc
  unfold J4 at h
  split at h
  · cases h
  rename_i ha
  have h1 : (cutC 32 line).length = k + 1 := Decidable.byContradiction fun e => hc (.inl e)
  have h2 : (cutC 32 line).headD [] = w := Decidable.byContradiction fun e => hc (.inr e)
  have hj := Yei (c := 32) line
  cases hcl : cutC 32 line with
  | nil => exact absurd hcl (WR _ _)
  | cons p r =>
    rw [hcl] at h1 h2 hj h ha
    obtain rfl : p = w := h2
    have hx := Option.some.inj h
    rw [List.tail_cons] at hx ha
    have hpos : ∀ q ∈ r, 0 ≤ numW q := fun q hq => by
      refine Int.not_lt.1 fun hlt => ha ?_
      rw [List.any_eq_true]
      exact ⟨q, hq, decide_eq_true hlt⟩
    refine ⟨?_, ?_, ?_⟩
    · rw [Ybu, ← hj, ← hx, List.map_map]
      congr 2
      have : r.map (Lib.itoa ∘ numW) = r.map id := List.map_congr_left fun q hq => by
        show Lib.itoa (numW q) = q
        rw [J0 (hpos q hq)]
        exact (YcV (hpos q hq)).2.symm
      rw [this, List.map_id]
    · rw [← hx, List.length_map]
      simpa using h1
    · intro n hn
      rw [← hx] at hn
      obtain ⟨q, hq, rfl⟩ := List.mem_map.1 hn
      exact hpos q hq
theorem WX {s : Sch} (h : Frm s) : (∀ n ∈ [s.len, s.off], 0 ≤ n ∧ n < 10000) ∧ ∀ c ∈ s.cells, ∀ n ∈ nums c, 0 ≤ n ∧ n < 10000 := by
  have h1 := h.sized
  unfold ZZ at h1
  have h2 := of_decide_eq_true h1
  constructor
  · intro n hn
    simp only [List.mem_cons, List.not_mem_nil, or_false] at hn
    omega
  · intro c hc n hn
    have h3 := h.formed c hc
    unfold JF Zm insE at h3
    simp only [Bool.and_eq_true, decide_eq_true_eq] at h3
    unfold nums at hn
    simp only [List.mem_cons, List.not_mem_nil, or_false] at hn
    omega
theorem Yem {ls : List (List UInt8)} {k : Nat} (h : k < ls.length) : ls.take (k + 1) = ls.take k ++ [XB ls k] := by
  unfold XB
  rw [List.take_add_one, List.getD_eq_getElem?_getD, List.getElem?_eq_getElem h]
  rfl
open Go.RowKit Go.Eng Go.Nw
structure Tabs (w : World) : Prop where
  pow : Lib.TabIs Tryz.prog w "internal/strconv.uint64pow10" .u64 Lib.pow10Tab
  syn : ∃ tp p, w.var? Tryz.prog "strconv.ErrSyntax" = some #[.iface tp p]
  rng : ∃ tp p, w.var? Tryz.prog "strconv.ErrRange" = some #[.iface tp p]
  mx : ∃ m, w.cell? ⟨0, 0, none⟩ = some (.int .i64 m)
def TabsB (B : Nat) (w0 : World) : Prop := ∀ w, Below B w0 w → Tabs w
theorem TabsB.here {B : Nat} {w0 w : World} {H : List HP} (h : TabsB B w0) (hw : St B w0 H w) : TabsB w.heap.size w := fun w1 h1 => h w1 (hw.below.trans (h1.mono hw.le))
abbrev strV (l : List UInt8) : Value := .string ⟨l.toArray⟩
def strL (l : List UInt8) : List Value := [strV l]
theorem WZ (n : Int) (h0 : -9223372036854775808 ≤ n) (h1 : n ≤ 9223372036854775807) {B : Nat} {w0 : World} {H : List HP} {w : World} (ht : TabsB B w0) (hw : St B w0 H w) :
    Calls Tryz.prog 137 [.int .i64 n].toArray w (Post B w0 fun v K => v = strV (Lib.itoa n) ∧ K = H) :=
  QJ hw ((Tryz.strconv_Itoa n h0 h1 w (ht w hw.below).pow).mono fun e w' ⟨h1, k, os, h2⟩ => ⟨h1, by rw [h2]; exact Lib.below_grow _ w (Nat.le_refl _) k os⟩)
theorem Yj8 (l : List UInt8) (hl : l.length ≤ 1000000) (v : Int) (h : Lib.atoiAll l = .ok v) {B : Nat} {w0 : World} {H : List HP} {w : World} (hw : St B w0 H w) :
    Calls Tryz.prog 159 [strV l].toArray w (Post B w0 fun u K => u = .tuple #[.int .i64 v, .nilIface] ∧ K = H) := by
  have hs : (⟨l.toArray⟩ : ByteArray).size = l.length := by simp [ByteArray.size]
  refine QJ hw ((Tryz.strconv_Atoi_ok ⟨l.toArray⟩ (by omega) v h w).mono ?_)
  rintro e w' ⟨rfl, h2 | ⟨t, rfl⟩⟩
  · rw [h2]; exact ⟨rfl, Below.refl _ _⟩
  · exact ⟨rfl, Go.Joins.below_bytesWorld _ _ _ _ (Nat.le_refl _)⟩
theorem YiC (l : List UInt8) (hl : l.length ≤ 1000000) (h : ∀ v, Lib.atoiAll l ≠ .ok v) {B : Nat} {w0 : World} {H : List HP} {w : World} (ht : TabsB B w0) (hw : St B w0 H w) :
    Calls Tryz.prog 159 [strV l].toArray w (Post B w0 fun u K => (∃ n t p, u = .tuple #[.int .i64 n, .iface t p]) ∧ K = H) := by
  have hs : (⟨l.toArray⟩ : ByteArray).size = l.length := by simp [ByteArray.size]
  have hT := ht w hw.below
  obtain ⟨tp1, p1, hv1⟩ := hT.syn
  obtain ⟨tp2, p2, hv2⟩ := hT.rng
  cases ha : Lib.atoiAll l
  · exact absurd ha (h _)
  · refine (Any.strconv_Atoi_syntax_var Tryz.laysC172 ⟨l.toArray⟩ (by omega) ha tp1 p1 w hv1).mono ?_
    rintro e w' ⟨N, rfl, _, _, hb⟩
    exact ⟨_, H, rfl, hw.grow hb, ⟨_, _, _, rfl⟩, rfl⟩
  · refine (Any.strconv_Atoi_range_var Tryz.laysC172 ⟨l.toArray⟩ (by omega) ha tp2 p2 w hv2).mono ?_
    rintro e w' ⟨N, rfl, _, _, hb⟩
    exact ⟨_, H, rfl, hw.grow hb, ⟨_, _, _, rfl⟩, rfl⟩
theorem YaS (l : List UInt8) (c : UInt8) (hl : l.length ≤ 1000000) {B : Nat} {w0 : World} {H : List HP} {w : World} (ht : TabsB B w0) (hw : St B w0 H w) :
    Calls Tryz.prog 81 [strV l, .string ⟨#[c]⟩].toArray w (Post B w0 fun v K => ∃ g, v = .slice (some ⟨g, 0, none⟩) (cutC c l).length (cutC c l).length ∧ K = blk g (.cells ((cutC c l).map strV).toArray 9 (0, 0)) :: H) := by
  have hs : (⟨l.toArray⟩ : ByteArray).size = l.length := by simp [ByteArray.size]
  have hc : (⟨#[c]⟩ : ByteArray).size = 1 := rfl
  obtain ⟨m, hm⟩ := (ht w hw.below).mx
  have hlen := Lib.splitB_all ⟨#[c]⟩ (by rw [hc]; exact Nat.le_refl _) 0 _ (⟨l.toArray⟩ : ByteArray) rfl
  have hd := Lib.splitB_data ⟨#[c]⟩ 0 (Lib.countB ⟨l.toArray⟩ ⟨#[c]⟩) ⟨l.toArray⟩
  have e1 : (Lib.splitB ⟨#[c]⟩ 0 (Lib.countB ⟨l.toArray⟩ ⟨#[c]⟩) ⟨l.toArray⟩).map (·.data.toList) = cutC c l := by
    rw [hd]
    exact YhS l
  have e2 : (cutC c l).length = Lib.countB ⟨l.toArray⟩ ⟨#[c]⟩ + 1 := by
    rw [← e1, List.length_map, hlen]
  have e3 : (Lib.splitB ⟨#[c]⟩ 0 (Lib.countB ⟨l.toArray⟩ ⟨#[c]⟩) ⟨l.toArray⟩).map Value.string = (cutC c l).map strV := by
    rw [← e1, List.map_map]
    refine List.map_congr_left fun x _ => ?_
    rfl
  refine (Tryz.strings_Split ⟨l.toArray⟩ ⟨#[c]⟩ m w (by omega) hm (by rw [hc]; exact Nat.le_refl _)).mono ?_
  rintro e w' ⟨rfl, hw'⟩
  rw [e3] at hw'
  refine ⟨_, _, rfl, by rw [hw']; exact hw.alloc _, w.heap.size, ?_, rfl⟩
  rw [e2]
open Go.RowKit Go.Eng Go.Nw
def inI (s : Sch) (slot : Int) (k : Nat) : List Nat := (List.range k).filter fun i => decide ((Yp s i).1 = slot)
def inXs (s : Sch) (slot : Int) : List (List Value) := (inI s slot s.cells.length).map fun (i : Nat) => [Value.int .i64 (i : Int)]
theorem YgB {s : Sch} {slot : Int} {k : Nat} (h : (Yp s k).1 = slot) : inI s slot (k + 1) = inI s slot k ++ [k] := by
  unfold inI; rw [List.range_succ, List.filter_append]; simp [h]
theorem YiU {s : Sch} {slot : Int} {k : Nat} (h : (Yp s k).1 ≠ slot) : inI s slot (k + 1) = inI s slot k := by
  unfold inI; rw [List.range_succ, List.filter_append]; simp [h]
theorem Ykf {s : Sch} {slot : Int} {k n : Nat} (h : (Yp s k).1 = slot) (hk : k < n) : (inI s slot n)[(inI s slot k).length]? = some k := by
  obtain ⟨m, rfl⟩ : ∃ m, n = k + (m + 1) := ⟨n - k - 1, by omega⟩
  have e : inI s slot (k + (m + 1)) = inI s slot k ++ ((List.range (m + 1)).map (k + ·)).filter fun i => decide ((Yp s i).1 = slot) := by
    unfold inI; rw [List.range_add, List.filter_append]
  rw [e, List.getElem?_append_right (Nat.le_refl _), Nat.sub_self, List.range_succ_eq_map]
  simp [h]
theorem Uz {s : Sch} {slot : Int} {k i : Nat} : i ∈ inI s slot k ↔ i < k ∧ (Yp s i).1 = slot := by
  unfold inI; simp
def schB (g : Nat) (s : SchM) : HP := blk g (.cells #[.int .i64 s.len, .int .i64 s.off, .slice s.A s.cells.length s.cap] 30 (0, 0))
def intB (g : Nat) (x : Int) : HP := blk g (.cells #[.int .i64 x] 3 (0, 0))
set_option maxRecDepth 10000 in
set_option maxHeartbeats 1000000 in
theorem Yad (s : SchM) (slot : Int) (gs gt : Nat) {B : Nat} {w0 : World} {HI : List HP} (hr : Rd B w0 HI s.A (s.cells.flatMap celF)) (hl : s.cells.length ≤ 1000000000000)
    (hms : blk gs (.cells #[.int .i64 s.len, .int .i64 s.off, .slice s.A s.cells.length s.cap] 30 (0, 0)) ∈ HI) (hmt : blk gt (.cells #[.int .i64 slot] 3 (0, 0)) ∈ HI) :
    Ybo Tryz.prog 118 [.pointer (some ⟨gs, 0, none⟩), .pointer (some ⟨gt, 0, none⟩)] (inXs s.sch slot) B w0 HI := by
  refine Ydg Tryz.func118 Tryz.ntmps118 rfl rfl ?_
  intro l SS X hy L0 h0
  repeat' (first | refine zgb ?_ | fail)
  refine Yn (fun (x : Nat × List HP) => [(9, .int .i64 x.1), (8, .int .i64 s.cells.length), (7, .slice s.A s.cells.length s.cap), (0, .func (.yield l) #[] #[]), (1, .pointer (some ⟨gs, 0, none⟩)), (2, .pointer (some ⟨gt, 0, none⟩))]) (fun x => many x.2 :: HI) (fun x => x.1 ≤ s.cells.length ∧ SS (inI s.sch slot x.1).length x.2) (fun x => s.cells.length - x.1) (0, L0) ⟨Nat.zero_le _, h0⟩ ?_ (fun w hw => hw) ?_
  · exact zu
  rintro ⟨i, L⟩ ⟨hi, hS⟩ K hK
  dsimp only at hi hS ⊢
  have hr := hr.cons (X := many L)
  by_cases hlt : i < s.cells.length
  · have hget : s.cells[i]? = some (Yp s.sch i) := YH (s := s.sch) hlt
    have hlt2 : i < s.sch.cells.length := hlt
    iterate 22 (first | refine zgd ?_ | (refine zge ?_ ?_ <;> intro _ <;> try (exfalso; omega)) | (refine zgh ?_; intro _) | fail)
    refine Qr 7 rfl rfl (by rintro ⟨_, _, _, _, h, _⟩; cases h) ?_
    repeat' (first | refine zgc ?_ | (refine zgf ?_ ?_ <;> intro _ <;> try (exfalso; omega)) | fail)
    · rename_i g5 hs
      have hx : (inXs s.sch slot)[(inI s.sch slot i).length]? = some [.int .i64 (i : Int)] := by
        rw [inXs, List.getElem?_map, Ykf hs hlt2]; rfl
      have hY := hy _ _ hx [blk g5 (.cells (celF (Yp s.sch i)).toArray 40 (0, 0))] L hS
      apply YdH _ _ (hy := hY)
      · exact YeZ (j := 4) (s := 18) rfl rfl rfl
      · exact rfl
      · exact za
      · exact rfl
      · rintro ⟨_, _, _, _, h, _⟩; cases h
      · rintro _ ⟨L', hS', rfl⟩
        repeat' (first | refine zgd ?_ | fail)
        apply hK (i + 1, L')
        · exact ⟨by omega, by rw [YgB hs, List.length_append]; exact hS'⟩
        · dsimp only; omega
        · exact zu
        · exact fun w hw => hw.tail
      · rintro _ ⟨L', hX', rfl⟩
        repeat' (first | refine zgd ?_ | fail)
        apply Yk (many L' :: HI)
        · exact fun w hw => hw.tail
        apply XU; exact rfl
        exact .inr ⟨L', hX', rfl⟩
    · rename_i hs
      apply Yix (by rintro ⟨_, _, _, _, h, _⟩; cases h)
      repeat' (first | refine zgd ?_ | fail)
      apply hK (i + 1, L)
      · exact ⟨by omega, by rw [YiU hs]; exact hS⟩
      · dsimp only; omega
      · exact zu
      · exact fun w hw => hw.tail
  · repeat' (first | refine zgc ?_ | (refine zge ?_ ?_ <;> intro _ <;> try (exfalso; omega)) | fail)
    apply Xq; exact rfl
    rw [show i = s.cells.length by omega] at hS
    exact .inl ⟨L, by rw [inXs, List.length_map]; exact hS, rfl⟩
theorem Yae (s : SchM) (slot : Int) {B : Nat} {w0 : World} {H : List HP} {w : World} (hw : St B w0 H w) :
    Calls Tryz.prog 59 [s.val, .int .i64 slot].toArray w (Post B w0 fun v K => ∃ gs gt, v = .func (.func 118) #[] #[.pointer (some ⟨gs, 0, none⟩), .pointer (some ⟨gt, 0, none⟩)] ∧ K = intB gt slot :: schB gs s :: H) := by
  refine Yf Tryz.func59 Tryz.ntmps59 rfl rfl hw ?_
  repeat' (first | (apply zg23; first | (refine zs52 ?_; intro _) | (refine zs53 ?_; intro _)) | (apply zg29; (apply Yj; exact za ; exact rfl)) | refine zga ?_ | fail)
  apply Yg; exact rfl; exact rfl
  exact ⟨_, _, rfl, rfl⟩
open Go.RowKit Go.Eng Go.Nw
def Vc (s : Sch) (slot : Int) (k : Nat) : List Cel := ((inI s slot s.cells.length).take k).map (Yp s)
theorem Yfl (s : Sch) (slot : Int) : Vc s slot (inXs s slot).length = s.cells.filter fun c => decide (c.1 = slot) := by
  have e : s.cells = (List.range s.cells.length).map (Yp s) := by
    apply List.ext_getElem?
    intro i
    by_cases h : i < s.cells.length
    · rw [YH h, List.getElem?_map, List.getElem?_range h]; rfl
    · rw [List.getElem?_eq_none (by omega), List.getElem?_eq_none (by simpa using h)]
  unfold Vc inXs
  rw [List.length_map, List.take_length]
  conv => rhs; rw [e]
  rw [List.filter_map]
  rfl
theorem YdT {s : Sch} {slot : Int} {k i : Nat} (h : (inI s slot s.cells.length)[k]? = some i) : Vc s slot (k + 1) = Vc s slot k ++ [Yp s i] := by
  unfold Vc
  rw [List.take_add_one, h, List.map_append]; rfl
theorem JZ {s : Sch} {slot : Int} {k : Nat} {args : List Value} (h : (inXs s slot)[k]? = some args) : ∃ i, (inI s slot s.cells.length)[k]? = some i ∧ i < s.cells.length ∧ args = [.int .i64 (i : Int)] := by
  unfold inXs at h
  rw [List.getElem?_map] at h
  cases hi : (inI s slot s.cells.length)[k]? with
  | none => rw [hi] at h; cases h
  | some i =>
    rw [hi] at h
    cases h
    exact ⟨i, rfl, (Uz.1 (List.mem_of_getElem? hi)).1, rfl⟩
theorem Yg4 {s : Sch} {slot : Int} {k : Nat} : (Vc s slot k).length ≤ s.cells.length := by
  unfold Vc inI
  rw [List.length_map, List.length_take]
  have := List.length_filter_le (fun i => decide ((Yp s i).1 = slot)) (List.range s.cells.length)
  rw [List.length_range] at this
  omega
structure AcM where
  A : Option Addr
  cap : Nat
  l : List Cel
set_option maxRecDepth 10000 in
set_option maxHeartbeats 1000000 in
theorem Yj7 (s : SchM) (slot : Int) {B : Nat} {w0 : World} {H : List HP} {w : World} (hr : Rd B w0 H s.A (s.cells.flatMap celF)) (hl : s.cells.length ≤ 1000000000000) (hw : St B w0 H w) :
    Calls Tryz.prog 14 [s.val, .int .i64 slot].toArray w (Post B w0 fun v K => ∃ A cap, v = .slice A (atE s.sch slot).length cap ∧ K = cels A cap (atE s.sch slot) :: H) := by
  refine XF Tryz.func14 Tryz.ntmps14 rfl rfl hw ?_
  have e1 : s.sch.cells = s.cells := rfl
  by_cases hf : Y7 s.sch = true
  rotate_left
  · have hf : Y7 s.sch = false := by simpa using hf
    repeat' (first | ((first | apply Ya en58 | apply Yb en58); exact za; exact rfl; exact fun _ hw => (JQ (congrArg Value.bool hf) (fun _ hw => JW s hr.cons hl hw) hw)) | (apply zg7; first | (refine zs15 ?_ ?_ <;> intro _ <;> try (exfalso; omega)) | (refine zs21 ?_ ?_ <;> intro _ _ <;> try (exfalso; omega)) | (refine zs23 ?_ ?_ <;> intro _) | refine zs64 ?_) | (apply zg8; first | (refine zs16 ?_ ?_ <;> intro _ <;> try (exfalso; omega)) | (refine zs22 ?_ ?_ <;> intro _ _ <;> try (exfalso; omega)) | (refine zs24 ?_ ?_ <;> intro _) | refine zs63 ?_) | (apply zg12; first | (refine zs29 ?_; intro _ _)) | (apply zg13; first | refine zs30 ?_ | (refine zs33 ?_; intro _ _)) | (apply zg14; first | refine zs31 ?_ | (refine zs34 ?_; intro _ _)) | (apply zg15; first | refine zs32 ?_ | (refine zs35 ?_; intro _ _)) | (apply zg21; first | (refine zs49 ?_; intro _ _)) | (apply zg23; first | (refine zs52 ?_; intro _) | (refine zs53 ?_; intro _)) | (apply zg24; first | (refine zs54 ?_; intro _)) | (apply zg26; first | (refine zs56 ?_; intro _)) | (apply zg29; first | (apply Yj; exact za ; exact rfl) | (apply Ym; exact za ; exact rfl)) | (apply Yi; (repeat (first | with_reducible exact Yh | (with_reducible apply Yd; (repeat (first | with_reducible exact Ye | with_reducible apply Yc)))))) | apply (zs91 ?_ ?_) | (apply Yo; (repeat (first | with_reducible exact Yh | (with_reducible apply Yd; (repeat (first | with_reducible exact Ye | with_reducible apply Yc)))))) | refine zgd ?_ | (refine zgf ?_ ?_ <;> intro _ <;> try (exfalso; omega)) | fail)
    apply Yk (cels none 0 [] :: H)
    · exact fun w hw => hw.tail.nilSlice _ _
    apply VQ_m
    apply Yg; exact rfl; exact rfl
    exact ⟨none, 0, by rw [atE, if_pos (.inl hf)]; rfl, by rw [atE, if_pos (.inl hf)]⟩
  have hfr := Wq.1 hf
  have hsz : 1 ≤ s.len ∧ s.len ≤ 512 := by
    have := of_decide_eq_true hfr.sized
    exact ⟨this.1, this.2.1⟩
  by_cases h0 : slot < 0
  · skip
    repeat' (first | ((first | apply Ya en58 | apply Yb en58); exact za; exact rfl; exact fun _ hw => (JQ (congrArg Value.bool hf) (fun _ hw => JW s hr.cons hl hw) hw)) | (apply zg7; first | (refine zs15 ?_ ?_ <;> intro _ <;> try (exfalso; omega)) | (refine zs21 ?_ ?_ <;> intro _ _ <;> try (exfalso; omega)) | (refine zs23 ?_ ?_ <;> intro _) | refine zs64 ?_) | (apply zg8; first | (refine zs16 ?_ ?_ <;> intro _ <;> try (exfalso; omega)) | (refine zs22 ?_ ?_ <;> intro _ _ <;> try (exfalso; omega)) | (refine zs24 ?_ ?_ <;> intro _) | refine zs63 ?_) | (apply zg12; first | (refine zs29 ?_; intro _ _)) | (apply zg13; first | refine zs30 ?_ | (refine zs33 ?_; intro _ _)) | (apply zg14; first | refine zs31 ?_ | (refine zs34 ?_; intro _ _)) | (apply zg15; first | refine zs32 ?_ | (refine zs35 ?_; intro _ _)) | (apply zg21; first | (refine zs49 ?_; intro _ _)) | (apply zg23; first | (refine zs52 ?_; intro _) | (refine zs53 ?_; intro _)) | (apply zg24; first | (refine zs54 ?_; intro _)) | (apply zg26; first | (refine zs56 ?_; intro _)) | (apply zg29; first | (apply Yj; exact za ; exact rfl) | (apply Ym; exact za ; exact rfl)) | (apply Yi; (repeat (first | with_reducible exact Yh | (with_reducible apply Yd; (repeat (first | with_reducible exact Ye | with_reducible apply Yc)))))) | apply (zs91 ?_ ?_) | (apply Yo; (repeat (first | with_reducible exact Yh | (with_reducible apply Yd; (repeat (first | with_reducible exact Ye | with_reducible apply Yc)))))) | refine zgd ?_ | (refine zgf ?_ ?_ <;> intro _ <;> try (exfalso; omega)) | fail)
    apply Yk (cels none 0 [] :: H)
    · exact fun w hw => hw.tail.nilSlice _ _
    apply VQ_m
    apply Yg; exact rfl; exact rfl
    exact ⟨none, 0, by rw [atE, if_pos (.inr h0)]; rfl, by rw [atE, if_pos (.inr h0)]⟩
  obtain ⟨tz, hto⟩ : ∃ tz, slot % s.len = tz := ⟨_, rfl⟩
  have hat : atE s.sch slot = s.cells.filter fun c => decide (c.1 = tz) := by
    rw [atE, if_neg (by simp [hf, h0]), ← hto, ← Int.tmod_eq_emod_of_nonneg (by omega)]; rfl
  rw [hat]
  repeat' (first | ((first | apply Ya en58 | apply Yb en58); exact za; exact rfl; exact fun _ hw => (JQ (congrArg Value.bool hf) (fun _ hw => JW s hr.cons hl hw) hw)) | (apply zg7; first | (refine zs15 ?_ ?_ <;> intro _ <;> try (exfalso; omega)) | (refine zs21 ?_ ?_ <;> intro _ _ <;> try (exfalso; omega)) | (refine zs23 ?_ ?_ <;> intro _) | refine zs64 ?_) | (apply zg8; first | (refine zs16 ?_ ?_ <;> intro _ <;> try (exfalso; omega)) | (refine zs22 ?_ ?_ <;> intro _ _ <;> try (exfalso; omega)) | (refine zs24 ?_ ?_ <;> intro _) | refine zs63 ?_) | (apply zg12; first | (refine zs29 ?_; intro _ _)) | (apply zg13; first | refine zs30 ?_ | (refine zs33 ?_; intro _ _)) | (apply zg14; first | refine zs31 ?_ | (refine zs34 ?_; intro _ _)) | (apply zg15; first | refine zs32 ?_ | (refine zs35 ?_; intro _ _)) | (apply zg21; first | (refine zs49 ?_; intro _ _)) | (apply zg23; first | (refine zs52 ?_; intro _) | (refine zs53 ?_; intro _)) | (apply zg24; first | (refine zs54 ?_; intro _)) | (apply zg26; first | (refine zs56 ?_; intro _)) | (apply zg29; first | (apply Yj; exact za ; exact rfl) | (apply Ym; exact za ; exact rfl)) | (apply Yi; (repeat (first | with_reducible exact Yh | (with_reducible apply Yd; (repeat (first | with_reducible exact Ye | with_reducible apply Yc)))))) | apply (zs91 ?_ ?_) | (apply Yo; (repeat (first | with_reducible exact Yh | (with_reducible apply Yd; (repeat (first | with_reducible exact Ye | with_reducible apply Yc)))))) | refine zgd ?_ | (refine zgf ?_ ?_ <;> intro _ <;> try (exfalso; omega)) | fail)
  rename_i gB _ gO
  apply Y0 [0, 1, 2, 3, 4] [5] [true, true]
  kernel_rfl
  kernel_rfl
  exact zy
  (simp only [Yl, nthO]; rfl)
  (simp only [Yl, nthO]; rfl)
  repeat' (first | (apply zg7; first | (refine zs15 ?_ ?_ <;> intro _ <;> try (exfalso; omega)) | (refine zs21 ?_ ?_ <;> intro _ _ <;> try (exfalso; omega)) | (refine zs23 ?_ ?_ <;> intro _) | refine zs64 ?_) | (apply zg8; first | (refine zs16 ?_ ?_ <;> intro _ <;> try (exfalso; omega)) | (refine zs22 ?_ ?_ <;> intro _ _ <;> try (exfalso; omega)) | (refine zs24 ?_ ?_ <;> intro _) | refine zs63 ?_) | (apply zg12; first | (refine zs29 ?_; intro _ _)) | (apply zg13; first | refine zs30 ?_ | (refine zs33 ?_; intro _ _)) | (apply zg14; first | refine zs31 ?_ | (refine zs34 ?_; intro _ _)) | (apply zg15; first | refine zs32 ?_ | (refine zs35 ?_; intro _ _)) | (apply zg21; first | (refine zs49 ?_; intro _ _)) | (apply zg23; first | (refine zs52 ?_; intro _) | (refine zs53 ?_; intro _)) | (apply zg24; first | (refine zs54 ?_; intro _)) | (apply zg26; first | (refine zs56 ?_; intro _)) | (apply zg29; first | (apply Yj; exact za ; exact rfl) | (apply Ym; exact za ; exact rfl)) | (apply Yi; (repeat (first | with_reducible exact Yh | (with_reducible apply Yd; (repeat (first | with_reducible exact Ye | with_reducible apply Yc)))))) | apply (zs91 ?_ ?_) | (apply Yo; (repeat (first | with_reducible exact Yh | (with_reducible apply Yd; (repeat (first | with_reducible exact Ye | with_reducible apply Yc)))))) | refine zgd ?_ | (refine zgf ?_ ?_ <;> intro _ <;> try (exfalso; omega)) | fail)
  apply Yr _ en59
  exact za
  exact rfl
  exact fun _ hw => (Yae s _ (hw))
  rintro _ _ ⟨gs, gt, rfl, rfl⟩
  rw [hto]
  repeat' (first | (apply zg7; first | (refine zs15 ?_ ?_ <;> intro _ <;> try (exfalso; omega)) | (refine zs21 ?_ ?_ <;> intro _ _ <;> try (exfalso; omega)) | (refine zs23 ?_ ?_ <;> intro _) | refine zs64 ?_) | (apply zg8; first | (refine zs16 ?_ ?_ <;> intro _ <;> try (exfalso; omega)) | (refine zs22 ?_ ?_ <;> intro _ _ <;> try (exfalso; omega)) | (refine zs24 ?_ ?_ <;> intro _) | refine zs63 ?_) | (apply zg12; first | (refine zs29 ?_; intro _ _)) | (apply zg13; first | refine zs30 ?_ | (refine zs33 ?_; intro _ _)) | (apply zg14; first | refine zs31 ?_ | (refine zs34 ?_; intro _ _)) | (apply zg15; first | refine zs32 ?_ | (refine zs35 ?_; intro _ _)) | (apply zg21; first | (refine zs49 ?_; intro _ _)) | (apply zg23; first | (refine zs52 ?_; intro _) | (refine zs53 ?_; intro _)) | (apply zg24; first | (refine zs54 ?_; intro _)) | (apply zg26; first | (refine zs56 ?_; intro _)) | (apply zg29; first | (apply Yj; exact za ; exact rfl) | (apply Ym; exact za ; exact rfl)) | (apply Yi; (repeat (first | with_reducible exact Yh | (with_reducible apply Yd; (repeat (first | with_reducible exact Ye | with_reducible apply Yc)))))) | apply (zs91 ?_ ?_) | (apply Yo; (repeat (first | with_reducible exact Yh | (with_reducible apply Yd; (repeat (first | with_reducible exact Ye | with_reducible apply Yc)))))) | refine zgd ?_ | (refine zgf ?_ ?_ <;> intro _ <;> try (exfalso; omega)) | fail)
  have hr4 : Rd B w0 (intB gt tz :: schB gs s :: schB gB s :: H) s.A (s.cells.flatMap celF) := hr.cons.cons.cons
  refine ZL 40 5 ?_
  refine XG (gf := 118) (lb := [.pointer (some ⟨gs, 0, none⟩), .pointer (some ⟨gt, 0, none⟩)]) (xs := inXs s.sch tz) (intB gt tz :: schB gs s :: schB gB s :: H) (fun x : AcM => [blk gO (.cells #[.slice x.A x.l.length x.cap] 28 (0, 0)), cels x.A x.cap x.l]) (fun i x => x.l = Vc s.sch tz i) (fun _ _ => False) ⟨none, 0, []⟩ rfl YiL (Yad s tz gs gt hr4 hl (.tail _ (.head _)) (.head _)) rfl ?_ (by kernel_rfl) (by kernel_rfl) ?_ rfl ?_ ?_ (fun _ _ _ h => h.elim)
  · intro args h
    obtain ⟨k, hk⟩ := List.mem_iff_getElem?.1 h
    obtain ⟨i, _, _, rfl⟩ := JZ hk
    rfl
  · unfold schB intB cels
    simp only [List.cons_append, List.nil_append, List.length_nil, List.flatMap_nil]
    exact fun w hw => hw.perm (.trans (.cons _ (.cons _ (.swap _ _ _))) (.trans (.cons _ (.swap _ _ _)) (.swap _ _ _)))
  · rintro l k args R ⟨A, cap, xs⟩ hk hI
    obtain ⟨i, hi, hlt, rfl⟩ := JZ hk
    have hlt2 : i < s.cells.length := hlt
    dsimp only at hI ⊢
    dsimp only [Vx, List.cons_append, List.nil_append]
    have hget : s.cells[i]? = some (Yp s.sch i) := YH (s := s.sch) hlt
    repeat' (first | (apply zg7; first | (refine zs15 ?_ ?_ <;> intro _ <;> try (exfalso; omega)) | (refine zs21 ?_ ?_ <;> intro _ _ <;> try (exfalso; omega)) | (refine zs23 ?_ ?_ <;> intro _) | refine zs64 ?_) | (apply zg8; first | (refine zs16 ?_ ?_ <;> intro _ <;> try (exfalso; omega)) | (refine zs22 ?_ ?_ <;> intro _ _ <;> try (exfalso; omega)) | (refine zs24 ?_ ?_ <;> intro _) | refine zs63 ?_) | (apply zg12; first | (refine zs29 ?_; intro _ _)) | (apply zg13; first | refine zs30 ?_ | (refine zs33 ?_; intro _ _)) | (apply zg14; first | refine zs31 ?_ | (refine zs34 ?_; intro _ _)) | (apply zg15; first | refine zs32 ?_ | (refine zs35 ?_; intro _ _)) | (apply zg21; first | (refine zs49 ?_; intro _ _)) | (apply zg23; first | (refine zs52 ?_; intro _) | (refine zs53 ?_; intro _)) | (apply zg24; first | (refine zs54 ?_; intro _)) | (apply zg26; first | (refine zs56 ?_; intro _)) | (apply zg29; first | (apply Yj; exact za ; exact rfl) | (apply Ym; exact za ; exact rfl)) | (apply Yi; (repeat (first | with_reducible exact Yh | (with_reducible apply Yd; (repeat (first | with_reducible exact Ye | with_reducible apply Yc)))))) | apply (zs91 ?_ ?_) | (apply Yo; (repeat (first | with_reducible exact Yh | (with_reducible apply Yd; (repeat (first | with_reducible exact Ye | with_reducible apply Yc)))))) | refine zgd ?_ | (refine zgf ?_ ?_ <;> intro _ <;> try (exfalso; omega)) | fail)
    apply Ja Ye
    intro R'
    unfold cels intB schB
    refine VP (R' :: blk gO (.cells #[.slice A xs.length cap] 28 (0, 0)) :: sl 40 5 A xs.length cap (xs.flatMap celF) :: blk gt (.cells #[.int .i64 tz] 3 (0, 0)) :: blk gs (.cells #[.int .i64 s.len, .int .i64 s.off, .slice s.A s.cells.length s.cap] 30 (0, 0)) :: blk gB (.cells #[.int .i64 s.len, .int .i64 s.off, .slice s.A s.cells.length s.cap] 30 (0, 0)) :: [many H]) (fun w hw => hw.perm (.cons _ (.cons _ (.cons _ (.cons _ (.cons _ (.cons _ (.closeT _)))))))) ?_
    have hrt : Rd B w0 [many H] s.A (s.cells.flatMap celF) := hr.tail
    repeat' (first | (apply zg7; first | (refine zs15 ?_ ?_ <;> intro _ <;> try (exfalso; omega)) | (refine zs21 ?_ ?_ <;> intro _ _ <;> try (exfalso; omega)) | (refine zs23 ?_ ?_ <;> intro _) | refine zs64 ?_) | (apply zg8; first | (refine zs16 ?_ ?_ <;> intro _ <;> try (exfalso; omega)) | (refine zs22 ?_ ?_ <;> intro _ _ <;> try (exfalso; omega)) | (refine zs24 ?_ ?_ <;> intro _) | refine zs63 ?_) | (apply zg12; first | (refine zs29 ?_; intro _ _)) | (apply zg13; first | refine zs30 ?_ | (refine zs33 ?_; intro _ _)) | (apply zg14; first | refine zs31 ?_ | (refine zs34 ?_; intro _ _)) | (apply zg15; first | refine zs32 ?_ | (refine zs35 ?_; intro _ _)) | (apply zg21; first | (refine zs49 ?_; intro _ _)) | (apply zg23; first | (refine zs52 ?_; intro _) | (refine zs53 ?_; intro _)) | (apply zg24; first | (refine zs54 ?_; intro _)) | (apply zg26; first | (refine zs56 ?_; intro _)) | (apply zg29; first | (apply Yj; exact za ; exact rfl) | (apply Ym; exact za ; exact rfl)) | (apply Yi; (repeat (first | with_reducible exact Yh | (with_reducible apply Yd; (repeat (first | with_reducible exact Ye | with_reducible apply Yc)))))) | apply (zs91 ?_ ?_) | (apply Yo; (repeat (first | with_reducible exact Yh | (with_reducible apply Yd; (repeat (first | with_reducible exact Ye | with_reducible apply Yc)))))) | refine zgd ?_ | (refine zgf ?_ ?_ <;> intro _ <;> try (exfalso; omega)) | fail)
    apply JP [0, 1, 2, 3, 4, 5, 6] [7, 8] [false, true, false, false, false, true, true]
    kernel_rfl
    kernel_rfl
    exact zy
    (simp only [Yl, nthO]; rfl)
    (simp only [Yl, nthO]; rfl)
    have hxl : xs.length ≤ 512 := by
      have h1 := Yg4 (s := s.sch) (slot := tz) (k := k)
      rw [← hI] at h1
      exact Nat.le_trans h1 hfr.few
    repeat' (first | (apply zg7; first | (refine zs15 ?_ ?_ <;> intro _ <;> try (exfalso; omega)) | (refine zs21 ?_ ?_ <;> intro _ _ <;> try (exfalso; omega)) | (refine zs23 ?_ ?_ <;> intro _) | refine zs64 ?_) | (apply zg8; first | (refine zs16 ?_ ?_ <;> intro _ <;> try (exfalso; omega)) | (refine zs22 ?_ ?_ <;> intro _ _ <;> try (exfalso; omega)) | (refine zs24 ?_ ?_ <;> intro _) | refine zs63 ?_) | (apply zg12; first | (refine zs29 ?_; intro _ _)) | (apply zg13; first | refine zs30 ?_ | (refine zs33 ?_; intro _ _)) | (apply zg14; first | refine zs31 ?_ | (refine zs34 ?_; intro _ _)) | (apply zg15; first | refine zs32 ?_ | (refine zs35 ?_; intro _ _)) | (apply zg21; first | (refine zs49 ?_; intro _ _)) | (apply zg23; first | (refine zs52 ?_; intro _) | (refine zs53 ?_; intro _)) | (apply zg24; first | (refine zs54 ?_; intro _)) | (apply zg26; first | (refine zs56 ?_; intro _)) | (apply zg29; first | (apply Yj; exact za ; exact rfl) | (apply Ym; exact za ; exact rfl)) | (apply Yi; (repeat (first | with_reducible exact Yh | (with_reducible apply Yd; (repeat (first | with_reducible exact Ye | with_reducible apply Yc)))))) | apply (zs91 ?_ ?_) | (apply Yo; (repeat (first | with_reducible exact Yh | (with_reducible apply Yd; (repeat (first | with_reducible exact Ye | with_reducible apply Yc)))))) | refine zgd ?_ | (refine zgf ?_ ?_ <;> intro _ <;> try (exfalso; omega)) | fail)
    rename_i A' cap'
    apply JA (AcM.mk A' cap' (xs ++ [Yp s.sch i]))
    · show xs ++ [Yp s.sch i] = Vc s.sch tz (k + 1)
      rw [YdT hi, hI]
    · intro w hw
      rw [UV, Yam xs (Yp s.sch i)] at hw
      unfold cels at hw
      have h5 : St B w0 (R' :: blk gO (.cells #[.slice A' (xs ++ [Yp s.sch i]).length cap'] 28 (0, 0)) :: sl 40 5 A' (xs ++ [Yp s.sch i]).length cap' ((xs ++ [Yp s.sch i]).flatMap celF) :: blk gt (.cells #[.int .i64 tz] 3 (0, 0)) :: blk gs (.cells #[.int .i64 s.len, .int .i64 s.off, .slice s.A s.cells.length s.cap] 30 (0, 0)) :: blk gB (.cells #[.int .i64 s.len, .int .i64 s.off, .slice s.A s.cells.length s.cap] 30 (0, 0)) :: [many H]) w := by
        revert w
        exact zk
      exact h5.perm (.cons _ (.cons _ (.cons _ (.cons _ (.cons _ (.cons _ (.openT _)))))))
  · rintro D ⟨A, cap, xs⟩ hI
    dsimp only at hI ⊢
    rw [Yfl, e1] at hI
    subst hI
    dsimp only [List.cons_append, List.nil_append]
    unfold cels intB schB
    repeat' (first | (apply zg7; first | (refine zs15 ?_ ?_ <;> intro _ <;> try (exfalso; omega)) | (refine zs21 ?_ ?_ <;> intro _ _ <;> try (exfalso; omega)) | (refine zs23 ?_ ?_ <;> intro _) | refine zs64 ?_) | (apply zg8; first | (refine zs16 ?_ ?_ <;> intro _ <;> try (exfalso; omega)) | (refine zs22 ?_ ?_ <;> intro _ _ <;> try (exfalso; omega)) | (refine zs24 ?_ ?_ <;> intro _) | refine zs63 ?_) | (apply zg12; first | (refine zs29 ?_; intro _ _)) | (apply zg13; first | refine zs30 ?_ | (refine zs33 ?_; intro _ _)) | (apply zg14; first | refine zs31 ?_ | (refine zs34 ?_; intro _ _)) | (apply zg15; first | refine zs32 ?_ | (refine zs35 ?_; intro _ _)) | (apply zg21; first | (refine zs49 ?_; intro _ _)) | (apply zg23; first | (refine zs52 ?_; intro _) | (refine zs53 ?_; intro _)) | (apply zg24; first | (refine zs54 ?_; intro _)) | (apply zg26; first | (refine zs56 ?_; intro _)) | (apply zg29; first | (apply Yj; exact za ; exact rfl) | (apply Ym; exact za ; exact rfl)) | (apply Yi; (repeat (first | with_reducible exact Yh | (with_reducible apply Yd; (repeat (first | with_reducible exact Ye | with_reducible apply Yc)))))) | apply (zs91 ?_ ?_) | (apply Yo; (repeat (first | with_reducible exact Yh | (with_reducible apply Yd; (repeat (first | with_reducible exact Ye | with_reducible apply Yc)))))) | refine zgd ?_ | (refine zgf ?_ ?_ <;> intro _ <;> try (exfalso; omega)) | fail)
    apply Zf Ye
    apply VQ_m
    apply Yk (cels A cap (s.cells.filter fun c => decide (c.1 = tz)) :: H)
    · unfold cels
      exact zk
    apply Yg; exact rfl; exact rfl
    exact ⟨A, cap, rfl, rfl⟩
open Go.RowKit Go.Eng Go.Nw
section
variable {m : Eng.Mode} {n : Shp} {B d : Nat} {w0 : World} {ops : Array Oper} {Q : Exit → Act → World → Prop} {rest : List Oper} {env : Env} {H : List HP} {ty : TypeId} {pos : String} {after : Array Edge} {x y : Operand}
theorem VR (a b : List UInt8) (hx : evo env x = some (strV a)) (hy : evo env y = some (strV b)) (hn : Nat.ble (d + 1) n.k = true) (hb : a.length + b.length ≤ 1000000) (h : VL Tryz.prog m n B w0 ops Q rest ((d, strV (a ++ b)) :: env) H) :
    VL Tryz.prog m n B w0 ops Q (⟨some d, .binOp .add 9 x y 9, ty, pos, after, none⟩ :: rest) env H := by
  have hs : ∀ l : List UInt8, (⟨l.toArray⟩ : ByteArray).size = l.length := fun l => by simp [ByteArray.size]
  refine YjW hx hy hn (by rw [hs, hs]; omega) ?_
  have e : (⟨a.toArray⟩ : ByteArray) ++ ⟨b.toArray⟩ = ⟨(a ++ b).toArray⟩ := by
    apply ByteArray.ext
    simp
  rw [e]
  exact h
theorem Yiq {g : Nat} {cs : Array Value} {fr : Nat × Nat} (hx : evo env x = some (.pointer (some ⟨g, 0, none⟩))) (hm : blk g (.cells cs 132 fr) ∈ H) (hc : cs.size = 2) (hn : Nat.ble (d + 1) n.k = true)
    (h : VL Tryz.prog none n B w0 ops Q rest ((d, .pointer (some ⟨g, 0, none⟩)) :: env) H) : VL Tryz.prog none n B w0 ops Q (⟨some d, .convert 129 245 x, ty, pos, after, none⟩ :: rest) env H := by
  refine Xw (fun v K' => v = .pointer (some ⟨g, 0, none⟩) ∧ K' = H) rfl rfl hn (fun a w ha hw => ?_) (by rintro _ _ ⟨rfl, rfl⟩; exact h)
  have hb := (hw.blk hm).1
  obtain ⟨j, hj, hjs⟩ := Option.map_eq_some_iff.1 (show (Tryz.prog.info? 132).map (·.size) = some 2 by kernel_rfl)
  have hr := Lib.run_to_unsafe (P := Tryz.prog) w ⟨g, 0, none⟩ Tryz.underlying129 Tryz.underlying245 hj (by rw [hjs]; decide) (show w.shape? g = some (132, 2) by simp [World.shape?, hb, hc]) (Nat.zero_lt_succ 1)
  exact ⟨_, H, w, by simp [execOp, ha.eval hx, hr], hw, rfl, rfl⟩
theorem Yih {g : Nat} {cs : Array Value} {fr : Nat × Nat} (hx : evo env x = some (.pointer (some ⟨g, 0, none⟩))) (hm : blk g (.cells cs 132 fr) ∈ H) (hc : cs.size = 2) (hn : Nat.ble (d + 1) n.k = true)
    (h : VL Tryz.prog none n B w0 ops Q rest ((d, .pointer (some ⟨g, 0, none⟩)) :: env) H) : VL Tryz.prog none n B w0 ops Q (⟨some d, .convert 245 129 x, ty, pos, after, none⟩ :: rest) env H := by
  refine Xw (fun v K' => v = .pointer (some ⟨g, 0, none⟩) ∧ K' = H) rfl rfl hn (fun a w ha hw => ?_) (by rintro _ _ ⟨rfl, rfl⟩; exact h)
  have hb := (hw.blk hm).1
  obtain ⟨j, hj, hjs⟩ := Option.map_eq_some_iff.1 (show (Tryz.prog.info? 132).map (·.size) = some 2 by kernel_rfl)
  have hr := Lib.run_from_unsafe (P := Tryz.prog) w ⟨g, 0, none⟩ Tryz.underlying245 Tryz.underlying129 hj (show w.shape? g = some (132, 2) by simp [World.shape?, hb, hc]) (by kernel_rfl)
  exact ⟨_, H, w, by simp [execOp, ha.eval hx, hr], hw, rfl, rfl⟩
theorem Yif {v : Value} {tys : Array TypeId} (hx : evo env x = some v) (hn : Nat.ble (d + 1) n.k = true) (h : VL Tryz.prog none n B w0 ops Q rest ((d, v) :: env) H) :
    VL Tryz.prog none n B w0 ops Q (⟨some d, .call ⟨.value (.func 196), #[x], tys⟩, ty, pos, after, none⟩ :: rest) env H := by
  refine Xw (fun u K' => u = v ∧ K' = H) rfl rfl hn (fun a w ha hw => ⟨v, H, w, ?_, hw, rfl, rfl⟩) (by rintro _ _ ⟨rfl, rfl⟩; exact h)
  have hr := run_callFunc_extern (P := Tryz.prog) Tryz.func196 (by kernel_rfl) (by kernel_rfl) (by kernel_rfl) (e := Extern.AbiNoEscape.same) (by kernel_rfl) #[v] w
  have he : a.eval (.func 196) = .func (.func 196) #[] #[] := rfl
  simp [execOp, resolve, invoke, ha.eval hx, he, Deferred.ofValue, hr, Lib.run_noEscape, Result.andThen]
theorem Ydy {g : Addr} (hx : evo env x = some (.pointer (some g))) (hy : evo env y = some (.pointer (some g))) (hn : Nat.ble (d + 1) n.k = true) (h : VL Tryz.prog m n B w0 ops Q rest ((d, .bool false) :: env) H) :
    VL Tryz.prog m n B w0 ops Q (⟨some d, .binOp .neq 129 x y 129, ty, pos, after, none⟩ :: rest) env H := by
  obtain ⟨j, hj, hjs⟩ := Option.map_eq_some_iff.1 (show (Tryz.prog.info? 132).map (·.size) = some 2 by kernel_rfl)
  exact YK hx hy hn (fun _ => rfl) (fun w => Lib.run_neq_ptr_same w g Tryz.underlying129 hj) h
end
set_option maxRecDepth 10000 in
theorem QR (b : Nat) (p v : Value) (hp : p = .pointer none ∨ p = .pointer (some ⟨b, 0, none⟩)) {B : Nat} {w0 : World} {H : List HP} {w : World} (hw : St B w0 (blk b (.cells #[p, v] 132 (0, 0)) :: H) w) :
    Calls Tryz.prog 136 [.pointer (some ⟨b, 0, none⟩)].toArray w (Post B w0 fun u K => u = .tuple #[] ∧ K = blk b (.cells #[.pointer (some ⟨b, 0, none⟩), v] 132 (0, 0)) :: H) := by
  refine Yf Tryz.func136 Tryz.ntmps136 rfl rfl hw ?_
  rcases hp with rfl | rfl
  · skip
    repeat' (first | (apply Ydx; exact rfl; exact rfl; kernel_rfl) | (apply Yiq; exact rfl; exact zm; exact rfl; exact rfl) | (apply Yih; exact rfl; exact zm; exact rfl; exact rfl) | (apply Yif; exact rfl; exact rfl) | (apply Ydy; exact rfl; exact rfl; exact rfl) | (apply zg7; first | (refine zs15 ?_ ?_ <;> intro _ <;> try (exfalso; omega)) | (refine zs21 ?_ ?_ <;> intro _ _ <;> try (exfalso; omega)) | (refine zs23 ?_ ?_ <;> intro _) | refine zs64 ?_) | (apply zg8; first | (refine zs16 ?_ ?_ <;> intro _ <;> try (exfalso; omega)) | (refine zs22 ?_ ?_ <;> intro _ _ <;> try (exfalso; omega)) | (refine zs24 ?_ ?_ <;> intro _) | refine zs63 ?_) | (apply zg12; first | (refine zs29 ?_; intro _ _)) | (apply zg13; first | refine zs30 ?_ | (refine zs33 ?_; intro _ _)) | (apply zg14; first | refine zs31 ?_ | (refine zs34 ?_; intro _ _)) | (apply zg15; first | refine zs32 ?_ | (refine zs35 ?_; intro _ _)) | (apply zg21; first | (refine zs49 ?_; intro _ _)) | (apply zg23; first | (refine zs52 ?_; intro _) | (refine zs53 ?_; intro _)) | (apply zg24; first | (refine zs54 ?_; intro _)) | (apply zg26; first | (refine zs56 ?_; intro _)) | (apply zg29; first | (apply Yj; exact za ; exact rfl) | (apply Ym; exact za ; exact rfl)) | (apply Yi; (repeat (first | with_reducible exact Yh | (with_reducible apply Yd; (repeat (first | with_reducible exact Ye | with_reducible apply Yc)))))) | apply (zs91 ?_ ?_) | (apply Yo; (repeat (first | with_reducible exact Yh | (with_reducible apply Yd; (repeat (first | with_reducible exact Ye | with_reducible apply Yc)))))) | refine zgd ?_ | (refine zgf ?_ ?_ <;> intro _ <;> try (exfalso; omega)) | fail)
    apply Xq; exact rfl; exact ⟨rfl, rfl⟩
  · skip
    repeat' (first | (apply Ydx; exact rfl; exact rfl; kernel_rfl) | (apply Ydy; exact rfl; exact rfl; exact rfl) | (apply zg7; first | (refine zs15 ?_ ?_ <;> intro _ <;> try (exfalso; omega)) | (refine zs21 ?_ ?_ <;> intro _ _ <;> try (exfalso; omega)) | (refine zs23 ?_ ?_ <;> intro _) | refine zs64 ?_) | (apply zg8; first | (refine zs16 ?_ ?_ <;> intro _ <;> try (exfalso; omega)) | (refine zs22 ?_ ?_ <;> intro _ _ <;> try (exfalso; omega)) | (refine zs24 ?_ ?_ <;> intro _) | refine zs63 ?_) | (apply zg12; first | (refine zs29 ?_; intro _ _)) | (apply zg13; first | refine zs30 ?_ | (refine zs33 ?_; intro _ _)) | (apply zg14; first | refine zs31 ?_ | (refine zs34 ?_; intro _ _)) | (apply zg15; first | refine zs32 ?_ | (refine zs35 ?_; intro _ _)) | (apply zg21; first | (refine zs49 ?_; intro _ _)) | (apply zg23; first | (refine zs52 ?_; intro _) | (refine zs53 ?_; intro _)) | (apply zg24; first | (refine zs54 ?_; intro _)) | (apply zg26; first | (refine zs56 ?_; intro _)) | (apply zg29; first | (apply Yj; exact za ; exact rfl) | (apply Ym; exact za ; exact rfl)) | (apply Yi; (repeat (first | with_reducible exact Yh | (with_reducible apply Yd; (repeat (first | with_reducible exact Ye | with_reducible apply Yc)))))) | apply (zs91 ?_ ?_) | (apply Yo; (repeat (first | with_reducible exact Yh | (with_reducible apply Yd; (repeat (first | with_reducible exact Ye | with_reducible apply Yc)))))) | refine zgd ?_ | (refine zgf ?_ ?_ <;> intro _ <;> try (exfalso; omega)) | fail)
    apply Xq; exact rfl; exact ⟨rfl, rfl⟩
def bdP (b : Nat) (p : Value) (A : Option Addr) (cap : Nat) (l : List UInt8) (H : List HP) : List HP := blk b (.cells #[p, .slice A l.length cap] 132 (0, 0)) :: sl 5 1 A l.length cap (Lib.byteCells l) :: H
set_option maxRecDepth 10000 in
theorem VE (b : Nat) (p : Value) (hp : p = .pointer none ∨ p = .pointer (some ⟨b, 0, none⟩)) (A : Option Addr) (cap : Nat) (l s : List UInt8) (hl : l.length + s.length ≤ 1000000) {B : Nat} {w0 : World} {H : List HP} {w : World} (hw : St B w0 (bdP b p A cap l H) w) :
    Calls Tryz.prog 76 [.pointer (some ⟨b, 0, none⟩), strV s].toArray w (Post B w0 fun u K => u = .tuple #[.int .i64 s.length, .nilIface] ∧ ∃ A' cap', K = bdP b (.pointer (some ⟨b, 0, none⟩)) A' cap' (l ++ s) H) := by
  have hs : (⟨s.toArray⟩ : ByteArray).size = s.length := by simp [ByteArray.size]
  refine Yf Tryz.func76 Tryz.ntmps76 rfl rfl hw ?_
  unfold bdP
  repeat' (first | (apply zg7; first | (refine zs15 ?_ ?_ <;> intro _ <;> try (exfalso; omega)) | (refine zs21 ?_ ?_ <;> intro _ _ <;> try (exfalso; omega)) | (refine zs23 ?_ ?_ <;> intro _) | refine zs64 ?_) | (apply zg8; first | (refine zs16 ?_ ?_ <;> intro _ <;> try (exfalso; omega)) | (refine zs22 ?_ ?_ <;> intro _ _ <;> try (exfalso; omega)) | (refine zs24 ?_ ?_ <;> intro _) | refine zs63 ?_) | (apply zg12; first | (refine zs29 ?_; intro _ _)) | (apply zg13; first | refine zs30 ?_ | (refine zs33 ?_; intro _ _)) | (apply zg14; first | refine zs31 ?_ | (refine zs34 ?_; intro _ _)) | (apply zg15; first | refine zs32 ?_ | (refine zs35 ?_; intro _ _)) | (apply zg21; first | (refine zs49 ?_; intro _ _)) | (apply zg23; first | (refine zs52 ?_; intro _) | (refine zs53 ?_; intro _)) | (apply zg24; first | (refine zs54 ?_; intro _)) | (apply zg26; first | (refine zs56 ?_; intro _)) | (apply zg29; first | (apply Yj; exact za ; exact rfl) | (apply Ym; exact za ; exact rfl)) | (apply Yi; (repeat (first | with_reducible exact Yh | (with_reducible apply Yd; (repeat (first | with_reducible exact Ye | with_reducible apply Yc)))))) | apply (zs91 ?_ ?_) | (apply Yo; (repeat (first | with_reducible exact Yh | (with_reducible apply Yd; (repeat (first | with_reducible exact Ye | with_reducible apply Yc)))))) | refine zgd ?_ | (refine zgf ?_ ?_ <;> intro _ <;> try (exfalso; omega)) | fail)
  apply Yr _ Yl3
  exact za
  exact rfl
  exact fun _ hw => (QR b p _ hp (hw))
  rintro _ _ ⟨rfl, rfl⟩
  repeat' (first | (apply Yck T (e := 5); exact rfl; exact rfl; exact rfl; kernel_rfl; exact rfl; exact rfl; (intro _ _; exact zd); (rw [hs]; omega); intro A' cap') | (apply zg7; first | (refine zs15 ?_ ?_ <;> intro _ <;> try (exfalso; omega)) | (refine zs21 ?_ ?_ <;> intro _ _ <;> try (exfalso; omega)) | (refine zs23 ?_ ?_ <;> intro _) | refine zs64 ?_) | (apply zg8; first | (refine zs16 ?_ ?_ <;> intro _ <;> try (exfalso; omega)) | (refine zs22 ?_ ?_ <;> intro _ _ <;> try (exfalso; omega)) | (refine zs24 ?_ ?_ <;> intro _) | refine zs63 ?_) | (apply zg12; first | (refine zs29 ?_; intro _ _)) | (apply zg13; first | refine zs30 ?_ | (refine zs33 ?_; intro _ _)) | (apply zg14; first | refine zs31 ?_ | (refine zs34 ?_; intro _ _)) | (apply zg15; first | refine zs32 ?_ | (refine zs35 ?_; intro _ _)) | (apply zg21; first | (refine zs49 ?_; intro _ _)) | (apply zg23; first | (refine zs52 ?_; intro _) | (refine zs53 ?_; intro _)) | (apply zg24; first | (refine zs54 ?_; intro _)) | (apply zg26; first | (refine zs56 ?_; intro _)) | (apply zg29; first | (apply Yj; exact za ; exact rfl) | (apply Ym; exact za ; exact rfl)) | (apply Yi; (repeat (first | with_reducible exact Yh | (with_reducible apply Yd; (repeat (first | with_reducible exact Ye | with_reducible apply Yc)))))) | apply (zs91 ?_ ?_) | (apply Yo; (repeat (first | with_reducible exact Yh | (with_reducible apply Yd; (repeat (first | with_reducible exact Ye | with_reducible apply Yc)))))) | refine zgd ?_ | (refine zgf ?_ ?_ <;> intro _ <;> try (exfalso; omega)) | fail)
  have e1 : Lib.byteCells l ++ Lib.strCells ⟨s.toArray⟩ = Lib.byteCells (l ++ s) := by
    unfold Lib.byteCells Lib.strCells
    rw [List.map_append]
  have e2 : l.length + (⟨s.toArray⟩ : ByteArray).size = (l ++ s).length := by rw [hs, List.length_append]
  apply Yt; exact rfl; exact rfl; exact rfl
  refine ⟨by rw [hs], A', cap', ?_⟩
  rw [e1, e2]
theorem Ylt {b : Nat} {p : Value} {A : Option Addr} {cap : Nat} {l : List UInt8} {B : Nat} {w0 w : World} {H : List HP} (hp : p = .pointer none ∨ p = .pointer (some ⟨b, 0, none⟩)) (hw : St B w0 (bdP b p A cap l H) w) : Lib.IsBuilder 132 5 B b (Lib.byteCells l) w := by
  obtain ⟨_, _, S1, S2, k1, k2, k3, ⟨k4, k5⟩, S3, S4, j1, j2, j3, ⟨⟨j4, j5⟩, j6⟩, j7⟩ := hw
  have hl : (Lib.byteCells l).length = l.length := by unfold Lib.byteCells; rw [List.length_map]
  have hat : Lib.BuilderAt 132 5 B b p (Lib.byteCells l) w := by
    refine ⟨(k1 b k4).1, .slice A l.length cap, k5, ⟨by rw [hl]; omega, ?_⟩, ?_⟩
    · rw [hl]
      rcases j5 with j5 | ⟨g, c, cur, e1, e2, e3⟩
      · exact .inl j5
      · refine .inr ⟨g, c, cur, e1, ?_, e3⟩
        injection e1 with e1
        exact (k2 g (j1 g (j6 _ e1))).1
    · intro e
      cases A with
      | none => cases e
      | some a =>
        simp only [Value.ownBlock, Option.some.injEq] at e
        have := j6 a rfl
        rw [e] at this
        exact k3 b k4 (j1 b this)
  rcases hp with rfl | rfl
  · exact .inl hat
  · exact .inr hat
theorem OR {b : Nat} {p : Value} {A : Option Addr} {cap : Nat} {l : List UInt8} {B : Nat} {w0 w : World} {H : List HP} (hp : p = .pointer none ∨ p = .pointer (some ⟨b, 0, none⟩)) (hw : St B w0 (bdP b p A cap l H) w) :
    Calls Tryz.prog 78 [.pointer (some ⟨b, 0, none⟩)].toArray w (Post B w0 fun v K => v = strV l ∧ K = []) := by
  refine (Tryz.Builder_String_any B b l w (Ylt hp hw) hw.le).mono ?_
  rintro e w' ⟨rfl, hb⟩
  exact ⟨_, [], rfl, ⟨hw.below.trans hb, Nat.le_trans hw.le hb.size, trivial⟩, rfl, rfl⟩
theorem Yai {n : Int} (h : 0 ≤ n ∧ n < 10000) : (Lib.itoa n).length ≤ 4 := by
  rw [J0 h.1]; exact Qe (by omega)
theorem Wk {w : List UInt8} : ∀ {l : List Int}, (∀ n ∈ l, 0 ≤ n ∧ n < 10000) → (YO w l).length ≤ w.length + 5 * l.length
  | [], _ => by simp [YO]
  | n :: l, h => by
    have ih := Wk (w := w) (l := l) fun m hm => h m (List.mem_cons_of_mem _ hm)
    have h1 := Yai (h n List.mem_cons_self)
    unfold YO at ih ⊢
    simp only [List.flatMap_cons, List.length_append, List.length_cons] at ih ⊢
    omega
theorem Ybv (w : List UInt8) (l : List Int) (n : Int) : YO w (l ++ [n]) = YO w l ++ ([32] ++ Lib.itoa n) := by
  unfold YO; simp
set_option maxRecDepth 10000 in
theorem Yb3 (word : List UInt8) (l : List Int) (h : ∀ n ∈ l, 0 ≤ n ∧ n < 10000) (h5 : l.length ≤ 100) (hwd : word.length ≤ 100) {A : Option Addr} {cap B : Nat} {w0 : World} {H : List HP} {w : World} (ht : TabsB B w0) (hr : Rd B w0 H A (l.flatMap numF)) (hw : St B w0 H w) :
    Calls Tryz.prog 104 [strV word, .slice A l.length cap].toArray w (Post B w0 fun v K => v = strV (XP word l) ∧ K = H) := by
  refine Yf Tryz.func104 Tryz.ntmps104 rfl rfl hw ?_
  repeat' (first | (apply zg7; first | (refine zs15 ?_ ?_ <;> intro _ <;> try (exfalso; omega)) | (refine zs21 ?_ ?_ <;> intro _ _ <;> try (exfalso; omega)) | (refine zs23 ?_ ?_ <;> intro _) | refine zs64 ?_) | (apply zg8; first | (refine zs16 ?_ ?_ <;> intro _ <;> try (exfalso; omega)) | (refine zs22 ?_ ?_ <;> intro _ _ <;> try (exfalso; omega)) | (refine zs24 ?_ ?_ <;> intro _) | refine zs63 ?_) | (apply zg12; first | (refine zs29 ?_; intro _ _)) | (apply zg13; first | refine zs30 ?_ | (refine zs33 ?_; intro _ _)) | (apply zg14; first | refine zs31 ?_ | (refine zs34 ?_; intro _ _)) | (apply zg15; first | refine zs32 ?_ | (refine zs35 ?_; intro _ _)) | (apply zg21; first | (refine zs49 ?_; intro _ _)) | (apply zg23; first | (refine zs52 ?_; intro _) | (refine zs53 ?_; intro _)) | (apply zg24; first | (refine zs54 ?_; intro _)) | (apply zg26; first | (refine zs56 ?_; intro _)) | (apply zg29; first | (apply Yj; exact za ; exact rfl) | (apply Ym; exact za ; exact rfl)) | (apply Yi; (repeat (first | with_reducible exact Yh | (with_reducible apply Yd; (repeat (first | with_reducible exact Ye | with_reducible apply Yc)))))) | apply (zs91 ?_ ?_) | (apply Yo; (repeat (first | with_reducible exact Yh | (with_reducible apply Yd; (repeat (first | with_reducible exact Ye | with_reducible apply Yc)))))) | refine zgd ?_ | (refine zgf ?_ ?_ <;> intro _ <;> try (exfalso; omega)) | fail)
  refine Yn (fun (i : Nat) => [(9, .int .i64 i), (8, .int .i64 l.length), (7, .slice A l.length cap), (0, strV (YO word (l.take i)))]) (fun _ => H) (fun i => i ≤ l.length) (fun i => l.length - i) 0 (Nat.zero_le _) ?_ (fun w hw => hw) ?_
  · have e0 : YO word (l.take 0) = word := by simp [YO]
    rw [e0]
    exact zu
  intro i hi K hK
  have hbl := Wk (w := word) (l := l.take i) fun n hn => h n (List.mem_of_mem_take hn)
  have hlt0 : (l.take i).length ≤ 100 := by rw [List.length_take]; omega
  by_cases hlt : i < l.length
  · obtain ⟨n, hn⟩ : ∃ n, l[i]? = some n := ⟨_, List.getElem?_eq_getElem hlt⟩
    have hnb := h n (List.mem_of_getElem? hn)
    have hil := Yai hnb
    repeat' (first | ((first | apply Ya YbC | apply Yb YbC); exact za; exact rfl; exact fun _ hw => (WZ n (by omega) (by omega) ht hw)) | (apply VR [32] (Lib.itoa n); exact rfl; exact rfl; exact rfl; (show 1 + _ ≤ _; omega)) | (apply VR (YO word (l.take i)) ([32] ++ Lib.itoa n); exact rfl; exact rfl; exact rfl; (rw [List.length_append]; show _ + (1 + _) ≤ _; omega)) | (apply zg7; first | (refine zs15 ?_ ?_ <;> intro _ <;> try (exfalso; omega)) | (refine zs21 ?_ ?_ <;> intro _ _ <;> try (exfalso; omega)) | (refine zs23 ?_ ?_ <;> intro _) | refine zs64 ?_) | (apply zg8; first | (refine zs16 ?_ ?_ <;> intro _ <;> try (exfalso; omega)) | (refine zs22 ?_ ?_ <;> intro _ _ <;> try (exfalso; omega)) | (refine zs24 ?_ ?_ <;> intro _) | refine zs63 ?_) | (apply zg12; first | (refine zs29 ?_; intro _ _)) | (apply zg13; first | refine zs30 ?_ | (refine zs33 ?_; intro _ _)) | (apply zg14; first | refine zs31 ?_ | (refine zs34 ?_; intro _ _)) | (apply zg15; first | refine zs32 ?_ | (refine zs35 ?_; intro _ _)) | (apply zg21; first | (refine zs49 ?_; intro _ _)) | (apply zg23; first | (refine zs52 ?_; intro _) | (refine zs53 ?_; intro _)) | (apply zg24; first | (refine zs54 ?_; intro _)) | (apply zg26; first | (refine zs56 ?_; intro _)) | (apply zg29; first | (apply Yj; exact za ; exact rfl) | (apply Ym; exact za ; exact rfl)) | (apply Yi; (repeat (first | with_reducible exact Yh | (with_reducible apply Yd; (repeat (first | with_reducible exact Ye | with_reducible apply Yc)))))) | apply (zs91 ?_ ?_) | (apply Yo; (repeat (first | with_reducible exact Yh | (with_reducible apply Yd; (repeat (first | with_reducible exact Ye | with_reducible apply Yc)))))) | refine zgd ?_ | (refine zgf ?_ ?_ <;> intro _ <;> try (exfalso; omega)) | fail)
    apply hK (i + 1)
    · show i + 1 ≤ l.length
      omega
    · omega
    · rw [List.take_add_one, hn, Option.toList_some, Ybv]
      exact zu
    · exact fun w hw => hw
  · skip
    repeat' (first | (apply VR (YO word (l.take i)) [10]; exact rfl; exact rfl; exact rfl; (show _ + 1 ≤ _; omega)) | (apply zg7; first | (refine zs15 ?_ ?_ <;> intro _ <;> try (exfalso; omega)) | (refine zs21 ?_ ?_ <;> intro _ _ <;> try (exfalso; omega)) | (refine zs23 ?_ ?_ <;> intro _) | refine zs64 ?_) | (apply zg8; first | (refine zs16 ?_ ?_ <;> intro _ <;> try (exfalso; omega)) | (refine zs22 ?_ ?_ <;> intro _ _ <;> try (exfalso; omega)) | (refine zs24 ?_ ?_ <;> intro _) | refine zs63 ?_) | (apply zg12; first | (refine zs29 ?_; intro _ _)) | (apply zg13; first | refine zs30 ?_ | (refine zs33 ?_; intro _ _)) | (apply zg14; first | refine zs31 ?_ | (refine zs34 ?_; intro _ _)) | (apply zg15; first | refine zs32 ?_ | (refine zs35 ?_; intro _ _)) | (apply zg21; first | (refine zs49 ?_; intro _ _)) | (apply zg23; first | (refine zs52 ?_; intro _) | (refine zs53 ?_; intro _)) | (apply zg24; first | (refine zs54 ?_; intro _)) | (apply zg26; first | (refine zs56 ?_; intro _)) | (apply zg29; first | (apply Yj; exact za ; exact rfl) | (apply Ym; exact za ; exact rfl)) | (apply Yi; (repeat (first | with_reducible exact Yh | (with_reducible apply Yd; (repeat (first | with_reducible exact Ye | with_reducible apply Yc)))))) | apply (zs91 ?_ ?_) | (apply Yo; (repeat (first | with_reducible exact Yh | (with_reducible apply Yd; (repeat (first | with_reducible exact Ye | with_reducible apply Yc)))))) | refine zgd ?_ | (refine zgf ?_ ?_ <;> intro _ <;> try (exfalso; omega)) | fail)
    apply Yg; exact rfl; exact rfl
    rw [show i = l.length by omega, List.take_length]
    exact ⟨rfl, rfl⟩
def Zo (s : Sch) (i : Nat) : List UInt8 := XP wordS [s.len, s.off] ++ (s.cells.take i).flatMap fun c => XP wordC (nums c)
theorem OX {s : Sch} {i : Nat} (h : i < s.cells.length) : Zo s (i + 1) = Zo s i ++ XP wordC (nums (Yp s i)) := by
  unfold Zo
  rw [List.take_add_one, YH h, Option.toList_some, List.flatMap_append, List.append_assoc]
  simp
theorem Zk {w : List UInt8} {l : List Int} (h : ∀ n ∈ l, 0 ≤ n ∧ n < 10000) : (XP w l).length ≤ w.length + 5 * l.length + 1 := by
  unfold XP
  have := Wk (w := w) h
  rw [List.length_append]
  show _ + 1 ≤ _
  omega
theorem YaV {s : Sch} (h : Frm s) : ∀ i, i ≤ s.cells.length → (Zo s i).length ≤ 100 + 40 * i
  | 0, _ => by
    have h1 := Zk (w := wordS) (WX h).1
    unfold Zo
    simp only [List.take_zero, List.flatMap_nil, List.append_nil]
    have : wordS.length = 8 := rfl
    simp only [List.length_cons, List.length_nil] at h1
    omega
  | i + 1, hi => by
    have ih := YaV h i (by omega)
    have h1 := Zk (w := wordC) ((WX h).2 _ (WM (s := s) (i := i) (by omega)))
    rw [OX (by omega), List.length_append]
    have : wordC.length = 4 := rfl
    have h2 : (nums (Yp s i)).length = 5 := rfl
    omega
set_option maxRecDepth 10000 in
set_option maxHeartbeats 1000000 in
theorem Yjc (s : SchM) {B : Nat} {w0 : World} {w : World} (ht : TabsB B w0) (hr : Rd B w0 [] s.A (s.cells.flatMap celF)) (hl : s.cells.length ≤ 1000000000000) (hw : St B w0 [] w) :
    Calls Tryz.prog 47 [s.val].toArray w (Post B w0 fun v _ => v = .tuple #[strV (ZY s.sch).1, .int .i64 (ZY s.sch).2]) := by
  refine Yf Tryz.func47 Tryz.ntmps47 rfl rfl hw ?_
  have e1 : s.sch.cells = s.cells := rfl
  cases hf : Y7 s.sch with
  | false =>
    repeat' (first | ((first | apply Ya en58 | apply Yb en58); exact za; exact rfl; exact fun _ hw => (JQ (congrArg Value.bool hf) (fun _ hw => JW s hr.cons hl hw) hw)) | (apply zg7; first | (refine zs15 ?_ ?_ <;> intro _ <;> try (exfalso; omega)) | (refine zs21 ?_ ?_ <;> intro _ _ <;> try (exfalso; omega)) | (refine zs23 ?_ ?_ <;> intro _) | refine zs64 ?_) | (apply zg8; first | (refine zs16 ?_ ?_ <;> intro _ <;> try (exfalso; omega)) | (refine zs22 ?_ ?_ <;> intro _ _ <;> try (exfalso; omega)) | (refine zs24 ?_ ?_ <;> intro _) | refine zs63 ?_) | (apply zg12; first | (refine zs29 ?_; intro _ _)) | (apply zg13; first | refine zs30 ?_ | (refine zs33 ?_; intro _ _)) | (apply zg14; first | refine zs31 ?_ | (refine zs34 ?_; intro _ _)) | (apply zg15; first | refine zs32 ?_ | (refine zs35 ?_; intro _ _)) | (apply zg21; first | (refine zs49 ?_; intro _ _)) | (apply zg23; first | (refine zs52 ?_; intro _) | (refine zs53 ?_; intro _)) | (apply zg24; first | (refine zs54 ?_; intro _)) | (apply zg26; first | (refine zs56 ?_; intro _)) | (apply zg29; first | (apply Yj; exact za ; exact rfl) | (apply Ym; exact za ; exact rfl)) | (apply Yi; (repeat (first | with_reducible exact Yh | (with_reducible apply Yd; (repeat (first | with_reducible exact Ye | with_reducible apply Yc)))))) | apply (zs91 ?_ ?_) | (apply Yo; (repeat (first | with_reducible exact Yh | (with_reducible apply Yd; (repeat (first | with_reducible exact Ye | with_reducible apply Yc)))))) | refine zgd ?_ | (refine zgf ?_ ?_ <;> intro _ <;> try (exfalso; omega)) | fail)
    apply Yt; exact rfl; exact rfl; exact rfl
    rw [ZY, if_pos hf]
  | true =>
    have hfr := Wq.1 hf
    have hle : s.cells.length ≤ 512 := hfr.few
    have hnm := WX hfr
    have hln1 := Zk (w := wordS) hnm.1
    repeat' (first | ((first | apply Ya en58 | apply Yb en58); exact za; exact rfl; exact fun _ hw => (JQ (congrArg Value.bool hf) (fun _ hw => JW s hr.cons hl hw) hw)) | (apply zg7; first | (refine zs15 ?_ ?_ <;> intro _ <;> try (exfalso; omega)) | (refine zs21 ?_ ?_ <;> intro _ _ <;> try (exfalso; omega)) | (refine zs23 ?_ ?_ <;> intro _) | refine zs64 ?_) | (apply zg8; first | (refine zs16 ?_ ?_ <;> intro _ <;> try (exfalso; omega)) | (refine zs22 ?_ ?_ <;> intro _ _ <;> try (exfalso; omega)) | (refine zs24 ?_ ?_ <;> intro _) | refine zs63 ?_) | (apply zg12; first | (refine zs29 ?_; intro _ _)) | (apply zg13; first | refine zs30 ?_ | (refine zs33 ?_; intro _ _)) | (apply zg14; first | refine zs31 ?_ | (refine zs34 ?_; intro _ _)) | (apply zg15; first | refine zs32 ?_ | (refine zs35 ?_; intro _ _)) | (apply zg21; first | (refine zs49 ?_; intro _ _)) | (apply zg23; first | (refine zs52 ?_; intro _) | (refine zs53 ?_; intro _)) | (apply zg24; first | (refine zs54 ?_; intro _)) | (apply zg26; first | (refine zs56 ?_; intro _)) | (apply zg29; first | (apply Yj; exact za ; exact rfl) | (apply Ym; exact za ; exact rfl)) | (apply Yi; (repeat (first | with_reducible exact Yh | (with_reducible apply Yd; (repeat (first | with_reducible exact Ye | with_reducible apply Yc)))))) | apply (zs91 ?_ ?_) | (apply Yo; (repeat (first | with_reducible exact Yh | (with_reducible apply Yd; (repeat (first | with_reducible exact Ye | with_reducible apply Yc)))))) | refine zgd ?_ | (refine zgf ?_ ?_ <;> intro _ <;> try (exfalso; omega)) | fail)
    rename_i gs gb gl
    have hrl : Rd B w0 [blk gl (.cells #[.int .i64 s.len, .int .i64 s.off] 3 (0, 0)), blk gb (.cells (Value.agg #[.pointer none, .slice none 0 0]).cells 132 (0, 0)), blk gs (.cells #[.int .i64 s.len, .int .i64 s.off, .slice s.A s.cells.length s.cap] 30 (0, 0))] (some ⟨gl, 0, none⟩) ([s.sch.len, s.sch.off].flatMap numF) := Rd.blk (cs := #[.int .i64 s.len, .int .i64 s.off]) (.head _)
    first | apply Ya Ygk | apply Yb Ygk
    exact za
    exact rfl
    exact fun _ hw => (Yb3 wordS [s.sch.len, s.sch.off] hnm.1 (by show 2 ≤ 100; decide) (by decide) ht hrl hw)
    apply Ybq (bdP gb (.pointer none) none 0 [] [blk gs (.cells #[.int .i64 s.len, .int .i64 s.off, .slice s.A s.cells.length s.cap] 30 (0, 0))])
    · unfold bdP
      intro w hw
      have h5 : St B w0 [blk gb (.cells (Value.agg #[.pointer none, .slice none 0 0]).cells 132 (0, 0)), blk gs (.cells #[.int .i64 s.len, .int .i64 s.off, .slice s.A s.cells.length s.cap] 30 (0, 0))] w := by
        revert w
        exact zk
      exact (h5.nilSlice _ _).perm (.swap _ _ _)
    apply Yr _ en76
    exact za
    exact rfl
    exact fun _ hw => (VE gb _ (.inl rfl) none 0 [] (XP wordS [s.sch.len, s.sch.off]) (by simp only [List.length_nil]; have : wordS.length = 8 := rfl; simp only [List.length_cons, List.length_nil] at hln1; omega) (hw))
    rintro _ _ ⟨rfl, A1, cap1, rfl⟩
    unfold bdP
    repeat' (first | (apply zg7; first | (refine zs15 ?_ ?_ <;> intro _ <;> try (exfalso; omega)) | (refine zs21 ?_ ?_ <;> intro _ _ <;> try (exfalso; omega)) | (refine zs23 ?_ ?_ <;> intro _) | refine zs64 ?_) | (apply zg8; first | (refine zs16 ?_ ?_ <;> intro _ <;> try (exfalso; omega)) | (refine zs22 ?_ ?_ <;> intro _ _ <;> try (exfalso; omega)) | (refine zs24 ?_ ?_ <;> intro _) | refine zs63 ?_) | (apply zg12; first | (refine zs29 ?_; intro _ _)) | (apply zg13; first | refine zs30 ?_ | (refine zs33 ?_; intro _ _)) | (apply zg14; first | refine zs31 ?_ | (refine zs34 ?_; intro _ _)) | (apply zg15; first | refine zs32 ?_ | (refine zs35 ?_; intro _ _)) | (apply zg21; first | (refine zs49 ?_; intro _ _)) | (apply zg23; first | (refine zs52 ?_; intro _) | (refine zs53 ?_; intro _)) | (apply zg24; first | (refine zs54 ?_; intro _)) | (apply zg26; first | (refine zs56 ?_; intro _)) | (apply zg29; first | (apply Yj; exact za ; exact rfl) | (apply Ym; exact za ; exact rfl)) | (apply Yi; (repeat (first | with_reducible exact Yh | (with_reducible apply Yd; (repeat (first | with_reducible exact Ye | with_reducible apply Yc)))))) | apply (zs91 ?_ ?_) | (apply Yo; (repeat (first | with_reducible exact Yh | (with_reducible apply Yd; (repeat (first | with_reducible exact Ye | with_reducible apply Yc)))))) | refine zgd ?_ | (refine zgf ?_ ?_ <;> intro _ <;> try (exfalso; omega)) | fail)
    refine Yn (fun (z : Nat × Option Addr × Nat) => [(21, .int .i64 z.1), (20, .int .i64 s.cells.length), (19, .slice s.A s.cells.length s.cap), (4, .pointer (some ⟨gb, 0, none⟩))]) (fun z => bdP gb (.pointer (some ⟨gb, 0, none⟩)) z.2.1 z.2.2 (Zo s.sch z.1) [blk gs (.cells #[.int .i64 s.len, .int .i64 s.off, .slice s.A s.cells.length s.cap] 30 (0, 0))]) (fun z => z.1 ≤ s.cells.length) (fun z => s.cells.length - z.1) (0, A1, cap1) (Nat.zero_le _) ?_ ?_ ?_
    · exact zu
    · have e0 : Zo s.sch 0 = [] ++ XP wordS [s.sch.len, s.sch.off] := by unfold Zo; simp
      rw [e0]
      unfold bdP
      exact fun w hw => hw
    rintro ⟨i, A2, cap2⟩ hi K hK
    dsimp only at hi ⊢
    have htl := YaV hfr i hi
    by_cases hlt : i < s.cells.length
    · have hget : s.cells[i]? = some (Yp s.sch i) := YH (s := s.sch) hlt
      have hnc := hnm.2 _ (WM (s := s.sch) hlt)
      have hln := Zk (w := wordC) hnc
      have hr' : Rd B w0 (bdP gb (.pointer (some ⟨gb, 0, none⟩)) A2 cap2 (Zo s.sch i) [blk gs (.cells #[.int .i64 s.len, .int .i64 s.off, .slice s.A s.cells.length s.cap] 30 (0, 0))]) s.A (s.cells.flatMap celF) := hr.cons.cons.cons
      repeat' (first | ((first | apply Ya YiK | apply Yb YiK); exact za; exact rfl; exact fun _ hw => (Ww _ hw)) | (apply Wd T (e := 3); exact rfl; exact rfl; exact rfl) | (apply zg7; first | (refine zs15 ?_ ?_ <;> intro _ <;> try (exfalso; omega)) | (refine zs21 ?_ ?_ <;> intro _ _ <;> try (exfalso; omega)) | (refine zs23 ?_ ?_ <;> intro _) | refine zs64 ?_) | (apply zg8; first | (refine zs16 ?_ ?_ <;> intro _ <;> try (exfalso; omega)) | (refine zs22 ?_ ?_ <;> intro _ _ <;> try (exfalso; omega)) | (refine zs24 ?_ ?_ <;> intro _) | refine zs63 ?_) | (apply zg12; first | (refine zs29 ?_; intro _ _)) | (apply zg13; first | refine zs30 ?_ | (refine zs33 ?_; intro _ _)) | (apply zg14; first | refine zs31 ?_ | (refine zs34 ?_; intro _ _)) | (apply zg15; first | refine zs32 ?_ | (refine zs35 ?_; intro _ _)) | (apply zg21; first | (refine zs49 ?_; intro _ _)) | (apply zg23; first | (refine zs52 ?_; intro _) | (refine zs53 ?_; intro _)) | (apply zg24; first | (refine zs54 ?_; intro _)) | (apply zg26; first | (refine zs56 ?_; intro _)) | (apply zg29; first | (apply Yj; exact za ; exact rfl) | (apply Ym; exact za ; exact rfl)) | (apply Yi; (repeat (first | with_reducible exact Yh | (with_reducible apply Yd; (repeat (first | with_reducible exact Ye | with_reducible apply Yc)))))) | apply (zs91 ?_ ?_) | (apply Yo; (repeat (first | with_reducible exact Yh | (with_reducible apply Yd; (repeat (first | with_reducible exact Ye | with_reducible apply Yc)))))) | refine zgd ?_ | (refine zgf ?_ ?_ <;> intro _ <;> try (exfalso; omega)) | fail)
      rename_i gc ga
      have hra : ∀ X, Rd B w0 (blk ga (.cells (celF (Yp s.sch i)).toArray 183 (0, 0)) :: X) (some ⟨ga, 0, none⟩) ((nums (Yp s.sch i)).flatMap numF) := fun X => Rd.blk (cs := (celF (Yp s.sch i)).toArray) (.head _)
      first | apply Ya Ygk | apply Yb Ygk
      exact za
      exact rfl
      exact fun _ hw => (Yb3 wordC (nums (Yp s.sch i)) hnc (by show 5 ≤ 100; decide) (by decide) ht (hra _) hw)
      apply Ybq (bdP gb (.pointer (some ⟨gb, 0, none⟩)) A2 cap2 (Zo s.sch i) [blk gs (.cells #[.int .i64 s.len, .int .i64 s.off, .slice s.A s.cells.length s.cap] 30 (0, 0))])
      · exact fun w hw => hw.tail.tail
      have h5n : (nums (Yp s.sch i)).length = 5 := rfl
      have h4w : wordC.length = 4 := rfl
      apply Yr _ en76
      exact za
      exact rfl
      exact fun _ hw => (VE gb _ (.inr rfl) A2 cap2 (Zo s.sch i) (XP wordC (nums (Yp s.sch i))) (by omega) (hw))
      rintro _ _ ⟨rfl, A3, cap3, rfl⟩
      rw [← OX hlt]
      repeat' (first | (apply zg7; first | (refine zs15 ?_ ?_ <;> intro _ <;> try (exfalso; omega)) | (refine zs21 ?_ ?_ <;> intro _ _ <;> try (exfalso; omega)) | (refine zs23 ?_ ?_ <;> intro _) | refine zs64 ?_) | (apply zg8; first | (refine zs16 ?_ ?_ <;> intro _ <;> try (exfalso; omega)) | (refine zs22 ?_ ?_ <;> intro _ _ <;> try (exfalso; omega)) | (refine zs24 ?_ ?_ <;> intro _) | refine zs63 ?_) | (apply zg12; first | (refine zs29 ?_; intro _ _)) | (apply zg13; first | refine zs30 ?_ | (refine zs33 ?_; intro _ _)) | (apply zg14; first | refine zs31 ?_ | (refine zs34 ?_; intro _ _)) | (apply zg15; first | refine zs32 ?_ | (refine zs35 ?_; intro _ _)) | (apply zg21; first | (refine zs49 ?_; intro _ _)) | (apply zg23; first | (refine zs52 ?_; intro _) | (refine zs53 ?_; intro _)) | (apply zg24; first | (refine zs54 ?_; intro _)) | (apply zg26; first | (refine zs56 ?_; intro _)) | (apply zg29; first | (apply Yj; exact za ; exact rfl) | (apply Ym; exact za ; exact rfl)) | (apply Yi; (repeat (first | with_reducible exact Yh | (with_reducible apply Yd; (repeat (first | with_reducible exact Ye | with_reducible apply Yc)))))) | apply (zs91 ?_ ?_) | (apply Yo; (repeat (first | with_reducible exact Yh | (with_reducible apply Yd; (repeat (first | with_reducible exact Ye | with_reducible apply Yc)))))) | refine zgd ?_ | (refine zgf ?_ ?_ <;> intro _ <;> try (exfalso; omega)) | fail)
      apply hK (i + 1, A3, cap3)
      · show i + 1 ≤ s.cells.length
        omega
      · dsimp only; omega
      · exact zu
      · exact fun w hw => hw
    · repeat' (first | (apply zg7; first | (refine zs15 ?_ ?_ <;> intro _ <;> try (exfalso; omega)) | (refine zs21 ?_ ?_ <;> intro _ _ <;> try (exfalso; omega)) | (refine zs23 ?_ ?_ <;> intro _) | refine zs64 ?_) | (apply zg8; first | (refine zs16 ?_ ?_ <;> intro _ <;> try (exfalso; omega)) | (refine zs22 ?_ ?_ <;> intro _ _ <;> try (exfalso; omega)) | (refine zs24 ?_ ?_ <;> intro _) | refine zs63 ?_) | (apply zg12; first | (refine zs29 ?_; intro _ _)) | (apply zg13; first | refine zs30 ?_ | (refine zs33 ?_; intro _ _)) | (apply zg14; first | refine zs31 ?_ | (refine zs34 ?_; intro _ _)) | (apply zg15; first | refine zs32 ?_ | (refine zs35 ?_; intro _ _)) | (apply zg21; first | (refine zs49 ?_; intro _ _)) | (apply zg23; first | (refine zs52 ?_; intro _) | (refine zs53 ?_; intro _)) | (apply zg24; first | (refine zs54 ?_; intro _)) | (apply zg26; first | (refine zs56 ?_; intro _)) | (apply zg29; first | (apply Yj; exact za ; exact rfl) | (apply Ym; exact za ; exact rfl)) | (apply Yi; (repeat (first | with_reducible exact Yh | (with_reducible apply Yd; (repeat (first | with_reducible exact Ye | with_reducible apply Yc)))))) | apply (zs91 ?_ ?_) | (apply Yo; (repeat (first | with_reducible exact Yh | (with_reducible apply Yd; (repeat (first | with_reducible exact Ye | with_reducible apply Yc)))))) | refine zgd ?_ | (refine zgf ?_ ?_ <;> intro _ <;> try (exfalso; omega)) | fail)
      apply Yr _ en78
      exact za
      exact rfl
      exact fun _ hw => (OR (l := Zo s.sch i) (.inr rfl) (hw))
      rintro _ _ ⟨rfl, rfl⟩
      repeat' (first | (apply zg7; first | (refine zs15 ?_ ?_ <;> intro _ <;> try (exfalso; omega)) | (refine zs21 ?_ ?_ <;> intro _ _ <;> try (exfalso; omega)) | (refine zs23 ?_ ?_ <;> intro _) | refine zs64 ?_) | (apply zg8; first | (refine zs16 ?_ ?_ <;> intro _ <;> try (exfalso; omega)) | (refine zs22 ?_ ?_ <;> intro _ _ <;> try (exfalso; omega)) | (refine zs24 ?_ ?_ <;> intro _) | refine zs63 ?_) | (apply zg12; first | (refine zs29 ?_; intro _ _)) | (apply zg13; first | refine zs30 ?_ | (refine zs33 ?_; intro _ _)) | (apply zg14; first | refine zs31 ?_ | (refine zs34 ?_; intro _ _)) | (apply zg15; first | refine zs32 ?_ | (refine zs35 ?_; intro _ _)) | (apply zg21; first | (refine zs49 ?_; intro _ _)) | (apply zg23; first | (refine zs52 ?_; intro _) | (refine zs53 ?_; intro _)) | (apply zg24; first | (refine zs54 ?_; intro _)) | (apply zg26; first | (refine zs56 ?_; intro _)) | (apply zg29; first | (apply Yj; exact za ; exact rfl) | (apply Ym; exact za ; exact rfl)) | (apply Yi; (repeat (first | with_reducible exact Yh | (with_reducible apply Yd; (repeat (first | with_reducible exact Ye | with_reducible apply Yc)))))) | apply (zs91 ?_ ?_) | (apply Yo; (repeat (first | with_reducible exact Yh | (with_reducible apply Yd; (repeat (first | with_reducible exact Ye | with_reducible apply Yc)))))) | refine zgd ?_ | (refine zgf ?_ ?_ <;> intro _ <;> try (exfalso; omega)) | fail)
      apply Yt; exact rfl; exact rfl; exact rfl
      rw [ZY, if_neg (by simp [hf])]
      rw [show i = s.sch.cells.length from (by have : s.sch.cells.length = s.cells.length := rfl; omega), show Zo s.sch s.sch.cells.length = YjA s.sch from (by unfold Zo YjA; rw [List.take_length])]
theorem Yaz (s : SchM) {B : Nat} {w0 : World} {H : List HP} {w : World} (ht : TabsB B w0) (hr : Rd B w0 H s.A (s.cells.flatMap celF)) (hl : s.cells.length ≤ 1000000000000) (hw : St B w0 H w) :
    Calls Tryz.prog 47 [s.val].toArray w (Post B w0 fun v K => v = .tuple #[strV (ZY s.sch).1, .int .i64 (ZY s.sch).2] ∧ K = H) :=
  Ou hw (Yjc s (ht.here hw) (hr.here hw) hl (St.start w))
open Go.RowKit Go.Eng Go.Nw
section
variable {m : Eng.Mode} {n : Shp} {B d : Nat} {w0 : World} {ops : Array Oper} {Q : Exit → Act → World → Prop} {rest : List Oper} {env : Env} {H : List HP} {ty : TypeId} {pos : String} {after : Array Edge} {x y : Operand}
theorem YeR {a b : List UInt8} : (⟨a.toArray⟩ : ByteArray) = ⟨b.toArray⟩ ↔ a = b := by
  constructor
  · intro h
    have h1 := congrArg (fun s : ByteArray => s.data.toList) h
    simpa using h1
  · rintro rfl; rfl
theorem Ycx (a b : List UInt8) (hx : evo env x = some (strV a)) (hy : evo env y = some (strV b)) (hn : Nat.ble (d + 1) n.k = true) (h1 : a ≠ b → VL Tryz.prog m n B w0 ops Q rest ((d, .bool true) :: env) H) (h2 : a = b → VL Tryz.prog m n B w0 ops Q rest ((d, .bool false) :: env) H) :
    VL Tryz.prog m n B w0 ops Q (⟨some d, .binOp .neq 9 x y 9, ty, pos, after, none⟩ :: rest) env H :=
  Yct hx hy hn (fun h => h1 fun e => h (YeR.2 e)) (fun h => h2 (YeR.1 h))
theorem YjN (hx : evo env x = some .nilIface) (hn : Nat.ble (d + 1) n.k = true) (h : VL Tryz.prog m n B w0 ops Q rest ((d, .bool false) :: env) H) :
    VL Tryz.prog m n B w0 ops Q (⟨some d, .binOp .neq 134 x (.const .nilIface) 134, ty, pos, after, none⟩ :: rest) env H :=
  YK (y := .const .nilIface) hx rfl hn (fun w => by simp [eqGuard]) (fun w => run_neq_nil_nil (P := Tryz.prog) (w := w) 134 (by kernel_rfl)) h
theorem YjO {t : TypeId} {p : Value} (hx : evo env x = some (.iface t p)) (hn : Nat.ble (d + 1) n.k = true) (h : VL Tryz.prog m n B w0 ops Q rest ((d, .bool true) :: env) H) :
    VL Tryz.prog m n B w0 ops Q (⟨some d, .binOp .neq 134 x (.const .nilIface) 134, ty, pos, after, none⟩ :: rest) env H :=
  YK (y := .const .nilIface) hx rfl hn (fun w => by simp [eqGuard]) (fun w => run_neq_held_nil (P := Tryz.prog) (w := w) 134 t p (by kernel_rfl)) h
end
abbrev nrs (A : Option Addr) (cap : Nat) (l : List Int) : HP := sl 3 1 A l.length cap (l.flatMap numF)
theorem ZQ (A : Option Addr) (cap : Nat) (l : List Int) (z : Int) : sl 3 1 A (l.length + 1) cap (l.flatMap numF ++ #[Value.int .i64 z].toList) = nrs A cap (l ++ [z]) := by simp [nrs, List.flatMap_append, numF]
theorem Yce (ps : List (List UInt8)) : (ps.map strV) = ps.flatMap strL := by induction ps with | nil => rfl | cons a l ih => simp [strL, List.flatMap_cons, ih]
theorem Yhx {ws : List (List UInt8)} (h : ∀ w ∈ ws, 0 ≤ numW w) : J4 ws = some (ws.map numW) := by
  unfold J4
  rw [if_neg]
  rw [Bool.not_eq_true, List.any_eq_false]
  intro w hw
  have := h w hw
  simp; omega
theorem Yhw {ws : List (List UInt8)} {w : List UInt8} (hw : w ∈ ws) (h : numW w < 0) : J4 ws = none := by
  unfold J4
  rw [if_pos]
  rw [List.any_eq_true]
  exact ⟨w, hw, by simpa using h⟩
theorem YcL {c : UInt8} : ∀ {l : List UInt8}, ∀ p ∈ cutC c l, p.length ≤ l.length
  | [], p, hp => by
    simp only [cutC, List.mem_singleton] at hp
    subst hp; simp
  | x :: l, p, hp => by
    have ih := YcL (c := c) (l := l)
    unfold cutC at hp
    split at hp
    · rcases List.mem_cons.1 hp with rfl | hp
      · simp
      · have := ih p hp; simp only [List.length_cons]; omega
    · cases hc : cutC c l with
      | nil => rw [hc] at hp; simp at hp; subst hp; simp
      | cons q qs =>
        rw [hc] at hp ih
        simp only [List.mem_cons] at hp ih
        rcases hp with rfl | hp
        · have := ih q (.inl rfl); simp only [List.length_cons]; omega
        · have := ih p (.inr hp); simp only [List.length_cons]; omega
def OutR (H : List HP) (r : Option (List Int)) (v : Value) (K : List HP) : Prop :=
  match r with
  | none => v = .tuple #[.slice none 0 0, .bool false] ∧ K = H
  | some x => ∃ A cap, v = .tuple #[.slice A x.length cap, .bool true] ∧ K = nrs A cap x :: H
end Go.Proofs.YtmalhidldgfeoaaGreatDoor
namespace Go.Eng
open Go.RowKit
end Go.Eng
namespace Go.Proofs.YtmalhidldgfeoaaGreatDoor
open Go.RowKit Go.Eng Go.Nw
theorem Xu {f : Nat → Int} : ∀ {r i0 i : Nat}, (∀ k, i0 ≤ k → k < i → f k = 0) → i0 ≤ i → i < i0 + r → f i ≠ 0 → YG f r i0 = ((i : Int), f i)
  | 0, i0, i, _, h1, h2, _ => by omega
  | r + 1, i0, i, h0, h1, h2, h3 => by
    unfold YG
    by_cases e : i0 = i
    · subst e; rw [if_neg h3]
    · rw [if_pos (h0 i0 (Nat.le_refl _) (by omega))]
      exact Xu (fun k hk1 hk2 => h0 k (by omega) hk2) (by omega) (by omega) h3
theorem X7 {f : Nat → Int} {r i0 : Nat} (h : ∀ k, i0 ≤ k → k < i0 + r → f k = 0) : YG f r i0 = (-1, 0) := by
  have h2 := Y3.2 h
  exact Prod.ext (Q4 h2) h2
theorem WQ {c : UInt8} : ∀ l : List UInt8, (cutC c l).length ≤ l.length + 1
  | [] => by simp [cutC]
  | x :: l => by
    have ih := WQ (c := c) l
    unfold cutC
    split
    · simp only [List.length_cons]; omega
    · split
      · simp
      · rename_i h t he
        rw [he] at ih
        simp only [List.length_cons] at ih ⊢
        omega
end Go.Proofs.YtmalhidldgfeoaaGreatDoor
namespace Go.Eng
open Go.ChangeShapes Go.WideShapes Go.ChangeAt Go.RowKit Go.Deep
def Old (W : World) (A : Option Addr) (xs : List Value) : Prop := ∀ j v, xs[j]? = some v → ∃ g o, A = some ⟨g, o, none⟩ ∧ g < W.heap.size ∧ W.cell? ⟨g, o + j, none⟩ = some v
theorem Old.rd {W : World} {H : List HP} {A : Option Addr} {xs : List Value} (h : Old W A xs) : Rd W.heap.size W H A xs := Rd.old h
theorem Yj9 {W : World} {a : Addr} {v : Value} (h : W.cell? a = some v) : a.block < W.heap.size := by
  unfold World.cell? at h
  rcases Nat.lt_or_ge a.block W.heap.size with h1 | h1
  · exact h1
  · rw [Array.getElem?_eq_none h1] at h; cases h
section
variable {H : Type} {enc : TypeId × Value → H} {P : Program} {W : World} {held : Bool}
theorem Yhz {α : Type} {f : α → List Value} {good : α → Prop} {t e q : Nat} {fuel : Nat} {A : Option Addr} {len cap : Nat} {x : DataW H × List MemPlace} {spare : Nat → Bool} (ht : P.underlying t = some (.slice e)) (hc : P.cellsOf e = q) (h0 : 0 < q)
    (hel : ∀ n cs y, cs.length = q → DataW.trod enc P W 0 spare held n e cs = some y → ∃ a, cs = f a ∧ good a) (h : DataW.trod enc P W 0 spare held fuel t [.slice A len cap] = some x) :
    ∃ l : List α, l.length = len ∧ Old W A (l.flatMap f) ∧ (∀ a ∈ l, good a) ∧ len ≤ maxLen ∧ (∀ a ∈ l, (f a).length = q) := by
  rcases open_slice ht h with ⟨h1, _⟩ | ⟨a, len', cap', m, n, D, Pl, h1, _, hl, hm, hmm, hxx, hx⟩
  · injection h1 with h1 _
    injection h1 with h1 h2 h3
    subst h1 h2 h3
    exact ⟨[], rfl, (fun j v hv => by simp at hv), (fun a ha => by cases ha), Nat.zero_le _, (fun a ha => by cases ha)⟩
  · injection h1 with h1 _
    injection h1 with h1 h2 h3
    subst h1 h2 h3
    have hle : len ≤ m := by rw [hmm]; split <;> omega
    rw [hc] at hx
    have key : ∀ i, i < len → ∃ b : α, W.cells? 0 (a.add (i * q)) q = some (f b) ∧ good b := fun i hi => by
      obtain ⟨cs', h2, h3⟩ := hx i (by omega)
      obtain ⟨_, h5, _⟩ := World.cells?_some h2
      obtain ⟨b, rfl, hb⟩ := hel n cs' _ h5 h3
      exact ⟨b, h2, hb⟩
    obtain ⟨l, hlen, hl2⟩ : ∃ l : List α, l.length = len ∧ ∀ i b, l[i]? = some b → W.cells? 0 (a.add (i * q)) q = some (f b) ∧ good b := by
      clear hx hmm hle h hl hm hxx
      induction len with
      | zero => exact ⟨[], rfl, fun i b hb => by simp at hb⟩
      | succ k ih =>
        obtain ⟨l, h2, h3⟩ := ih (fun i hi => key i (by omega))
        obtain ⟨b, h4⟩ := key k (by omega)
        refine ⟨l ++ [b], by simp [h2], fun i c hc => ?_⟩
        by_cases hi : i < l.length
        · rw [List.getElem?_append_left hi] at hc; exact h3 i c hc
        · rw [List.getElem?_append_right (by omega)] at hc
          have hi2 : i - l.length = 0 := by
            have := (List.getElem?_eq_some_iff.1 hc).1
            simp at this; omega
          rw [hi2] at hc
          obtain rfl : b = c := by simpa using hc
          obtain rfl : i = k := by omega
          exact h4
    have hfq : ∀ b ∈ l, (f b).length = q := fun b hb => by
      obtain ⟨i, hi⟩ := List.getElem?_of_mem hb
      exact (World.cells?_some (hl2 i b hi).1).2.1
    refine ⟨l, hlen, fun j v hv => ?_, fun b hb => ?_, by omega, hfq⟩
    · have hspl : ∃ i b, l[i]? = some b ∧ ∃ r, j = i * q + r ∧ r < q ∧ (f b)[r]? = some v := by
        clear hlen hl2 key
        induction l generalizing j with
        | nil => simp at hv
        | cons b l ih =>
          rw [List.flatMap_cons] at hv
          have hb := hfq b (by simp)
          by_cases hj : j < q
          · rw [List.getElem?_append_left (by omega)] at hv
            exact ⟨0, b, rfl, j, by omega, hj, hv⟩
          · rw [List.getElem?_append_right (by omega), hb] at hv
            obtain ⟨i, b', h5, r, h6, h7, h8⟩ := ih (fun c hc => hfq c (by simp [hc])) (j - q) hv
            exact ⟨i + 1, b', by simpa using h5, r, by rw [Nat.add_mul]; omega, h7, h8⟩
      obtain ⟨i, b, h5, r, rfl, h7, h8⟩ := hspl
      have h9 := (World.cells?_some (hl2 i b h5).1).2.2 r h7
      rw [h8, add_add] at h9
      obtain ⟨ab, ao, spot⟩ := a
      have hs0 : spot = none := by
        have h10 := World.cell?_spot h9
        unfold Addr.add at h10
        split at h10
        · exact h10
        · rename_i hne
          have hi0 : i < len := by have := (List.getElem?_eq_some_iff.1 h5).1; omega
          have h11 := (World.cells?_some (hl2 0 l[0] (List.getElem?_eq_getElem (by omega))).1).2.2 0 h0
          rw [add_add, Nat.zero_mul, Nat.zero_add] at h11
          have hf0 : ((f l[0])[0]?).isSome = true := by
            rw [List.getElem?_eq_getElem (by rw [hfq _ (List.getElem_mem _)]; exact h0)]; rfl
          cases hf1 : (f l[0])[0]? with
          | none => rw [hf1] at hf0; cases hf0
          | some u =>
            rw [hf1] at h11
            exact World.cell?_spot h11
      subst hs0
      refine ⟨ab, ao, rfl, ?_, ?_⟩
      · have := Yj9 h9
        rw [Addr.add_lit] at this
        exact this
      · rw [Addr.add_lit] at h9
        exact h9
    · obtain ⟨i, hi⟩ := List.getElem?_of_mem hb
      exact (hl2 i b hi).2
end
open Go.ChangeShapes Go.WideShapes Go.ChangeAt Go.RowKit Go.Deep
structure SlM (α : Type) where
  A : Option Addr
  cap : Nat
  xs : List α
def SlM.val {α : Type} (s : SlM α) : Value := .slice s.A s.xs.length s.cap
section
variable {H : Type} {enc : TypeId × Value → H} {P : Program} {W : World} {spare : Nat → Bool} {held : Bool}
def Opn (enc : TypeId × Value → H) (P : Program) (W : World) (spare : Nat → Bool) (held : Bool) (t : TypeId) {α : Type} (f : α → List Value) (good : α → Prop) : Prop :=
  ∀ fuel cs y, DataW.trod enc P W 0 spare held fuel t cs = some y → ∃ a, cs = f a ∧ good a
theorem Vs {t : TypeId} {α β : Type} {f : α → List Value} {good : α → Prop} {f' : β → List Value} {good' : β → Prop} (h : Opn enc P W spare held t f good) (g : α → β) (hf : ∀ a, f a = f' (g a)) (hg : ∀ a, good a → good' (g a)) : Opn enc P W spare held t f' good' := by
  intro fuel cs y hy
  obtain ⟨a, h1, h2⟩ := h fuel cs y hy
  exact ⟨g a, h1.trans (hf a), hg a h2⟩
theorem Yly {t : TypeId} {k : IntKind} (ht : P.underlying t = some (.int k)) : Opn enc P W spare held t (fun z : Int => [Value.int k z]) (fun z => (Lit.int k z).wf = true) := by
  intro fuel cs y hy
  obtain ⟨m, rfl, rfl, hw⟩ := DataW.trod_int ht hy
  exact ⟨m, rfl, hw⟩
structure SlG {α : Type} (W : World) (f : α → List Value) (good : α → Prop) (s : SlM α) : Prop where
  old : Old W s.A (s.xs.flatMap f)
  good : ∀ a ∈ s.xs, good a
  len : s.xs.length ≤ maxLen
  cap : s.xs.length ≤ s.cap
theorem ZR {t e q : TypeId} {α : Type} {f : α → List Value} {good : α → Prop} (ht : P.underlying t = some (.slice e)) (hc : P.cellsOf e = q) (h0 : 0 < q) (h : Opn enc P W spare held e f good) : Opn enc P W spare held t (fun s : SlM α => [s.val]) (SlG W f good) := by
  intro fuel cs y hy
  rcases open_slice ht hy with ⟨rfl, _⟩ | ⟨a, len, cap, m, n, D, Pl, rfl, _, hlc, _⟩
  · exact ⟨⟨none, 0, []⟩, rfl, ⟨(fun j v hv => by simp at hv), (fun a ha => by cases ha), Nat.zero_le _, Nat.zero_le _⟩⟩
  · obtain ⟨l, h1, h2, h3, h4, _⟩ := Yhz ht hc h0 (fun n cs y _ hy => h n cs y hy) hy
    subst h1
    exact ⟨⟨some a, cap, l⟩, rfl, h2, h3, h4, hlc⟩
def FOpn (enc : TypeId × Value → H) (P : Program) (W : World) (spare : Nat → Bool) (held : Bool) (ts : List TypeId) {α : Type} (f : α → List Value) (good : α → Prop) : Prop :=
  ∀ (n : Nat) (cs : List Value), cs.length = (ts.map P.cellsOf).sum → (∀ i t, ts[i]? = some t → ∃ y, DataW.trod enc P W 0 spare held n t ((cs.drop ((ts.take i).map P.cellsOf).sum).take (P.cellsOf t)) = some y) → ∃ a, cs = f a ∧ good a
theorem Vh : FOpn enc P W spare held [] (fun _ : Unit => []) (fun _ => True) := fun n cs h _ => ⟨(), List.eq_nil_of_length_eq_zero (by simpa using h), trivial⟩
theorem YA {t : TypeId} {ts : List TypeId} {α β : Type} {f : α → List Value} {good : α → Prop} {g : β → List Value} {good' : β → Prop} (h : Opn enc P W spare held t f good) (hs : FOpn enc P W spare held ts g good') :
    FOpn enc P W spare held (t :: ts) (fun x : α × β => f x.1 ++ g x.2) (fun x => good x.1 ∧ good' x.2) := by
  intro n cs hl hx
  simp only [List.map_cons, List.sum_cons] at hl
  obtain ⟨y, hy⟩ := hx 0 t rfl
  simp only [List.take_zero, List.map_nil, List.sum_nil, List.drop_zero] at hy
  obtain ⟨a, h1, h2⟩ := h n _ y hy
  obtain ⟨b, h3, h4⟩ := hs n (cs.drop (P.cellsOf t)) (by simp; omega) (fun i u hu => by
    obtain ⟨y, hy⟩ := hx (i + 1) u (by simpa using hu)
    refine ⟨y, ?_⟩
    rw [List.drop_drop]
    simpa using hy)
  exact ⟨(a, b), by show cs = f a ++ g b; rw [← h1, ← h3, List.take_append_drop], h2, h4⟩
def offs (P : Program) : List TypeId → Nat → List Nat
  | [], _ => []
  | t :: ts, o => o :: offs P ts (o + P.cellsOf t)
theorem Yew (P : Program) : ∀ (ts : List TypeId) (o i : Nat), i < ts.length → (offs P ts o)[i]? = some (o + ((ts.take i).map P.cellsOf).sum)
  | [], _, _, h => by simp at h
  | t :: ts, o, 0, _ => by simp [offs]
  | t :: ts, o, i + 1, h => by
    rw [offs, List.getElem?_cons_succ, Yew P ts _ i (by simpa using h)]
    simp [Nat.add_assoc]
def YgN (P : Program) (t : TypeId) (ts : List TypeId) : Bool :=
  match P.underlying t with
  | some (.struct fs) => (fs.toList.map (·.type) == ts) && (fs.toList.map (·.offset) == offs P ts 0) && (P.cellsOf t == (ts.map P.cellsOf).sum)
  | _ => false
theorem ZG {t : TypeId} {ts : List TypeId} {α : Type} {f : α → List Value} {good : α → Prop} (hB : YgN P t ts = true) (h : FOpn enc P W spare held ts f good) : Opn enc P W spare held t f good := by
  intro fuel cs y hy
  unfold YgN at hB
  cases hu : P.underlying t with
  | none => rw [hu] at hB; cases hB
  | some d =>
    rw [hu] at hB
    cases d with
    | struct fs =>
      simp only [Bool.and_eq_true, beq_iff_eq] at hB
      obtain ⟨⟨h1, h2⟩, h3⟩ := hB
      obtain ⟨xs, n, _, _, hl, hn, hx⟩ := DataW.trod_struct hu hy
      refine h n cs (hl.trans h3) fun i u hi => ?_
      have hlt : i < ts.length := (List.getElem?_eq_some_iff.1 hi).1
      have hlf : i < fs.toList.length := by rw [← h1] at hlt; simpa using hlt
      have hf : fs[i]? = some (fs.toList[i]) := by rw [← Array.getElem?_toList, List.getElem?_eq_getElem hlf]
      have ht : (fs.toList[i]).type = u := by
        rw [← h1, List.getElem?_map, List.getElem?_eq_getElem hlf] at hi
        simpa using hi
      have ho : (fs.toList[i]).offset = ((ts.take i).map P.cellsOf).sum := by
        have h5 := Yew P ts 0 i hlt
        rw [← h2, List.getElem?_map, List.getElem?_eq_getElem hlf] at h5
        simpa using h5
      have h6 := hx i _ hf
      rw [ht, ho] at h6
      have hlx : i < xs.length := by rw [hn]; simpa using hlf
      exact ⟨xs[i], by rw [h6, List.getElem?_eq_getElem hlx]⟩
    | _ => cases hB
end
end Go.Eng
namespace Go.Proofs.YtmalhidldgfeoaaGreatDoor
open Go.ChangeShapes Go.WideShapes Go.ChangeAt Go.RowKit Go.Eng Go.Nw
section
variable {H : Type} {enc : TypeId × Value → H} {W : World} {spare : Nat → Bool} {held : Bool}
abbrev I64 (z : Int) : Prop := (Lit.int .i64 z).wf = true
theorem op_i : Opn enc Tryz.prog W spare held 3 numF I64 := Yly Tryz.underlying3
theorem YcX : Opn enc Tryz.prog W spare held 24 (fun s : SlM Int => [s.val]) (SlG W numF I64) := ZR (q := 1) Tryz.underlying24 (by kernel_rfl) (by decide) op_i
theorem Ykt : Opn enc Tryz.prog W spare held 22 (fun s : SlM (SlM Int) => [s.val]) (SlG W (fun s : SlM Int => [s.val]) (SlG W numF I64)) := ZR (q := 1) Tryz.underlying22 (by kernel_rfl) (by decide) YcX
theorem Ykr : Opn enc Tryz.prog W spare held 172 lkF (fun l => I64 l.1 ∧ I64 l.2.1 ∧ I64 l.2.2) :=
  Vs (ZG (ts := [3, 3, 3]) (by kernel_rfl) (YA op_i (YA op_i (YA op_i Vh)))) (fun x => (x.1, x.2.1, x.2.2.1)) (fun _ => rfl) (fun _ h => ⟨h.1, h.2.1, h.2.2.1⟩)
theorem Yi7 : Opn enc Tryz.prog W spare held 23 (fun s : SlM Lk => [s.val]) (SlG W lkF fun l => I64 l.1 ∧ I64 l.2.1 ∧ I64 l.2.2) := ZR (q := 3) Tryz.underlying23 (by kernel_rfl) (by decide) Ykr
structure NetG (W : World) (n : NetM) : Prop where
  nodes : I64 n.nodes
  pw : Old W n.pA (n.rows.flatMap rowF)
  rw_ : ∀ r ∈ n.rows, Old W r.A (r.xs.flatMap numF)
  noise : I64 n.noise
  thr : I64 n.thr
  lk : Old W n.lA (n.links.flatMap lkF)
  mg : Old W n.mA (n.margin.flatMap numF)
  s1 : n.rows.length ≤ 9223372036854775807
  s2 : ∀ r ∈ n.rows, r.xs.length ≤ 9223372036854775807
  s3 : n.links.length ≤ 9223372036854775807
  s4 : n.margin.length ≤ 9223372036854775807
  w1 : ∀ r ∈ n.rows, ∀ z ∈ r.xs, I64 z
  w2 : ∀ l ∈ n.links, I64 l.1 ∧ I64 l.2.1 ∧ I64 l.2.2
  w3 : ∀ z ∈ n.margin, I64 z
  c3 : n.links.length ≤ n.lcap
  c4 : n.margin.length ≤ n.mcap
theorem NetG.In {n : NetM} {K : List HP} (h : NetG W n) : n.In W.heap.size W K := ⟨h.pw.rd, fun r hr => (h.rw_ r hr).rd, h.lk.rd, h.mg.rd, h.s1, h.s2, h.s3, h.s4⟩
def netF (n : NetM) : List Value := [.int .i64 n.nodes, .slice n.pA n.rows.length n.pcap, .int .i64 n.noise, .int .i64 n.thr, .slice n.lA n.links.length n.lcap, .slice n.mA n.margin.length n.mcap]
def YgI (s : SlM Int) : RowM := ⟨s.A, s.cap, s.xs⟩
theorem Yfx (l : List (SlM Int)) : (l.map YgI).flatMap rowF = l.flatMap fun s => [s.val] := by rw [List.flatMap_map]; rfl
theorem maxL : maxLen ≤ 9223372036854775807 := by decide
theorem Ylz : Opn enc Tryz.prog W spare held 26 netF (NetG W) :=
  Vs (ZG (ts := [3, 22, 3, 3, 23, 24]) (by kernel_rfl) (YA op_i (YA Ykt (YA op_i (YA op_i (YA Yi7 (YA YcX Vh)))))))
    (fun x => ⟨x.1, x.2.1.A, x.2.1.cap, x.2.1.xs.map YgI, x.2.2.1, x.2.2.2.1, x.2.2.2.2.1.A, x.2.2.2.2.1.cap, x.2.2.2.2.1.xs, x.2.2.2.2.2.1.A, x.2.2.2.2.2.1.cap, x.2.2.2.2.2.1.xs⟩)
    (fun x => by simp [netF, numF, SlM.val])
    (fun x h => by
      obtain ⟨h1, h2, h3, h4, h5, h6, _⟩ := h
      have hm := maxL
      refine ⟨h1, ?_, ?_, h3, h4, h5.old, h6.old, ?_, ?_, Nat.le_trans h5.len hm, Nat.le_trans h6.len hm, ?_, h5.good, h6.good, h5.cap, h6.cap⟩
      · rw [Yfx]; exact h2.old
      · intro r hr
        obtain ⟨s, hs, rfl⟩ := List.mem_map.1 hr
        exact (h2.good s hs).old
      · rw [List.length_map]; exact Nat.le_trans h2.len hm
      · intro r hr
        obtain ⟨s, hs, rfl⟩ := List.mem_map.1 hr
        exact Nat.le_trans (h2.good s hs).len hm
      · intro r hr
        obtain ⟨s, hs, rfl⟩ := List.mem_map.1 hr
        exact (h2.good s hs).good)
set_option maxRecDepth 100000 in
theorem Ymy {r : Reach} {b0 : Nat} {v : Value} {d : DataW H} {p : List MemPlace} (hv : Value.okWide Tryz.prog W r b0 26 v) (h : DataW.Trod enc Tryz.prog W 0 spare held 26 v d p) : ∃ n : NetM, v = n.val ∧ NetG W n := by
  obtain ⟨cs, rfl, _⟩ := okWide_struct Tryz.underlying26 hv
  obtain ⟨fuel, hf⟩ := h
  obtain ⟨n, h1, h2⟩ := Ylz fuel _ _ hf
  refine ⟨n, ?_, h2⟩
  have : cs = (netF n).toArray := by rw [← h1]; simp [Value.cells]
  rw [this]; rfl
end
open Go.ChangeShapes Go.WideShapes Go.ChangeAt Go.RowKit
section
variable {H : Type} {enc : TypeId × Value → H} {P : Program}
theorem WH (hl : laidOutB P = true) {W W' : World} {sp : Nat → Bool} : ∀ {ts : List TypeId} {vs : List Value} {ds : List (DataW H)} {ps : List MemPlace}, (ts.all fun t => P.readableRec t && decide (t < P.types.size)) = true →
    DataW.TrodAll enc P W 0 (fun _ => true) true ts vs ds ps → (∀ p ∈ ps, W.sameAt W' p) → (∀ p ∈ ps, sp p.block = true) → DataW.TrodAll enc P W' 0 sp true ts vs ds ps
  | [], [], [], _, _, h, _, _ => h
  | [], [], _ :: _, _, _, h, _, _ => h.elim
  | [], _ :: _, _, _, _, h, _, _ => h.elim
  | _ :: _, [], _, _, _, h, _, _ => h.elim
  | _ :: _, _ :: _, [], _, _, h, _, _ => h.elim
  | t :: ts, v :: vs, d :: ds, ps, hr, h, hs, hp => by
    obtain ⟨p, q, h1, h2, rfl⟩ := h
    simp only [List.all_cons, Bool.and_eq_true, decide_eq_true_eq] at hr
    exact ⟨p, q, WideElems.Trod_stays hl hr.1.1 hr.1.2 h1 (fun x hx => hs x (by simp [hx])) (fun x hx => hp x (by simp [hx])), WH hl hr.2 h2 (fun x hx => hs x (by simp [hx])) (fun x hx => hp x (by simp [hx])), rfl⟩
theorem YlT {f : Func} {s : ChangeSpec} {apart fresh handsOn again : Bool} {W W' : World} {args : Array Value} {ds gs : List (DataW H)} {before : List MemPlace} {tb : TypeId} (hl : laidOutB P = true)
    (hrd : (f.params.toList.all fun t => P.readableRec t && decide (t < P.types.size)) = true) (hv : s.vars = []) (hrt : f.resultTypes = #[tb]) (htb : P.underlying tb = some .bool)
    (hW : DataW.Whole enc P f.params.toList s.vars apart W args.toList ds gs before) (hb : Below W.heap.size W W')
    (hres : (s.fn H (ds ++ gs)).results = [.lit (.bool true)]) (hargs : (s.fn H (ds ++ gs)).args = ds) (hvars : (s.fn H (ds ++ gs)).vars = []) :
    s.post enc P f apart fresh handsOn again W args (.bool true) W' := by
  have hlt : ∀ p ∈ before, p.block < W.heap.size := fun p hp => hW.lt p hp
  have hW0 := hW
  obtain ⟨p, q, hA, hV, rfl, hz, hn⟩ := hW
  rw [hv] at hV
  have hq : gs = [] ∧ q = [] := by
    cases gs with
    | nil => exact ⟨rfl, hV⟩
    | cons _ _ => exact hV.elim
  obtain ⟨rfl, rfl⟩ := hq
  have hkeep : ∀ sp : Nat → Bool, (∀ x ∈ p ++ [], sp x.block = true) → DataW.TrodAll enc P W' 0 sp true f.params.toList args.toList ds p := fun sp hsp =>
    WH hl hrd hA (fun x hx => hb.same (hlt x (by simpa using hx))) (fun x hx => hsp x (by simpa using hx))
  have hR : ∀ (b : Nat) (sp : Nat → Bool) (hd : Bool), DataW.TrodAll enc P W' b sp hd f.resultTypes.toList ((Value.bool true).resultList f.resultTypes.size) (s.fn H (ds ++ [])).results [] := by
    intro b sp hd
    rw [hres, hrt]
    exact trodAll_mk1 (shut_bool htb true)
  have hok := ok_one (P := P) (W' := W') (f := f) (v := .bool true) hrt rfl (okWide_bool_mk htb true)
  have hold : ∀ x ∈ p ++ [], (fun b => decide (b < W.heap.size)) x.block = true := fun x hx => by simpa using hlt x hx
  refine ⟨ds, [], p ++ [], [], p, [], hW0, hR _ _ _, by rw [hargs]; exact hkeep _ hold, by rw [hvars, hv]; rfl, World.keptBut_mono (fun x hx => ⟨hx, Or.inr (by simpa using hx)⟩) (hb.frame (· ∈ p ++ [])), fun _ => ?_⟩
  refine ⟨hok, _, _, ([] ++ p) ++ [], ⟨[] ++ p, [], trodAll_append (hkeep _ (fun _ _ => rfl)) (hR _ _ _), (show DataW.TrodVars enc P W' (fun _ => true) s.vars [] [] by rw [hv]; rfl), rfl, ?_, ?_⟩, ?_⟩
  · intro b off hp
    have hin : MemPlace.cell b off ∈ p ++ [] := by simpa using hp
    rw [hb.frozen (hlt _ hin)]
    exact hz b off hin
  · intro ha
    simpa using hn ha
  · intro x hx _
    simpa using hx
end
open Go.ChangeShapes Go.WideShapes Go.ChangeAt Go.RowKit Go.Eng Go.Nw
open Go.ChangeMaps (open_string)
def flwF (f : Flw) : List Value := [.int .i64 f.1, .int .i64 f.2.1, .int .i64 f.2.2.1, .int .i64 f.2.2.2.1, .int .i64 f.2.2.2.2.1, .int .i64 f.2.2.2.2.2]
section
variable {H : Type} {enc : TypeId × Value → H} {W : World} {spare : Nat → Bool} {held : Bool}
abbrev CelG (c : Cel) : Prop := I64 c.1 ∧ I64 c.2.1 ∧ I64 c.2.2.1 ∧ I64 c.2.2.2.1 ∧ I64 c.2.2.2.2
abbrev FlwG (f : Flw) : Prop := I64 f.1 ∧ I64 f.2.1 ∧ I64 f.2.2.1 ∧ I64 f.2.2.2.1 ∧ I64 f.2.2.2.2.1 ∧ I64 f.2.2.2.2.2
theorem Ykp : Opn enc Tryz.prog W spare held 40 celF CelG :=
  Vs (ZG (ts := [3, 3, 3, 3, 3]) (by kernel_rfl) (YA op_i (YA op_i (YA op_i (YA op_i (YA op_i Vh)))))) (fun x => (x.1, x.2.1, x.2.2.1, x.2.2.2.1, x.2.2.2.2.1)) (fun _ => rfl) (fun _ h => ⟨h.1, h.2.1, h.2.2.1, h.2.2.2.1, h.2.2.2.2.1⟩)
theorem Yi6 : Opn enc Tryz.prog W spare held 28 (fun s : SlM Cel => [s.val]) (SlG W celF CelG) := ZR (q := 5) Tryz.underlying28 (by kernel_rfl) (by decide) Ykp
theorem Ykq : Opn enc Tryz.prog W spare held 68 flwF FlwG :=
  Vs (ZG (ts := [3, 3, 3, 3, 3, 3]) (by kernel_rfl) (YA op_i (YA op_i (YA op_i (YA op_i (YA op_i (YA op_i Vh))))))) (fun x => (x.1, x.2.1, x.2.2.1, x.2.2.2.1, x.2.2.2.2.1, x.2.2.2.2.2.1)) (fun _ => rfl) (fun _ h => ⟨h.1, h.2.1, h.2.2.1, h.2.2.2.1, h.2.2.2.2.1, h.2.2.2.2.2.1⟩)
structure SchG (W : World) (s : SchM) : Prop where
  len : I64 s.len
  off : I64 s.off
  old : Old W s.A (s.cells.flatMap celF)
  few : s.cells.length ≤ 9223372036854775807
  good : ∀ c ∈ s.cells, CelG c
  cap : s.cells.length ≤ s.cap
def schF (s : SchM) : List Value := [.int .i64 s.len, .int .i64 s.off, .slice s.A s.cells.length s.cap]
theorem YlA : Opn enc Tryz.prog W spare held 30 schF (SchG W) :=
  Vs (ZG (ts := [3, 3, 28]) (by kernel_rfl) (YA op_i (YA op_i (YA Yi6 Vh))))
    (fun x => ⟨x.1, x.2.1, x.2.2.1.A, x.2.2.1.cap, x.2.2.1.xs⟩) (fun x => by simp [schF, numF, SlM.val])
    (fun x h => by
      obtain ⟨h1, h2, h3, _⟩ := h
      exact ⟨h1, h2, h3.old, Nat.le_trans h3.len maxL, h3.good, h3.cap⟩)
set_option maxRecDepth 100000 in
theorem Ymz {r : Reach} {b0 : Nat} {v : Value} {d : DataW H} {p : List MemPlace} (hv : Value.okWide Tryz.prog W r b0 30 v) (h : DataW.Trod enc Tryz.prog W 0 spare held 30 v d p) : ∃ s : SchM, v = s.val ∧ SchG W s := by
  obtain ⟨cs, rfl, _⟩ := okWide_struct Tryz.underlying30 hv
  obtain ⟨fuel, hf⟩ := h
  obtain ⟨n, h1, h2⟩ := YlA fuel _ _ hf
  refine ⟨n, ?_, h2⟩
  have : cs = (schF n).toArray := by rw [← h1]; simp [Value.cells]
  rw [this]; rfl
end
open Go.RowKit Go.Eng Go.Nw
def flwV (f : Flw) : Value := .agg #[.int .i64 f.1, .int .i64 f.2.1, .int .i64 f.2.2.1, .int .i64 f.2.2.2.1, .int .i64 f.2.2.2.2.1, .int .i64 f.2.2.2.2.2]
theorem Q7 {l : List Flw} {i : Nat} (h : i < l.length) : l[i]? = some (XA l i) := by
  unfold XA; rw [List.getD_eq_getElem?_getD, List.getElem?_eq_getElem h]; rfl
theorem Yfy (v nodes : Int) (gn : Nat) {B : Nat} {w0 : World} {H : List HP} {w : World} (hm : blk gn (.cells #[.int .i64 nodes] 3 (0, 0)) ∈ H) (hw : St B w0 H w) :
    Calls Tryz.prog 167 [.int .i64 v, .pointer (some ⟨gn, 0, none⟩)].toArray w (Post B w0 fun u K => u = .bool (insE v nodes) ∧ K = H) := by
  refine Yf Tryz.func167 Tryz.ntmps167 rfl rfl hw ?_
  repeat' (first | refine zgc ?_ | (refine zgf ?_ ?_ <;> intro _ <;> try (exfalso; omega)) | fail)
  all_goals (
    apply Yg; exact rfl; exact rfl
    first
      | exact ⟨by rw [show insE v nodes = true from decide_eq_true (by omega)], rfl⟩
      | exact ⟨by rw [show insE v nodes = false from decide_eq_false (by omega)], rfl⟩)
set_option maxRecDepth 10000 in
set_option maxHeartbeats 1000000 in
theorem V5 (nodes : Int) (f : Flw) {B : Nat} {w0 : World} {H : List HP} {w : World} (hw : St B w0 H w) :
    Calls Tryz.prog 110 [.int .i64 nodes, flwV f].toArray w (Post B w0 fun v K => v = .int .i64 (YX nodes f) ∧ K = H) := by
  refine Yf Tryz.func110 Tryz.ntmps110 rfl rfl hw ?_
  obtain ⟨e, he⟩ : ∃ e, YX nodes f = e := ⟨_, rfl⟩
  rw [he]
  by_cases hA : f.1 < 0 ∨ 255 < f.1
  · repeat' (first | (apply zg23; first | (refine zs52 ?_; intro _) | (refine zs53 ?_; intro _)) | (apply zg29; (apply Yj; exact za ; exact rfl)) | refine zgc ?_ | (refine zge ?_ ?_ <;> intro _ <;> try (exfalso; omega)) | fail)
    all_goals (
      apply Yk H
      · exact zk
      apply Yg; exact rfl; exact rfl
      refine ⟨?_, rfl⟩
      rw [← he]
      unfold YX
      first
        | (rw [if_pos (by first | exact .inl (by omega) | exact .inr (.inl (by omega)) | exact .inr (.inr (.inl (by assumption))) | exact .inr (.inr (.inr (by assumption))))]; done)
        | (rw [if_neg (by rintro (h | h | h | h) <;> first | omega | simp_all)]
           first
             | (rw [if_pos (by omega)]; done)
             | (rw [if_neg (by omega), if_pos (by omega)]; done)
             | (rw [if_neg (by omega), if_neg (by omega)]; done)))
  · repeat' (first | (apply zg23; first | (refine zs52 ?_; intro _) | (refine zs53 ?_; intro _)) | (apply zg29; (apply Yj; exact za ; exact rfl)) | refine zgc ?_ | (refine zge ?_ ?_ <;> intro _ <;> try (exfalso; omega)) | fail)
    rename_i gn gf _ _
    repeat' (first | ((first | apply Zz (cs := [.pointer (some ⟨gn, 0, none⟩)]) | apply Zy (cs := [.pointer (some ⟨gn, 0, none⟩)])); exact rfl; exact Yme; exact za; exact rfl; exact fun _ hw => (Yfy _ nodes gn zm hw); all_goals (intro hB; (try simp only [decide_eq_true_eq, decide_eq_false_iff_not] at hB); try (exfalso; omega))) | refine zgd ?_ | (refine zgf ?_ ?_ <;> intro _ <;> try (exfalso; omega)) | fail)
    all_goals (
      apply Yk H
      · exact zk
      apply Yg; exact rfl; exact rfl
      refine ⟨?_, rfl⟩
      rw [← he]
      unfold YX
      first
        | (rw [if_pos (by first | exact .inl (by omega) | exact .inr (.inl (by omega)) | exact .inr (.inr (.inl (by assumption))) | exact .inr (.inr (.inr (by assumption))))]; done)
        | (rw [if_neg (by rintro (h | h | h | h) <;> first | omega | simp_all)]
           first
             | (rw [if_pos (by omega)]; done)
             | (rw [if_neg (by omega), if_pos (by omega)]; done)
             | (rw [if_neg (by omega), if_neg (by omega)]; done)))
set_option maxRecDepth 10000 in
set_option maxHeartbeats 1000000 in
theorem YU (nodes : Int) (l : List Flw) (hl : l.length ≤ 9223372036854775807) {A : Option Addr} {cap B : Nat} {w0 : World} {H : List HP} {w : World} (hr : Rd B w0 H A (l.flatMap flwF)) (hw : St B w0 H w) :
    Calls Tryz.prog 51 [.int .i64 nodes, .slice A l.length cap].toArray w (Post B w0 fun v K => v = .tuple #[.int .i64 (YR nodes l).1, .int .i64 (YR nodes l).2] ∧ K = H) := by
  refine Yf Tryz.func51 Tryz.ntmps51 rfl rfl hw ?_
  by_cases hn : nodes < 2 ∨ 32 < nodes
  · have hE : YR nodes l = (-1, 2) := by unfold YR; exact if_pos hn
    rw [hE]
    repeat' (first | refine zgc ?_ | (refine zge ?_ ?_ <;> intro _ <;> try (exfalso; omega)) | fail)
    all_goals (apply Yt; exact rfl; exact rfl; exact rfl; exact ⟨rfl, rfl⟩)
  by_cases h16 : 16 < l.length
  · have hE : YR nodes l = (-1, 8) := by unfold YR; exact (if_neg hn).trans (if_pos h16)
    rw [hE]
    repeat' (first | refine zgc ?_ | (refine zge ?_ ?_ <;> intro _ <;> try (exfalso; omega)) | fail)
    apply Yt; exact rfl; exact rfl; exact rfl; exact ⟨rfl, rfl⟩
  have hE : YR nodes l = YG (Y4 nodes l) l.length 0 := by unfold YR; exact (if_neg hn).trans (if_neg h16)
  rw [hE]
  repeat' (first | refine zgc ?_ | (refine zge ?_ ?_ <;> intro _ <;> try (exfalso; omega)) | fail)
  refine Yn (fun (i : Nat) => [(20, .int .i64 i), (19, .int .i64 l.length), (18, .slice A l.length cap), (0, .int .i64 nodes), (1, .slice A l.length cap)]) (fun _ => H) (fun i => i ≤ l.length ∧ ∀ k, k < i → Y4 nodes l k = 0) (fun i => l.length - i) 0 ⟨Nat.zero_le _, fun k hk => absurd hk (Nat.not_lt_zero _)⟩ ?_ (fun w hw => hw) ?_
  · exact zu
  rintro i ⟨hi, hall⟩ K hK
  by_cases hlt : i < l.length
  · have hget : l[i]? = some (XA l i) := Q7 hlt
    have hbad : Y4 nodes l i ≠ 0 → YG (Y4 nodes l) l.length 0 = ((i : Int), Y4 nodes l i) := fun h => Xu (fun k _ hk => hall k hk) (Nat.zero_le _) (by omega) h
    have hstep : Y4 nodes l i = 0 → ∀ k, k < i + 1 → Y4 nodes l k = 0 := fun h k hk => by
      by_cases e : k = i
      · rw [e]; exact h
      · exact hall k (by omega)
    by_cases he : YX nodes (XA l i) ≠ 0
    · have hf : Y4 nodes l i = YX nodes (XA l i) := by unfold Y4; exact if_pos he
      rw [hbad (by rw [hf]; exact he), hf]
      repeat' (first | ((first | apply Ya UJ | apply Yb UJ); exact za; exact rfl; exact fun _ hw => (V5 nodes (XA l i) hw)) | refine zgd ?_ | (refine zge ?_ ?_ <;> intro _ <;> try (exfalso; omega)) | (refine zgh ?_; intro _) | fail)
      apply Yk H
      · exact zk
      apply Yt; exact rfl; exact rfl; exact rfl; exact ⟨rfl, rfl⟩
    have he0 := Decidable.not_not.1 he
    have hck := fun {H' : List HP} {w : World} (hw : St B w0 H' w) => V5 nodes (XA l i) hw
    rw [he0] at hck
    rcases Nat.eq_zero_or_pos i with h0 | h0
    · subst h0
      have hf : Y4 nodes l 0 = 0 := by unfold Y4; rw [if_neg he, if_neg (by omega)]
      repeat' (first | ((first | apply Ya UJ | apply Yb UJ); exact za; exact rfl; exact fun _ hw => (hck hw)) | refine zgd ?_ | (refine zge ?_ ?_ <;> intro _ <;> try (exfalso; omega)) | (refine zgh ?_; intro _) | fail)
      apply hK (0 + 1)
      · exact ⟨by omega, hstep hf⟩
      · omega
      · exact zu
      · exact zk
    have hget2 : l[((i : Int) - 1).toNat]? = some (XA l (i - 1)) := by
      rw [show ((i : Int) - 1).toNat = i - 1 by omega]
      exact Q7 (by omega)
    by_cases hle : (XA l i).1 ≤ (XA l (i - 1)).1
    · have hf : Y4 nodes l i = 5 := by unfold Y4; rw [if_neg he, if_pos ⟨h0, hle⟩]
      rw [hbad (by rw [hf]; decide), hf]
      repeat' (first | ((first | apply Ya UJ | apply Yb UJ); exact za; exact rfl; exact fun _ hw => (hck hw)) | refine zgd ?_ | (refine zgf ?_ ?_ <;> intro _ <;> try (exfalso; omega)) | (refine zgh ?_; intro _) | fail)
      apply Yk H
      · exact zk
      apply Yt; exact rfl; exact rfl; exact rfl; exact ⟨rfl, rfl⟩
    · have hf : Y4 nodes l i = 0 := by unfold Y4; rw [if_neg he, if_neg (fun h => hle h.2)]
      repeat' (first | ((first | apply Ya UJ | apply Yb UJ); exact za; exact rfl; exact fun _ hw => (hck hw)) | refine zgd ?_ | (refine zgf ?_ ?_ <;> intro _ <;> try (exfalso; omega)) | (refine zgh ?_; intro _) | fail)
      apply hK (i + 1)
      · exact ⟨by omega, hstep hf⟩
      · omega
      · exact zu
      · exact zk
  · repeat' (first | refine zgc ?_ | (refine zge ?_ ?_ <;> intro _ <;> try (exfalso; omega)) | fail)
    rw [show i = l.length by omega] at hall
    rw [X7 fun k _ hk => hall k (by omega)]
    apply Yt; exact rfl; exact rfl; exact rfl; exact ⟨rfl, rfl⟩
theorem Yag (p : Flw → Bool) (l : List Flw) (f : Nat) (cs : List Value) (hen : ∀ xs w, (callFunc f xs).run Tryz.prog w = .ok (.enter f xs) w) (hlen : l.length ≤ 1000) {A : Option Addr} {cap B : Nat} {w0 : World} {H : List HP} {w : World} (hr : Rd B w0 H A (l.flatMap flwF))
    (hp : ∀ a ∈ l, ∀ w, St B w0 H w → Calls Tryz.prog f ([flwV a] ++ cs).toArray w (Post B w0 fun v K => v = .bool (p a) ∧ K = H)) (hw : St B w0 H w) :
    Calls Tryz.prog 111 [.slice A l.length cap, .func (.func f) #[] cs.toArray].toArray w (Post B w0 fun v K => v = .int .i64 (Yq p l 0) ∧ K = H) := by
  refine Yf Tryz.func111 Tryz.ntmps111 rfl rfl hw ?_
  repeat' (first | refine zgb ?_ | fail)
  refine Yn (fun (k : Nat) => [(8, .int .i64 k), (7, .int .i64 l.length), (0, .slice A l.length cap), (1, .func (.func f) #[] cs.toArray)]) (fun _ => H) (fun k => k ≤ l.length ∧ Yq p l 0 = Yq p (l.drop k) k) (fun k => l.length - k) 0 ⟨Nat.zero_le _, by simp⟩ ?_ (fun w hw => hw) ?_
  · exact zu
  rintro k ⟨hk, hi⟩ K hK
  by_cases hlt : k < l.length
  · obtain ⟨a, ha⟩ : ∃ a, l[k]? = some a := ⟨_, List.getElem?_eq_getElem hlt⟩
    have hpa := hp a (List.mem_of_getElem? ha)
    rw [Jo p l ha] at hi
    repeat' (first | ((first | apply YD (cs := cs)); exact rfl; exact hen; exact za; exact rfl; exact fun _ hw => hpa _ hw) | refine zgd ?_ | (refine zge ?_ ?_ <;> intro _ <;> try (exfalso; omega)) | fail)
    cases hpv : p a
    · rw [hpv] at hi
      repeat' (first | refine zgd ?_ | fail)
      apply hK (k + 1)
      · exact ⟨by omega, hi⟩
      · omega
      · exact zu
      · exact fun w hw => hw
    · rw [hpv] at hi
      repeat' (first | refine zgc ?_ | fail)
      apply Yg; exact rfl; exact rfl
      exact ⟨by rw [hi]; rfl, rfl⟩
  · repeat' (first | refine zgc ?_ | (refine zge ?_ ?_ <;> intro _ <;> try (exfalso; omega)) | fail)
    apply Yg; exact rfl; exact rfl
    rw [hi, List.drop_eq_nil_of_le (by omega)]
    exact ⟨rfl, rfl⟩
theorem Yfw (f : Flw) (id : Int) (gi : Nat) {B : Nat} {w0 : World} {H : List HP} {w : World} (hm : blk gi (.cells #[.int .i64 id] 3 (0, 0)) ∈ H) (hw : St B w0 H w) :
    Calls Tryz.prog 170 [flwV f, .pointer (some ⟨gi, 0, none⟩)].toArray w (Post B w0 fun v K => v = .bool (decide (f.1 = id)) ∧ K = H) := by
  refine Yf Tryz.func170 Tryz.ntmps170 rfl rfl hw ?_
  by_cases h : f.1 = id
  · rw [decide_eq_true h]
    repeat' (first | refine zga ?_ | (refine zgf ?_ ?_ <;> intro _ <;> try (exfalso; omega)) | (refine zgh ?_; intro _) | fail)
    all_goals (apply Ys; apply Yg; exact rfl; exact rfl; exact ⟨rfl, rfl⟩)
  · rw [decide_eq_false h]
    repeat' (first | refine zga ?_ | (refine zgf ?_ ?_ <;> intro _ <;> try (exfalso; omega)) | (refine zgh ?_; intro _) | fail)
    all_goals (apply Ys; apply Yg; exact rfl; exact rfl; exact ⟨rfl, rfl⟩)
theorem Q0 (l : List Flw) (id : Int) (hlen : l.length ≤ 1000) {A : Option Addr} {cap B : Nat} {w0 : World} {H : List HP} {w : World} (hr : Rd B w0 H A (l.flatMap flwF)) (hw : St B w0 H w) :
    Calls Tryz.prog 114 [.slice A l.length cap, .int .i64 id].toArray w (Post B w0 fun v K => v = .int .i64 (Z2 l id) ∧ K = H) := by
  refine Yf Tryz.func114 Tryz.ntmps114 rfl rfl hw ?_
  repeat' (first | (apply zg29; (apply Yj; exact za ; exact rfl)) | refine zga ?_ | (refine zgh ?_; intro _) | fail)
  rename_i gi
  first | apply Ya Ygl | apply Yb Ygl
  exact za
  exact rfl
  exact fun _ hw => (Yag (fun f => decide (f.1 = id)) l 170 [.pointer (some ⟨gi, 0, none⟩)] Ymf hlen hr.cons (fun f _ w hw => Yfw f id gi zm hw) hw)
  repeat' (first | refine zga ?_ | fail)
  apply Yk H
  · exact zk
  apply Yg; exact rfl; exact rfl
  exact ⟨rfl, rfl⟩
theorem Yc1 (s : SchM) (f : Flw) (gs : Nat) (hs : 1 ≤ s.len ∧ s.len ≤ 512) (hf : 1 ≤ f.2.2.2.1 ∧ f.2.2.2.1 ≤ 512) {B : Nat} {w0 : World} {H : List HP} {w : World} (hm : blk gs (.cells #[.int .i64 s.len, .int .i64 s.off, .slice s.A s.cells.length s.cap] 30 (0, 0)) ∈ H) (hw : St B w0 H w) :
    Calls Tryz.prog 54 [flwV f, .pointer (some ⟨gs, 0, none⟩)].toArray w (Post B w0 fun v K => v = .bool (decide (s.len.tmod f.2.2.2.1 ≠ 0)) ∧ K = H) := by
  refine Yf Tryz.func54 Tryz.ntmps54 rfl rfl hw ?_
  by_cases h : s.len.tmod f.2.2.2.1 ≠ 0
  · rw [decide_eq_true h]
    rw [Int.tmod_eq_emod_of_nonneg (by omega)] at h
    repeat' (first | refine zgd ?_ | (refine zge ?_ ?_ <;> intro _ <;> try (exfalso; omega)) | (refine zgh ?_; intro _) | fail)
    all_goals (apply Ys; apply Yg; exact rfl; exact rfl; exact ⟨rfl, rfl⟩)
  · rw [decide_eq_false h]
    rw [Int.tmod_eq_emod_of_nonneg (by omega)] at h
    repeat' (first | refine zgd ?_ | (refine zge ?_ ?_ <;> intro _ <;> try (exfalso; omega)) | (refine zgh ?_; intro _) | fail)
    all_goals (apply Ys; apply Yg; exact rfl; exact rfl; exact ⟨rfl, rfl⟩)
theorem Yac {α : Type} (p : α → Bool) (l : List α) : decide (0 ≤ Yq p l 0) = l.any p := by
  have h := Vk p l 0 (by omega)
  by_cases h0 : 0 ≤ Yq p l 0
  · rw [decide_eq_true h0, h.1 h0]
  · rw [decide_eq_false h0]
    cases h1 : l.any p with
    | false => rfl
    | true => exact absurd (h.2 h1) h0
theorem QP (p : Flw → Bool) (l : List Flw) (f : Nat) (cs : List Value) (hen : ∀ xs w, (callFunc f xs).run Tryz.prog w = .ok (.enter f xs) w) (hlen : l.length ≤ 1000) {A : Option Addr} {cap B : Nat} {w0 : World} {H : List HP} {w : World} (hr : Rd B w0 H A (l.flatMap flwF))
    (hp : ∀ a ∈ l, ∀ w, St B w0 H w → Calls Tryz.prog f ([flwV a] ++ cs).toArray w (Post B w0 fun v K => v = .bool (p a) ∧ K = H)) (hw : St B w0 H w) :
    Calls Tryz.prog 53 [.slice A l.length cap, .func (.func f) #[] cs.toArray].toArray w (Post B w0 fun v K => v = .bool (l.any p) ∧ K = H) := by
  refine Yf Tryz.func53 Tryz.ntmps53 rfl rfl hw ?_
  rw [← Yac]
  repeat' (first | refine zga ?_ | fail)
  first | apply Ya Ygl | apply Yb Ygl
  exact za
  exact rfl
  exact fun _ hw => (Yag p l f cs hen hlen hr hp hw)
  by_cases h0 : 0 ≤ Yq p l 0
  · rw [decide_eq_true h0]
    repeat' (first | refine zga ?_ | (refine zgf ?_ ?_ <;> intro _ <;> try (exfalso; omega)) | fail)
    apply Yg; exact rfl; exact rfl
    exact ⟨rfl, rfl⟩
  · rw [decide_eq_false h0]
    repeat' (first | refine zga ?_ | (refine zgf ?_ ?_ <;> intro _ <;> try (exfalso; omega)) | fail)
    apply Yg; exact rfl; exact rfl
    exact ⟨rfl, rfl⟩
end Go.Proofs.YtmalhidldgfeoaaGreatDoor
namespace Go.Eng
open Go.RowKit
section
variable {P : Program} {B : Nat} {w0 : World} {Q : Exit → Act → World → Prop} {env : Env} {H : List HP} {k : Nat}
def YQr (P : Program) (r : Nat) (ops : Array Oper) (Q : Exit → Act → World → Prop) (l : List Oper) : Exit → Act → World → Prop
  | .normal, a, w => wpListIn (Fence.wide.inRound r) 0 P ops Q l a w
  | e, a, w => Q e a w
theorem W3 {r : Nat} {ops : Array Oper} {l : List Oper} (hlo : ¬ LetsOut Q) : ∀ (os : List Oper) (a : Act) (w : World), os.all ZK = true → wpList P ops (YQr P r ops Q l) os a w → wpListIn (Fence.wide.inRound r) 0 P ops Q (os ++ l) a w
  | [], _, _, _, h => h
  | o :: os, a, w, hc, h => by
    simp only [List.all_cons, Bool.and_eq_true] at hc
    unfold wpList at h
    rw [List.cons_append]
    unfold wpListIn
    split
    · rename_i hw
      rw [if_pos hw] at h
      rcases h with h | ⟨_, h⟩
      · have h2 := Oper.wp_mono (fun a w h => W3 hlo os a w hc.2 h) h
        have hs : Oper.semAt (some r) a.eval o = execOp a.eval o := Oper.semAt_some r _ o fun c e => by
          have hp := hc.1
          unfold ZK at hp
          rw [e] at hp
          cases hp
        refine ⟨fun f _ => trivial, ?_⟩
        rw [Fence.inRound_round, hs]
        unfold Oper.wp at h2
        generalize (execOp a.eval o).run P w = res at h2 ⊢
        cases res with
        | ok x w' =>
          cases x <;> simp only [Oper.upon, Oper.uponIn] at h2 ⊢ <;> first
            | exact h2
            | (refine ⟨fun hd => by simp [Fence.wide] at hd, ?_⟩
               refine CallsIn.mono (CallsIn.inRound r (callsIn_wide.2 h2)) fun e w'' he => ?_
               cases e <;> exact he)
            | exact ⟨fun hd => by simp [Fence.wide] at hd, ON h2⟩
            | exact h2.elim
        | halt x w' => cases x <;> simp only [Oper.upon, Oper.uponIn] at h2 ⊢ <;> first | exact h2 | exact h2.elim
      · exact (hlo h).elim
    · rename_i hw
      rw [if_neg hw] at h
      exact ⟨fun f _ => trivial, W3 hlo os _ w hc.2 h⟩
theorem Ydj {n r : Nat} {ds : List Deferred} {id : Nat} {l : List Oper} (k : Nat) {l1 l2 : List Oper} (h1 : l.take k = l1) (h2 : l.drop k = l2) (h : VL P none ⟨n, ds, some r⟩ B w0 l.toArray (YQr P r l.toArray Q l2) l1 env H) :
    VC P ⟨n, ds, some r⟩ B w0 (.region id l.toArray false) Q env H := by
  refine ⟨fun a w ha hw => ?_⟩
  intro hlo hc
  refine wpIn_region_lit ?_
  have hc2 : l.all ZK = true := by simpa [calm] using hc
  have := W3 hlo _ _ _ (by rw [← h1]; exact List.all_eq_true.2 fun x hx => List.all_eq_true.1 hc2 x (List.mem_of_mem_take hx)) (h.run a ha w hw)
  rw [← h1, ← h2, List.take_append_drop] at this
  exact this
theorem Yg0 {n r : Nat} {ds : List Deferred} {ops : Array Oper} {d l : Nat} {x : Operand} {args : List Operand} {tys : Array TypeId} {ty : TypeId} {pos : String} {after : Array Edge} {gd : Option (Nat × Bool)} {vs : List Value} {rest : List Oper} (Φt Φf : List HP → Prop)
    (hgd : ∀ a : Act, Fits ⟨n, ds, none⟩ a env → Region.wanted ⟨some d, .call ⟨.value x, args.toArray, tys⟩, ty, pos, after, gd⟩ (yielded ops a.tmps) = true)
    (hx : evo env x = some (.func (.yield l) #[] #[])) (hargs : Args env args vs) (hn : Nat.ble (d + 1) n = true) (hlo : ¬ LetsOut Q) (hpl : rest.all ZK = true) (hy : QC P l vs B w0 H Φt Φf)
    (ht : ∀ K, Φt K → VL P none ⟨n, ds, some r⟩ B w0 ops Q rest ((d, .bool true) :: env) K)
    (hf : ∀ K, Φf K → VL P none ⟨n, ds, some r⟩ B w0 ops Q rest ((d, .bool false) :: env) K) :
    VQ ⟨n, ds, some r⟩ B w0 (YQr P r ops Q (⟨some d, .call ⟨.value x, args.toArray, tys⟩, ty, pos, after, gd⟩ :: rest)) .normal env H := by
  refine ⟨fun a w ha hw => ?_⟩
  show wpListIn (Fence.wide.inRound r) 0 P ops Q _ a w
  unfold wpListIn
  rw [if_pos (hgd a ⟨ha.defers, ha.size, ha.slot⟩)]
  refine ⟨fun f _ => trivial, ?_⟩
  obtain ⟨fn, tmps, assign, body, hrun, hround⟩ := hy w hw
  have hmap : args.toArray.map a.eval = vs.toArray := by rw [List.map_toArray, JI ha _ _ hargs]
  have hs : Oper.semAt (some r) a.eval ⟨some d, .call ⟨.value x, args.toArray, tys⟩, ty, pos, after, gd⟩ = execOp a.eval ⟨some d, .call ⟨.value x, args.toArray, tys⟩, ty, pos, after, gd⟩ := Oper.semAt_some r _ _ fun c e => by cases e
  rw [Fence.inRound_round, hs]
  have hex : (execOp a.eval ⟨some d, .call ⟨.value x, args.toArray, tys⟩, ty, pos, after, gd⟩).run P w = .ok (.round l fn tmps assign body) w := by
    simp only [execOp, resolve, ha.eval hx, hmap, Deferred.ofValue, Sem.run_bind, Sem.run_pure, Result.andThen_ok, invoke]
    simpa using hrun
  rw [hex, Oper.uponIn_round]
  refine ⟨fun hd => by simp [Fence.wide] at hd, ?_⟩
  have hround2 : RoundIn (Fence.wide.inRound r) 0 P l fn tmps assign body w _ := hround
  refine RoundIn.mono hround2 ?_
  rintro e w' (⟨rfl, K', hΦ, hst⟩ | ⟨rfl, K', hΦ, hst⟩)
  · exact J3 hlo _ _ _ hpl ((ht K' hΦ).run _ (ha.put (Nat.le_of_ble_eq_true hn) _) _ hst)
  · exact J3 hlo _ _ _ hpl ((hf K' hΦ).run _ (ha.put (Nat.le_of_ble_eq_true hn) _) _ hst)
end
theorem St.inM {B : Nat} {w0 w : World} {H K : List HP} (hw : St B w0 K w) (hm : Eng.many H ∈ K) : St B w0 H w := by
  obtain ⟨S, h1, h2⟩ := hw.at_ hm
  exact ⟨hw.below, hw.le, J6 h2 h1⟩
theorem Rd.inM {B : Nat} {w0 : World} {H K : List HP} {A : Option Addr} {xs : List Value} (h : Rd B w0 H A xs) (hm : Eng.many H ∈ K) : Rd B w0 K A xs := h.mono fun _ hw => hw.inM hm
theorem Rd.many {B : Nat} {w0 : World} {H L : List HP} {A : Option Addr} {xs : List Value} {e size k cap : Nat} (hX : many L ∈ H) (hm : Eng.sl e size A k cap xs ∈ L) : Rd B w0 H A xs := fun w hw j v hv => by
  obtain ⟨S, _, h2⟩ := hw.at_ hX
  obtain ⟨S', _, h3, _⟩ := YgL hm h2
  obtain ⟨g, e1, hc, _⟩ := Qo h3 hv
  exact ⟨g, 0, e1, by rw [Nat.zero_add]; exact hc⟩
open Go.RowKit
def subL (i k : Nat) (l : List Value) : List Value := (l.drop i).take k
section
variable {P : Program} {B : Nat} {w0 : World} {Q : Exit → Act → World → Prop} {env : Env} {H : List HP} {m : Mode} {n : Shp} {ops : Array Oper} {rest : List Oper} {d : Nat} {ty : TypeId} {pos : String} {after : Array Edge}
theorem YW (T : Tab P) {t g i k : Nat} {cs : Array Value} {vs : List Value} {tt : TypeId} {fr : Nat × Nat} {x : Operand} (hx : evo env x = some (.pointer (some ⟨g, i, none⟩))) (hm : blk g (.cells cs tt fr) ∈ H)
    (ht : look T.ag t = some k) (hv : subL i k cs.toList = vs) (hk : Nat.beq vs.length k = true) (hn : Nat.ble (d + 1) n.k = true) (h : VL P m n B w0 ops Q rest ((d, .agg vs.toArray) :: env) H) :
    VL P m n B w0 ops Q (⟨some d, .load t x, ty, pos, after, none⟩ :: rest) env H := by
  refine Yds T hx hm ht (Nat.eq_of_beq_eq_true hk) (fun j v hj => ?_) hn h
  rw [← hv, subL, List.getElem?_take] at hj
  split at hj
  · rw [List.getElem?_drop] at hj
    simpa using hj
  · cases hj
end
def YdR (l : List Oper) (k s : Nat) : Bool := match l[k]? with
  | some o => match o.op with
    | .call c => match c.callee with
      | .value (.tmp t) => Nat.beq t s
      | _ => false
    | _ => false
  | none => false
section
variable {P : Program} {B : Nat} {w0 : World} {Q : Exit → Act → World → Prop} {env : Env} {H : List HP}
theorem Ydk {n : Nat} {ds : List Deferred} {id : Nat} {l : List Oper} (k s : Nat) {l1 l2 : List Oper} (_ho : YdR l k s = true) (h1 : l.take k = l1) (h2 : l.drop k = l2) (hlo : ¬ LetsOut Q) (h : VL P none ⟨n, ds, none⟩ B w0 l.toArray (YQ P l.toArray Q l2) l1 env H) :
    VC P ⟨n, ds, none⟩ B w0 (.region id l.toArray false) Q env H := Qr k h1 h2 hlo h
theorem Ycj {n r : Nat} {ds : List Deferred} {id : Nat} {l : List Oper} (k s : Nat) {l1 l2 : List Oper} (_ho : YdR l k s = true) (h1 : l.take k = l1) (h2 : l.drop k = l2) (h : VL P none ⟨n, ds, some r⟩ B w0 l.toArray (YQr P r l.toArray Q l2) l1 env H) :
    VC P ⟨n, ds, some r⟩ B w0 (.region id l.toArray false) Q env H := Ydj k h1 h2 h
end
section
variable {P : Program} {B : Nat} {w0 : World} {env : Env} {H : List HP}
theorem YgP {n gf : Nat} {fn : Func} {c : Code} {lb : List Value} {xs : List (List Value)} {HI : List HP} (hf : P.funcs[gf]? = some fn) (hn : fn.ntmps = n) (hb : fn.body = some c) (hle : Nat.ble (lb.length + 1) n = true)
    (h : ∀ (l : Nat) (S : Nat → List HP → Prop) (X : List HP → Prop),
      (∀ (i : Nat) (args : List Value), xs[i]? = some args → ∀ (Y L : List HP), S i L →
        QC P l args B w0 (Y ++ many L :: HI) (fun K => ∃ L', S (i + 1) L' ∧ K = Y ++ many L' :: HI) (fun K => ∃ L', X L' ∧ K = Y ++ many L' :: HI)) →
      ∀ L0, S 0 L0 → VC P ⟨n, [], none⟩ B w0 c (bodyPostM Fence.wide 0 P fn (Post B w0 fun _ K => (∃ L, S xs.length L ∧ K = many L :: HI) ∨ ∃ L, X L ∧ K = many L :: HI)) (VY 0 (.func (.yield l) #[] #[] :: lb)) (many L0 :: HI)) : Ybo P gf lb xs B w0 HI := by
  intro l S X hy L0 h0 w hw
  exact callsIn_wide.2 (XF (args := .func (.yield l) #[] #[] :: lb) hf hn hb hle hw (h l S X hy L0 h0))
theorem YjZ {n : Nat} {ds : List Deferred} {fn : Func} {R : Ending → World → Prop} (h : VQ ⟨n, ds, none⟩ B w0 (bodyPostM Fence.wide 0 P fn R) .ret env H) : VQ ⟨n, ds, none⟩ B w0 (bodyPostM Fence.wide 0 P fn R) .normal env H :=
  ⟨fun a w ha hw => h.run a w ha hw⟩
end
theorem We {P : Program} {B : Nat} {w0 : World} {env : Env} {H : List HP} {n : Nat} {fn : Func} {Φ : Value → List HP → Prop} {t u s r : Nat} {v x y z : Value} (hr : fn.results = #[.tmp t, .tmp u, .tmp s, .tmp r]) (hv : get env t = some v) (hx : get env u = some x) (hy : get env s = some y) (hz : get env r = some z) (h : Φ (.tuple #[v, x, y, z]) H) :
    VQ ⟨n, [], none⟩ B w0 (bodyPost P fn (Post B w0 Φ)) .ret env H :=
  ⟨fun a w ha hw => bodyPost_ret (v := .tuple #[v, x, y, z]) (by simp [results, hr, Array.getD_eq_getD_getElem?, ha.slot t v hv, ha.slot u x hx, ha.slot s y hy, ha.slot r z hz]) ha.defers ⟨_, H, rfl, hw, h⟩⟩
theorem YhT {X : HP} {H : List HP} (h : X ∈ H) : ∃ R, Perm H [X, many R] ∧ Perm [X, many R] H := by
  obtain ⟨s, t, rfl⟩ := List.append_of_mem h
  exact ⟨s ++ t, (Perm.closeT _).trans (Perm.pull X s t []), (Perm.push X s t []).trans (Perm.openT _)⟩
end Go.Eng
namespace Go.Proofs.YtmalhidldgfeoaaGreatDoor
open Go.RowKit Go.Eng Go.Nw
theorem YiP {l : List Flw} {id : Int} (h : 0 ≤ Z2 l id) : ∃ f ∈ l, f.1 = id := by
  unfold Z2 at h
  have := (Vk (fun f : Flw => decide (f.1 = id)) l 0 (Int.le_refl _)).1 h
  obtain ⟨f, hf, hp⟩ := List.any_eq_true.1 this
  exact ⟨f, hf, of_decide_eq_true hp⟩
theorem YbP {nodes : Int} {l : List Flw} (h : (YR nodes l).2 = 0) : ∀ f ∈ l, 0 ≤ f.1 ∧ f.1 ≤ 255 ∧ 1 ≤ f.2.2.2.1 ∧ f.2.2.2.1 ≤ 512 := by
  intro f hf
  obtain ⟨i, hi⟩ := List.mem_iff_getElem?.1 hf
  have hl := (List.getElem?_eq_some_iff.1 hi).1
  unfold YR at h
  split at h
  · cases h
  split at h
  · cases h
  have := Y3.1 h i (Nat.zero_le _) (by omega)
  unfold Y4 at this
  have e : XA l i = f := by unfold XA; rw [List.getD_eq_getElem?_getD, hi]; rfl
  rw [e] at this
  split at this
  · rename_i h1; exact absurd this h1
  · rename_i h1
    have h2 : YX nodes f = 0 := Decidable.not_not.1 h1
    unfold YX at h2
    split at h2
    · cases h2
    split at h2
    · cases h2
    omega
structure Val (n : Net) (l : List Flw) (s : Sch) : Prop where
  whole : Zq n l s = 0
  cells : (Ji n l s).2 = 0
  twice : (VD s).2 = 0
  dist : (YbB n s).2 = 0
theorem Ydc {n : Net} {l : List Flw} {s : Sch} : (schE n l s).2 = 0 ↔ Val n l s := by
  unfold schE
  by_cases h1 : Zq n l s ≠ 0
  · rw [if_pos h1]
    exact ⟨fun h => absurd h h1, fun h => absurd h.whole h1⟩
  rw [if_neg h1]
  by_cases h2 : (Ji n l s).2 ≠ 0
  · rw [if_pos h2]
    exact ⟨fun h => absurd h h2, fun h => absurd h.cells h2⟩
  rw [if_neg h2]
  by_cases h3 : (VD s).2 ≠ 0
  · rw [if_pos h3]
    exact ⟨fun h => absurd h h3, fun h => absurd h.twice h3⟩
  rw [if_neg h3]
  exact ⟨fun h => ⟨Decidable.not_not.1 h1, Decidable.not_not.1 h2, Decidable.not_not.1 h3, h⟩, fun h => h.dist⟩
theorem WK {n : Net} {l : List Flw} {s : Sch} (h : Zq n l s = 0) : YF n = 0 ∧ (YR n.nodes l).2 = 0 ∧ ZZ s = true ∧ (∀ f ∈ l, s.len.tmod f.2.2.2.1 = 0) ∧ s.cells.length ≤ 512 := by
  unfold Zq at h
  by_cases h1 : YF n = 0
  rotate_left
  · rw [if_pos h1] at h; cases h
  rw [if_neg (fun e => e h1)] at h
  by_cases h2 : (YR n.nodes l).2 = 0
  rotate_left
  · rw [if_pos h2] at h; cases h
  rw [if_neg (fun e => e h2)] at h
  cases h3 : ZZ s with
  | false => rw [h3, if_pos rfl] at h; cases h
  | true =>
    rw [h3, if_neg (by decide)] at h
    split at h
    · cases h
    rename_i h4
    split at h
    · cases h
    refine ⟨h1, h2, rfl, fun f hf => ?_, by omega⟩
    have := List.any_eq_false.1 (Bool.eq_false_iff.2 h4) f hf
    simpa using this
theorem Val.frm {n : Net} {l : List Flw} {s : Sch} (h : Val n l s) : Frm s := by
  obtain ⟨h1, h2, h3, h4, h5⟩ := WK h.whole
  have hok := Xe h1
  have k1 := Y3.1 h.cells
  have hids := YbP h2
  have hn := hok.n1
  have hcell : ∀ i, i < s.cells.length → Zm s (Yp s i) = true ∧ Xa n (Yz (Yp s i)) (toC (Yp s i)) = true ∧ 0 ≤ Z2 l (Xo (Yp s i)) ∧ (0 < i → Z0 (Yp s (i - 1)) (Yp s i) = true) := fun i hi => by
    have := k1 i (Nat.zero_le _) (by omega)
    unfold VH at this
    cases hp : Zm s (Yp s i) with
    | false => rw [hp, if_pos rfl] at this; cases this
    | true =>
      rw [hp, if_neg (by decide)] at this
      split at this
      · cases this
      rename_i h6
      split at this
      · cases this
      rename_i h7
      refine ⟨rfl, ?_, ?_, fun h0 => ?_⟩
      · cases hg : Xa n (Yz (Yp s i)) (toC (Yp s i)) with
        | true => rfl
        | false => exact absurd (.inl hg) h6
      · exact Int.not_lt.1 fun hlt => h6 (.inr hlt)
      · cases hc : Z0 (Yp s (i - 1)) (Yp s i) with
        | true => rfl
        | false => exact absurd ⟨h0, hc⟩ h7
  refine ⟨h3, h5, fun c hc => ?_, ?_⟩
  · obtain ⟨i, hi⟩ := List.mem_iff_getElem?.1 hc
    obtain ⟨a1, a2, a3, _⟩ := hcell i (List.getElem?_eq_some_iff.1 hi).1
    rw [ZB hi] at a1 a2 a3
    have hg := UZ hok a2
    obtain ⟨f, hf, hfe⟩ := YiP a3
    have hid := hids f hf
    unfold Yz toC Xo at *
    unfold JF insE
    rw [a1, decide_eq_true (by omega), decide_eq_true (by omega), decide_eq_true (by omega)]
    rfl
  · refine Wx (lt := Z0) (fun h1 h2 => Ybw h1 h2) fun i a b ha hb => ?_
    have := (hcell (i + 1) (List.getElem?_eq_some_iff.1 hb).1).2.2.2 (by omega)
    rw [Nat.add_sub_cancel, ZB ha, ZB hb] at this
    exact this
open Go.RowKit Go.Eng Go.Nw
def cpN (n : Net) (node : Int) (d : Cel) : Int := powN n (Yz d) node + powN n (toC d) node
def sumC (n : Net) (node : Int) (l : List Cel) : Int := (l.map (cpN n node)).sum
theorem Oi (n : Net) (node : Int) (d : Cel) (l : List Cel) : sumC n node (d :: l) = cpN n node d + sumC n node l := by unfold sumC; rw [List.map_cons, List.sum_cons]
theorem Yjw {n : Net} (h : Ok n) (node : Int) {l m : List Cel} (hs : l.Sublist m) : sumC n node l ≤ sumC n node m := by
  induction hs with
  | slnil => exact Int.le_refl _
  | @cons l m d _ ih =>
    rw [Oi]
    have h1 := Vw h (Yz d) node
    have h2 := Vw h (toC d) node
    unfold cpN
    omega
  | cons_cons d _ ih => rw [Oi, Oi]; omega
def QV (n : Net) (l : List Cel) (c : Cel) (node : Int) : Int := sumC n node (l.filter fun d => Xn c d && decide (d ≠ c))
def WO (n : Net) (l : List Cel) (c : Cel) : Bool := ZX n (mar n (YC n (Yz c) (toC c)).toNat) (QV n l c (toC c)) && ZX n (mar n (YC n (toC c) (Yz c)).toNat) (QV n l c (Yz c))
structure Sem (n : Net) (l : List Flw) (s : Sch) : Prop where
  ck : YF n = 0
  fl : (YR n.nodes l).2 = 0
  per : ∀ f ∈ l, s.len.tmod f.2.2.2.1 = 0
  frm : Frm s
  good : ∀ c ∈ s.cells, Xa n (Yz c) (toC c) = true ∧ 0 ≤ Z2 l (Xo c)
  once : s.cells.Pairwise fun a b => a.1 = b.1 → Un a b = false
  clear : ∀ c ∈ s.cells, WO n s.cells c = true
theorem Q9 {n : Net} (h : Ok n) {s d e : Int} (he : e ≤ d) (hd : ZX n s d = true) : ZX n s e = true := by
  unfold ZX at hd ⊢
  have h1 := of_decide_eq_true hd
  have h2 := h.t0
  have h3 : n.thr * (n.noise + e) ≤ n.thr * (n.noise + d) := Int.mul_le_mul_of_nonneg_left (by omega) (by omega)
  exact decide_eq_true (by omega)
theorem Sem.sub {n : Net} {l : List Flw} {s t : Sch} (h : Sem n l s) (h1 : t.len = s.len) (h2 : t.off = s.off) (hs : t.cells.Sublist s.cells) : Sem n l t := by
  have hok := Xe h.ck
  have hlen := hs.length_le
  have hfew := h.frm.few
  refine ⟨h.ck, h.fl, by rw [h1]; exact h.per, ⟨?_, by omega, fun c hc => ?_, h.frm.ord.sublist hs⟩, fun c hc => h.good c (hs.subset hc), h.once.sublist hs, fun c hc => ?_⟩
  · have := h.frm.sized
    unfold ZZ at this ⊢
    rw [h1, h2]; exact this
  · have := h.frm.formed c (hs.subset hc)
    unfold JF Zm at this ⊢
    rw [h1, h2]; exact this
  · have := h.clear c (hs.subset hc)
    unfold WO at this ⊢
    simp only [Bool.and_eq_true] at this ⊢
    have hd : ∀ node, QV n t.cells c node ≤ QV n s.cells c node := fun node => Yjw hok node (hs.filter _)
    exact ⟨Q9 hok (hd _) this.1, Q9 hok (hd _) this.2⟩
open Go.RowKit Go.Eng Go.Nw
def Yh5 (n : Net) (l : List Flw) (s : Sch) : Prop := ∀ c ∈ s.cells, Xa n (Yz c) (toC c) = true ∧ 0 ≤ Z2 l (Xo c)
def Yh6 (s : Sch) : Prop := s.cells.Pairwise fun a b => a.1 = b.1 → Un a b = false
def Ye6 (n : Net) (s : Sch) : Prop := ∀ c ∈ s.cells, WO n s.cells c = true
theorem Yjl (s : Sch) (k : Nat) : repC s (k + 1) = repC s k ++ s.cells.map (movC ((k : Int) * s.len)) := by
  unfold repC
  rw [List.range_succ, List.flatMap_append]
  simp
theorem Qj {s : Sch} {k : Nat} {x : Cel} : x ∈ repC s k ↔ ∃ i, i < k ∧ ∃ c ∈ s.cells, x = movC ((i : Int) * s.len) c := by
  unfold repC
  simp only [List.mem_flatMap, List.mem_range, List.mem_map]
  constructor
  · rintro ⟨i, hi, c, hc, rfl⟩; exact ⟨i, hi, c, hc, rfl⟩
  · rintro ⟨i, hi, c, hc, rfl⟩; exact ⟨i, hi, c, hc, rfl⟩
theorem Yet {i j : Nat} {L : Int} (hL : 0 ≤ L) (h : i < j) : (i : Int) * L + L ≤ (j : Int) * L := by
  have h1 : ((i : Int) + 1) * L ≤ (j : Int) * L := Int.mul_le_mul_of_nonneg_right (by omega) hL
  rw [Int.add_mul] at h1
  omega
theorem YgM {s : Sch} (hf : Frm s) {c : Cel} (hc : c ∈ s.cells) : 0 ≤ c.1 ∧ c.1 < s.len := by
  have := hf.formed c hc
  unfold JF Zm insE at this
  simp only [Bool.and_eq_true, decide_eq_true_eq] at this
  exact this.1.1.1.1
theorem Ycc {s : Sch} (hf : Frm s) {c d : Cel} (hc : c ∈ s.cells) (hd : d ∈ s.cells) {i j : Nat} (h : c.1 + (i : Int) * s.len = d.1 + (j : Int) * s.len) : i = j ∧ c.1 = d.1 := by
  have h1 := YgM hf hc
  have h2 := YgM hf hd
  rcases Nat.lt_trichotomy i j with h3 | h3 | h3
  · have := Yet (L := s.len) (by omega) h3; omega
  · subst h3; exact ⟨rfl, by omega⟩
  · have := Yet (L := s.len) (by omega) h3; omega
structure Rep (s t : Sch) (k : Nat) : Prop where
  k1 : 1 ≤ k
  frm : Frm s
  len : t.len = s.len * k
  off : t.off = s.off
  cells : t.cells = repC s k
  l512 : s.len * k ≤ 512
  c512 : s.cells.length * k ≤ 512
theorem YaC {s : Sch} {p q : Cel → Bool} {j0 : Nat} (hq : ∀ d ∈ s.cells, p (movC ((j0 : Int) * s.len) d) = q d) : ∀ {m : Nat}, (∀ j, j < m → j ≠ j0 → ∀ d ∈ s.cells, p (movC ((j : Int) * s.len) d) = false) → (repC s m).filter p = if j0 < m then (s.cells.filter q).map (movC ((j0 : Int) * s.len)) else []
  | 0, _ => by simp [repC]
  | m + 1, h => by
    rw [Yjl, List.filter_append, YaC hq fun j hj => h j (by omega), List.filter_map]
    by_cases e : m = j0
    · subst e
      rw [if_neg (by omega), if_pos (by omega), List.nil_append]
      congr 1
      exact List.filter_congr fun d hd => hq d hd
    · have hz : s.cells.filter (p ∘ movC ((m : Int) * s.len)) = [] := by
        rw [List.filter_eq_nil_iff]
        intro d hd
        show ¬ p (movC ((m : Int) * s.len) d) = true
        rw [h m (by omega) e d hd]; simp
      rw [hz, List.map_nil, List.append_nil]
      by_cases h2 : j0 < m
      · rw [if_pos h2, if_pos (by omega)]
      · rw [if_neg h2, if_neg (by omega)]
theorem YkF (n : Net) (node d : Int) (l : List Cel) : sumC n node (l.map (movC d)) = sumC n node l := by
  unfold sumC
  rw [List.map_map]
  rfl
theorem Rep.dist {s t : Sch} {k : Nat} (h : Rep s t k) (n : Net) {i : Nat} (hi : i < k) {c : Cel} (hc : c ∈ s.cells) (node : Int) : QV n t.cells (movC ((i : Int) * s.len) c) node = QV n s.cells c node := by
  unfold QV
  rw [h.cells, YaC (j0 := i) (q := fun d => Xn c d && decide (d ≠ c)), if_pos hi, YkF]
  · intro d hd
    have h2 : (movC ((i : Int) * s.len) d ≠ movC ((i : Int) * s.len) c) ↔ d ≠ c := by
      constructor
      · intro h3 e; subst e; exact h3 rfl
      · intro h3 e
        apply h3
        obtain ⟨d1, d2⟩ := d
        obtain ⟨c1, c2⟩ := c
        unfold movC at e
        injection e with e1 e2
        simp only at e1 e2
        subst e2
        have : d1 = c1 := by omega
        rw [this]
    show (Xn _ _ && decide _) = (Xn _ _ && decide _)
    rw [decide_eq_decide.2 h2]
    congr 1
    unfold Xn movC
    rw [decide_eq_decide]
    simp only
    omega
  · intro j hj hne d hd
    have : Xn (movC ((i : Int) * s.len) c) (movC ((j : Int) * s.len) d) = false := by
      unfold Xn movC
      refine decide_eq_false ?_
      rintro ⟨h3, _⟩
      exact hne (Ycc h.frm hd hc h3).1
    rw [this]; rfl
theorem Rep.good {s t : Sch} {k : Nat} (h : Rep s t k) (n : Net) (l : List Flw) : Yh5 n l t ↔ Yh5 n l s := by
  unfold Yh5
  rw [h.cells]
  constructor
  · intro hg c hc
    exact hg (movC (((0 : Nat) : Int) * s.len) c) (Qj.2 ⟨0, h.k1, c, hc, rfl⟩)
  · intro hg x hx
    obtain ⟨i, _, c, hc, rfl⟩ := Qj.1 hx
    exact hg c hc
theorem Rep.once {s t : Sch} {k : Nat} (h : Rep s t k) : Yh6 t ↔ Yh6 s := by
  unfold Yh6
  rw [h.cells]
  unfold repC
  rw [List.pairwise_flatMap]
  constructor
  · rintro ⟨h1, _⟩
    have := h1 0 (List.mem_range.2 h.k1)
    rw [List.pairwise_map] at this
    exact this.imp fun {a b} hab e => hab (by simp only [movC]; omega)
  · intro ho
    refine ⟨fun i _ => ?_, ?_⟩
    · rw [List.pairwise_map]
      exact ho.imp fun {a b} hab e => hab (by simp only [movC] at e; omega)
    · refine List.pairwise_lt_range.imp fun {i j} hij x hx y hy e => ?_
      obtain ⟨a, ha, rfl⟩ := List.mem_map.1 hx
      obtain ⟨b, hb, rfl⟩ := List.mem_map.1 hy
      have := (Ycc h.frm ha hb e).1
      omega
theorem Rep.clear {s t : Sch} {k : Nat} (h : Rep s t k) (n : Net) : Ye6 n t ↔ Ye6 n s := by
  have hc : ∀ i, i < k → ∀ c ∈ s.cells, WO n t.cells (movC ((i : Int) * s.len) c) = WO n s.cells c := fun i hi c hc => by
    unfold WO
    have e1 : Yz (movC ((i : Int) * s.len) c) = Yz c := rfl
    have e2 : toC (movC ((i : Int) * s.len) c) = toC c := rfl
    rw [e1, e2, h.dist n hi hc, h.dist n hi hc]
  unfold Ye6
  constructor
  · intro hg c hcm
    rw [← hc 0 h.k1 c hcm]
    exact hg _ (by rw [h.cells]; exact Qj.2 ⟨0, h.k1, c, hcm, rfl⟩)
  · intro hg x hx
    rw [h.cells] at hx
    obtain ⟨i, hi, c, hcm, rfl⟩ := Qj.1 hx
    rw [hc i hi c hcm]
    exact hg c hcm
open Go.RowKit Go.Eng Go.Nw
abbrev ints (A : Option Addr) (cap : Nat) (l : List Int) : HP := sl 3 1 A l.length cap (l.flatMap numF)
theorem Jd {l : List Int} {k : Nat} {a : Int} (h : l[k]? = some a) : l.take (k + 1) = l.take k ++ [a] := by rw [List.take_add_one, h]; rfl
open Go.RowKit Go.Eng Go.Nw
theorem NetM.In.mono {B : Nat} {w0 : World} {H K : List HP} {n : NetM} (h : n.In B w0 H) (hH : ∀ w, St B w0 K w → St B w0 H w) : n.In B w0 K :=
  ⟨h.pw.mono hH, fun r hr => (h.rw_ r hr).mono hH, h.lk.mono hH, h.mg.mono hH, h.s1, h.s2, h.s3, h.s4⟩
open Go.RowKit Go.Eng Go.Nw Go.Rt
theorem Ydb {n : Net} (h : YF n = 0) (a b : Int) : Uo n (Zh n a b) = Xa n a b := by
  have hok := Xe h
  unfold Uo Zh
  rw [if_neg (by simp [h]), decide_eq_true h, Bool.true_and]
  by_cases h1 : 0 ≤ YC n a b
  · have h2 := ZJ h1
    rw [decide_eq_true ⟨h1, by omega⟩, Bool.true_and, OY hok h2]
    obtain ⟨e1, e2⟩ := V8 h1
    rw [e1, e2]
  · rw [decide_eq_false (fun h => h1 h.1), Bool.false_and]
    unfold Xa
    rw [decide_eq_false h1, Bool.false_and]
def offE (n : Net) (a : Int) : Bool := decide (a < 0 ∨ n.nodes ≤ a)
def Wo (n : Net) (s t : Int) : Int := if YF n ≠ 0 then 1 else if offE n s = true ∨ offE n t = true ∨ s = t then 2 else 0
def U8 (r : List Int) : Bool := (List.range r.length).any fun i => (r.take i).contains (r.getD i 0)
def Uv (n : Net) (r : List Int) : Bool := (List.range (r.length - 1)).any fun i => !Xa n (r.getD i 0) (r.getD (i + 1) 0)
def QY (n : Net) (s t : Int) (r : List Int) : Int :=
  if r.length < 2 then 9 else if 9 < r.length then 8 else if r.any (offE n) = true then 2 else if r.getD 0 0 ≠ s ∨ r.getD (r.length - 1) 0 ≠ t then 11
  else if U8 r = true then 6 else if Uv n r = true then 17 else 0
def YiZ (n : Net) (a b : Int) : Int := (lnk n (YC n a b).toNat).2.2
def XQ (n : Net) (s t : Int) (r : List Int) : Int := if Wo n s t ≠ 0 then Wo n s t else QY n s t r
theorem QF {p : Nat → Bool} {k : Nat} : (List.range (k + 1)).any p = ((List.range k).any p || p k) := by
  rw [List.range_succ, List.any_append]; simp
theorem Jm {l : List Int} {i : Nat} (h : i < l.length) : l[i]? = some (l.getD i 0) := by
  rw [List.getD_eq_getElem?_getD, List.getElem?_eq_getElem h]; rfl
theorem Ykk {n : Net} (h : Ok n) (a b : Int) : 0 ≤ YiZ n a b ∧ YiZ n a b ≤ 7 := by
  unfold YiZ
  by_cases hi : (YC n a b).toNat < n.links.length
  · have := h.lk _ hi
    exact ⟨this.l0, this.l1⟩
  · rw [show lnk n (YC n a b).toNat = (0, 0, 0) by simp [lnk, List.getD, List.getElem?_eq_none (Nat.le_of_not_lt hi)]]
    decide
open Go.RowKit Go.Eng Go.Nw Go.Rt
def onP (id a b : Int) (c : Cel) : Bool := decide (Xo c = id ∧ Yz c = a ∧ toC c = b)
def Xk (s : Sch) (id : Int) (l : Lk) : List Cel := s.cells.filter (onP id l.1 l.2.1)
def Y5 (len a : Int) : List Cel → Nat → List (Cel × Int)
  | [], _ => []
  | c :: cs, k => if c.1 = a.tmod len ∧ k ≠ 0 then (c, a) :: Y5 len a cs (k - 1) else Y5 len a cs k
def hopP (len : Int) (cs : List Cel) : Nat → Nat → Int → List (Cel × Int)
  | 0, _, _ => []
  | f + 1, k, a => Y5 len a cs k ++ hopP len cs f (k - (Y5 len a cs k).length) (a + 1)
def Yx (x : List (Cel × Int)) (a : Int) : Int := match x.getLast? with | some z => z.2 + 1 | none => a
def YL (l : Lk) : Nat := (l.2.2 + 1).toNat
def runP (len : Int) (C : Lk → List Cel) (endd : Int) : List Lk → Int → List (Cel × Int)
  | [], _ => []
  | l :: ls, a => if (hopP len (C l) (endd - a).toNat (YL l) a).length < YL l then hopP len (C l) (endd - a).toNat (YL l) a
    else hopP len (C l) (endd - a).toNat (YL l) a ++ runP len C endd ls (Yx (hopP len (C l) (endd - a).toNat (YL l) a) a)
def Y8 (ls : List Lk) : Nat := (ls.map YL).sum
theorem WF (len a : Int) : ∀ (cs : List Cel) (k : Nat), (Y5 len a cs k).length ≤ k
  | [], k => Nat.zero_le _
  | c :: cs, k => by
    unfold Y5
    split
    · rename_i h
      have := WF len a cs (k - 1)
      rw [List.length_cons]; omega
    · exact WF len a cs k
theorem Ul {len a : Int} : ∀ {cs : List Cel} {k : Nat} {z : Cel × Int}, z ∈ Y5 len a cs k → z.2 = a
  | [], k, z, h => by cases h
  | c :: cs, k, z, h => by
    unfold Y5 at h
    split at h
    · rcases List.mem_cons.1 h with rfl | h
      · rfl
      · exact Ul h
    · exact Ul h
theorem Wr (len : Int) (cs : List Cel) : ∀ (f k : Nat) (a : Int), (hopP len cs f k a).length ≤ k
  | 0, k, a => Nat.zero_le _
  | f + 1, k, a => by
    unfold hopP
    have h1 := WF len a cs k
    have h2 := Wr len cs f (k - (Y5 len a cs k).length) (a + 1)
    rw [List.length_append]; omega
theorem YiT (len : Int) (cs : List Cel) (f : Nat) (a : Int) : hopP len cs f 0 a = [] := List.eq_nil_of_length_eq_zero (Nat.le_zero.1 (Wr len cs f 0 a))
theorem Uy {len : Int} {cs : List Cel} : ∀ {f k : Nat} {a : Int} {z : Cel × Int}, z ∈ hopP len cs f k a → a ≤ z.2 ∧ z.2 < a + f
  | 0, k, a, z, h => by cases h
  | f + 1, k, a, z, h => by
    unfold hopP at h
    rcases List.mem_append.1 h with h | h
    · have := Ul h; omega
    · have := Uy h; omega
theorem Qk (len : Int) (C : Lk → List Cel) (endd : Int) : ∀ (ls : List Lk) (a : Int), (runP len C endd ls a).length ≤ Y8 ls
  | [], a => Nat.zero_le _
  | l :: ls, a => by
    have h1 := Wr len (C l) (endd - a).toNat (YL l) a
    have h2 := Qk len C endd ls (Yx (hopP len (C l) (endd - a).toNat (YL l) a) a)
    have h3 : Y8 (l :: ls) = YL l + Y8 ls := by unfold Y8; rw [List.map_cons, List.sum_cons]
    unfold runP
    split
    · omega
    · rw [List.length_append]; omega
theorem Yiy {x : List (Cel × Int)} {a b : Int} (h : ∀ z ∈ x, a ≤ z.2 ∧ z.2 < b) (hab : a ≤ b) : a ≤ Yx x a ∧ Yx x a ≤ b := by
  unfold Yx
  cases hx : x.getLast? with
  | none => exact ⟨Int.le_refl _, hab⟩
  | some z =>
    have := h z (List.mem_of_getLast? hx)
    simp only
    omega
theorem Ql {len : Int} {C : Lk → List Cel} {endd : Int} : ∀ {ls : List Lk} {a : Int} {z : Cel × Int}, a ≤ endd → z ∈ runP len C endd ls a → a ≤ z.2 ∧ z.2 < endd
  | [], a, z, _, h => by cases h
  | l :: ls, a, z, hae, h => by
    have hb : ∀ z ∈ hopP len (C l) (endd - a).toNat (YL l) a, a ≤ z.2 ∧ z.2 < endd := fun z hz => by
      have := Uy hz; omega
    unfold runP at h
    split at h
    · exact hb z h
    · rcases List.mem_append.1 h with h | h
      · exact hb z h
      · have h1 := Yiy hb hae
        have := Ql h1.2 h
        omega
def VN (len : Int) (C : Lk → List Cel) (endd : Int) (cs : List Cel) (ls : List Lk) (f k : Nat) (a at_ : Int) : List (Cel × Int) :=
  if (hopP len cs f k a).length < k then hopP len cs f k a else hopP len cs f k a ++ runP len C endd ls (Yx (hopP len cs f k a) at_)
theorem Yjq (len : Int) (C : Lk → List Cel) (endd : Int) (l : Lk) (ls : List Lk) (a : Int) : runP len C endd (l :: ls) a = VN len C endd (C l) ls (endd - a).toNat (YL l) a a := rfl
theorem YhV (len : Int) (C : Lk → List Cel) (endd : Int) (cs : List Cel) (ls : List Lk) (f : Nat) (a at_ : Int) : VN len C endd cs ls f 0 a at_ = runP len C endd ls at_ := by
  unfold VN
  rw [YiT, if_neg (Nat.not_lt_zero _)]
  rfl
theorem Yjx {len : Int} {C : Lk → List Cel} {endd : Int} {cs : List Cel} {ls : List Lk} {k : Nat} {a at_ : Int} (hk : k ≠ 0) : VN len C endd cs ls 0 k a at_ = [] := by
  unfold VN
  rw [if_pos (by simp [hopP]; omega)]
  rfl
theorem Yg1 {x y : List (Cel × Int)} {a b : Int} (hy : ∀ z ∈ y, z.2 + 1 = b) : Yx (y ++ x) a = Yx x (if y = [] then a else b) := by
  unfold Yx
  cases hx : x.getLast? with
  | some z => rw [List.getLast?_append, hx]; rfl
  | none =>
    obtain rfl := List.getLast?_eq_none_iff.1 hx
    rw [List.append_nil]
    cases hy2 : y.getLast? with
    | none =>
      obtain rfl := List.getLast?_eq_none_iff.1 hy2
      rfl
    | some z =>
      have hne : y ≠ [] := fun e => by rw [e] at hy2; cases hy2
      rw [if_neg hne]
      exact hy z (List.mem_of_getLast? hy2)
theorem YhW (len : Int) (C : Lk → List Cel) (endd : Int) (cs : List Cel) (ls : List Lk) (f k : Nat) (a at_ : Int) :
    VN len C endd cs ls (f + 1) k a at_ = Y5 len a cs k ++ VN len C endd cs ls f (k - (Y5 len a cs k).length) (a + 1) (if Y5 len a cs k = [] then at_ else a + 1) := by
  have hl := WF len a cs k
  have h1 : hopP len cs (f + 1) k a = Y5 len a cs k ++ hopP len cs f (k - (Y5 len a cs k).length) (a + 1) := rfl
  unfold VN
  rw [h1, List.length_append]
  by_cases h2 : (hopP len cs f (k - (Y5 len a cs k).length) (a + 1)).length < k - (Y5 len a cs k).length
  · rw [if_pos h2, if_pos (by omega)]
  · rw [if_neg h2, if_neg (by omega), Yg1 (b := a + 1) (fun z hz => by rw [Ul hz]), List.append_assoc]
def UP (len : Int) (C : Lk → List Cel) (endd : Int) (cs cs' : List Cel) (ls : List Lk) (f k : Nat) (a at_ : Int) : List (Cel × Int) :=
  Y5 len a cs' k ++ VN len C endd cs ls f (k - (Y5 len a cs' k).length) (a + 1) (if Y5 len a cs' k = [] then at_ else a + 1)
theorem Yjm (len : Int) (C : Lk → List Cel) (endd : Int) (cs : List Cel) (ls : List Lk) (f k : Nat) (a at_ : Int) : UP len C endd cs cs ls f k a at_ = VN len C endd cs ls (f + 1) k a at_ := (YhW ..).symm
theorem Yjn (len : Int) (C : Lk → List Cel) (endd : Int) (cs : List Cel) (ls : List Lk) (f k : Nat) (a at_ : Int) : UP len C endd cs [] ls f k a at_ = VN len C endd cs ls f k (a + 1) at_ := by
  simp [UP, Y5]
theorem Yjo {len : Int} {C : Lk → List Cel} {endd : Int} {cs cs' : List Cel} {c : Cel} {ls : List Lk} {f k : Nat} {a at_ : Int} (h : c.1 = a.tmod len) (hk : k ≠ 0) :
    UP len C endd cs (c :: cs') ls f k a at_ = (c, a) :: UP len C endd cs cs' ls f (k - 1) a (a + 1) := by
  have h1 : Y5 len a (c :: cs') k = (c, a) :: Y5 len a cs' (k - 1) := by rw [Y5, if_pos ⟨h, hk⟩]
  unfold UP
  rw [h1, List.length_cons, if_neg (List.cons_ne_nil _ _), show k - ((Y5 len a cs' (k - 1)).length + 1) = k - 1 - (Y5 len a cs' (k - 1)).length by omega]
  simp
theorem YkA {len : Int} {C : Lk → List Cel} {endd : Int} {cs cs' : List Cel} {c : Cel} {ls : List Lk} {f k : Nat} {a at_ : Int} (h : ¬ (c.1 = a.tmod len ∧ k ≠ 0)) :
    UP len C endd cs (c :: cs') ls f k a at_ = UP len C endd cs cs' ls f k a at_ := by
  unfold UP
  rw [Y5, if_neg h]
def runR (len : Int) (C : Lk → List Cel) (endd : Int) : List Lk → Int → Option (List Int)
  | [], _ => some []
  | l :: ls, a => if (hopP len (C l) (endd - a).toNat (YL l) a).length < YL l then none
    else (runR len C endd ls (Yx (hopP len (C l) (endd - a).toNat (YL l) a) a)).map fun y => (hopP len (C l) (endd - a).toNat (YL l) a).map Prod.snd ++ y
theorem Yc6 (len : Int) (C : Lk → List Cel) (endd : Int) : ∀ (ls : List Lk) (a : Int), runR len C endd ls a = if (runP len C endd ls a).length < Y8 ls then none else some ((runP len C endd ls a).map Prod.snd)
  | [], a => rfl
  | l :: ls, a => by
    have h3 : Y8 (l :: ls) = YL l + Y8 ls := by unfold Y8; rw [List.map_cons, List.sum_cons]
    have hl := Wr len (C l) (endd - a).toNat (YL l) a
    unfold runR runP
    by_cases h : (hopP len (C l) (endd - a).toNat (YL l) a).length < YL l
    · rw [if_pos h, if_pos h, if_pos (by omega)]
    · rw [if_neg h, if_neg h, Yc6 len C endd ls]
      by_cases h4 : (runP len C endd ls (Yx (hopP len (C l) (endd - a).toNat (YL l) a) a)).length < Y8 ls
      · rw [if_pos h4, if_pos (by rw [List.length_append]; omega)]; rfl
      · rw [if_neg h4, if_neg (by rw [List.length_append]; omega)]; simp
def X0 (n : Net) (r : List Int) (i : Nat) : Lk := lnk n (YC n (r.getD i 0) (r.getD (i + 1) 0)).toNat
def YB (n : Net) (r : List Int) : List Lk := (List.range (r.length - 1)).map (X0 n r)
def YaQ (n : Net) (s : Sch) (f : Flw) (r : List Int) (release : Int) : Option (List Int) := runR s.len (Xk s f.1) (release + f.2.2.2.1) (YB n r) release
def ZN (l : List Int) : Int := l.getD (l.length - 1) 0
def VG (S : Int → Option (List Int)) (len period : Int) : Nat → Int → Int × Int × List Int → Option (Int × Int × List Int)
  | 0, _, b => some b
  | k + 1, rel, b => if len ≤ rel then some b else match S rel with
    | none => none
    | some l => VG S len period k (rel + period) (if b.1 < ZN l - rel + 1 then (ZN l - rel + 1, rel, l.map fun z => z - rel) else b)
def VZ (n : Net) (s : Sch) (f : Flw) (r : List Int) : Option (Int × Int × List Int) := VG (YaQ n s f r) s.len f.2.2.2.1 s.len.toNat f.2.2.2.2.1 (0, 0, [])
def wayE (n : Net) (s : Sch) (f : Flw) (r : List Int) : Int :=
  if YF n ≠ 0 ∨ Y7 s = false ∨ YX n.nodes f ≠ 0 then 1 else if s.len.tmod f.2.2.2.1 ≠ 0 then 11 else XQ n f.2.1 f.2.2.1 r
def YS (n : Net) (s : Sch) (f : Flw) (r : List Int) : (Int × Int × List Int) × Int :=
  if wayE n s f r ≠ 0 then ((0, 0, []), wayE n s f r) else match VZ n s f r with
    | none => ((0, 0, []), 15)
    | some b => (b, 0)
open Go.RowKit Go.Eng Go.Nw Go.Rt
abbrev Rqs := Flw × List (List Int)
structure Clm where
  flow : Int
  routes : List (List Int)
  bounds : List Int
  worst : List Int
  slots : List (List Int)
deriving DecidableEq
def YmE : Clm := ⟨0, [], [], [], []⟩
def V9 (q : List Rqs) : List Flw := q.map Prod.fst
def YmF : Rqs := ((0, 0, 0, 0, 0, 0), [])
def rqAt (q : List Rqs) (i : Nat) : Rqs := q.getD i YmF
def rtAt (l : List (List Int)) (k : Nat) : List Int := l.getD k []
def rtsE (n : Net) (x : Rqs) : Int :=
  if x.2.length = 0 then 14 else if 2 < x.2.length then 8
  else if (YG (fun k => XQ n x.1.2.1 x.1.2.2.1 (rtAt x.2 k)) x.2.length 0).2 ≠ 0 then (YG (fun k => XQ n x.1.2.1 x.1.2.2.1 (rtAt x.2 k)) x.2.length 0).2
  else if x.2.length = 2 ∧ rtAt x.2 0 = rtAt x.2 1 then 6 else 0
def rqsE (n : Net) (q : List Rqs) : Int × Int :=
  if YF n ≠ 0 then (-1, 1) else if (YR n.nodes (V9 q)).2 ≠ 0 then YR n.nodes (V9 q)
  else YG (fun i => rtsE n (rqAt q i)) q.length 0
def badR (n : Net) (s : Sch) (f : Flw) (r : List Int) : Bool := decide ((YS n s f r).2 ≠ 0 ∨ f.2.2.2.2.2 < (YS n s f r).1.1)
def YdY (n : Net) (s : Sch) (x : Rqs) (l : List (List Int)) : Clm :=
  ⟨x.1.1, l, l.map fun r => (YS n s x.1 r).1.1, l.map fun r => (YS n s x.1 r).1.2.1, l.map fun r => (YS n s x.1 r).1.2.2⟩
def ZO (n : Net) (s : Sch) (x : Rqs) : Bool := x.2.any (badR n s x.1)
def clmE (n : Net) (s : Sch) (x : Rqs) : Clm := YdY n s x x.2
def Zt (n : Net) (q : List Rqs) (s : Sch) : List Clm × (Int × Int) :=
  if (rqsE n q).2 ≠ 0 then ([], rqsE n q) else if (schE n (V9 q) s).2 ≠ 0 then ([], (-1, 1))
  else if (YG (fun i => if ZO n s (rqAt q i) = true then 15 else 0) q.length 0).2 ≠ 0 then ([], YG (fun i => if ZO n s (rqAt q i) = true then 15 else 0) q.length 0)
  else (q.map (clmE n s), (-1, 0))
def Jj (c : List Clm) (i : Nat) : Clm := c.getD i YmE
def chkE (n : Net) (q : List Rqs) (s : Sch) (c : List Clm) : Int × Int :=
  if (Zt n q s).2.2 ≠ 0 then (Zt n q s).2 else if c.length ≠ (Zt n q s).1.length then (-1, 11)
  else YG (fun i => if Jj c i = Jj (Zt n q s).1 i then 0 else 20) c.length 0
def minI : List Int → Int
  | [] => 0
  | a :: l => l.foldl (fun x y => if y < x then y else x) a
def bndE (c : List Clm) (id : Int) : Int × Bool :=
  match c.find? (fun x => decide (x.flow = id) && decide (0 < x.bounds.length)) with
  | none => (0, false)
  | some x => (minI x.bounds, true)
open Go.RowKit Go.Eng Go.Nw Go.Rt
theorem YbK (n : NetM) (s t : Int) {B : Nat} {w0 : World} {H : List HP} {w : World} (hin : n.In B w0 H) (hw : St B w0 H w) :
    Calls Tryz.prog 205 [n.val, .int .i64 s, .int .i64 t].toArray w (Post B w0 fun v K => v = .int .i64 (Wo n.net s t) ∧ K = H) := by
  refine Yf Tryz.func205 Tryz.ntmps205 rfl rfl hw ?_
  have e7 : n.net.nodes = n.nodes := rfl
  unfold Wo offE
  rw [e7]
  by_cases h0 : YF n.net = 0
  rotate_left
  · rw [if_pos h0]
    repeat' (first | ((first | apply Ya en50 | apply Yb en50); exact za; exact rfl; exact fun _ hw => (YT n hin.cons hw)) | refine zgc ?_ | (refine zge ?_ ?_ <;> intro _ <;> try (exfalso; omega)) | (refine zgh ?_; intro _) | fail)
    all_goals ((repeat apply Ys); apply Yg; exact rfl; exact rfl; exact ⟨rfl, rfl⟩)
  rw [if_neg (fun h => h h0)]
  have hck := fun {H : List HP} {w : World} (hin : n.In B w0 H) (hw : St B w0 H w) => YT n hin hw
  rw [h0] at hck
  simp only [decide_eq_true_eq]
  by_cases h1 : (s < 0 ∨ n.nodes ≤ s) ∨ (t < 0 ∨ n.nodes ≤ t) ∨ s = t
  · rw [if_pos h1]
    repeat' (first | ((first | apply Ya en50 | apply Yb en50); exact za; exact rfl; exact fun _ hw => (hck hin.cons hw)) | refine zgc ?_ | (refine zgf ?_ ?_ <;> intro _ <;> try (exfalso; omega)) | (refine zgh ?_; intro _) | fail)
    all_goals ((repeat apply Ys); apply Yg; exact rfl; exact rfl; exact ⟨rfl, rfl⟩)
  · rw [if_neg h1]
    repeat' (first | ((first | apply Ya en50 | apply Yb en50); exact za; exact rfl; exact fun _ hw => (hck hin.cons hw)) | refine zgc ?_ | (refine zgf ?_ ?_ <;> intro _ <;> try (exfalso; omega)) | (refine zgh ?_; intro _) | fail)
    all_goals ((repeat apply Ys); apply Yg; exact rfl; exact rfl; exact ⟨rfl, rfl⟩)
theorem Yd8 (n : NetM) (a : Int) (g : Nat) {B : Nat} {w0 : World} {H : List HP} {w : World} (hm : netB g n ∈ H) (hw : St B w0 H w) :
    Calls Tryz.prog 245 [.int .i64 a, .pointer (some ⟨g, 0, none⟩)].toArray w (Post B w0 fun v K => v = .bool (offE n.net a) ∧ K = H) := by
  refine Yf Tryz.func245 Tryz.ntmps245 rfl rfl hw ?_
  have e7 : n.net.nodes = n.nodes := rfl
  unfold offE
  rw [e7]
  by_cases h : a < 0 ∨ n.nodes ≤ a
  · rw [decide_eq_true h]
    repeat' (first | refine zgc ?_ | (refine zgf ?_ ?_ <;> intro _ <;> try (exfalso; omega)) | fail)
    all_goals (apply Yg; exact rfl; exact rfl; exact ⟨rfl, rfl⟩)
  · rw [decide_eq_false h]
    repeat' (first | refine zgc ?_ | (refine zgf ?_ ?_ <;> intro _ <;> try (exfalso; omega)) | fail)
    all_goals (apply Yg; exact rfl; exact rfl; exact ⟨rfl, rfl⟩)
open Go.RowKit Go.Eng Go.Nw
theorem OD (l : List Int) (v : Int) (hlen : l.length ≤ 9223372036854775807) {A : Option Addr} {cap B : Nat} {w0 : World} {H : List HP} {w : World} (hr : Rd B w0 H A (l.flatMap numF)) (hw : St B w0 H w) :
    Calls Tryz.prog 45 [.slice A l.length cap, .int .i64 v].toArray w (Post B w0 fun u K => u = .int .i64 (Yq (fun x => decide (v = x)) l 0) ∧ K = H) := by
  refine Yf Tryz.func45 Tryz.ntmps45 rfl rfl hw ?_
  repeat' (first | refine zgb ?_ | fail)
  refine Yn (fun (k : Nat) => [(8, .int .i64 k), (7, .int .i64 l.length), (0, .slice A l.length cap), (1, .int .i64 v)]) (fun _ => H) (fun k => k ≤ l.length ∧ Yq (fun x => decide (v = x)) l 0 = Yq (fun x => decide (v = x)) (l.drop k) k) (fun k => l.length - k) 0 ⟨Nat.zero_le _, by simp⟩ ?_ (fun w hw => hw) ?_
  · exact zu
  rintro k ⟨hk, hi⟩ K hK
  by_cases hlt : k < l.length
  · obtain ⟨a, ha⟩ : ∃ a, l[k]? = some a := ⟨_, List.getElem?_eq_getElem hlt⟩
    rw [Jo _ l ha] at hi
    repeat' (first | refine zgd ?_ | (refine zgf ?_ ?_ <;> intro _ <;> try (exfalso; omega)) | fail)
    · rename_i h
      rw [if_pos (decide_eq_true h)] at hi
      ((repeat apply Ys); apply Yg; exact rfl; exact rfl; refine ⟨congrArg _ ?_, rfl⟩)
      rw [hi]
    · rename_i h
      rw [if_neg (by simp [h])] at hi
      repeat' (first | fail)
      apply hK (k + 1)
      · exact ⟨by omega, hi⟩
      · omega
      · exact zu
      · exact fun w hw => hw
  · repeat' (first | refine zgc ?_ | (refine zge ?_ ?_ <;> intro _ <;> try (exfalso; omega)) | fail)
    ((repeat apply Ys); apply Yg; exact rfl; exact rfl; refine ⟨congrArg _ ?_, rfl⟩)
    rw [hi, List.drop_eq_nil_of_le (by omega)]; rfl
theorem QQ (l : List Int) (v : Int) (hlen : l.length ≤ 9223372036854775807) {A : Option Addr} {cap B : Nat} {w0 : World} {H : List HP} {w : World} (hr : Rd B w0 H A (l.flatMap numF)) (hw : St B w0 H w) :
    Calls Tryz.prog 246 [.slice A l.length cap, .int .i64 v].toArray w (Post B w0 fun u K => u = .bool (decide (v ∈ l)) ∧ K = H) := by
  refine Yf Tryz.func246 Tryz.ntmps246 rfl rfl hw ?_
  have hia := Vk (fun x => decide (v = x)) l 0 (by omega)
  have hmm : l.any (fun x => decide (v = x)) = true ↔ v ∈ l := by simp [List.any_eq_true]
  repeat' (first | ((first | apply Ya en45 | apply Yb en45); exact za; exact rfl; exact fun _ hw => (OD l v hlen hr hw)) | refine zga ?_ | (refine zgf ?_ ?_ <;> intro _ <;> try (exfalso; omega)) | fail)
  all_goals (apply Yg; exact rfl; exact rfl)
  · rename_i h; exact ⟨by rw [decide_eq_true (hmm.1 (hia.1 h))], rfl⟩
  · rename_i h
    exact ⟨by rw [decide_eq_false fun e => by have := hia.2 (hmm.2 e); omega], rfl⟩
theorem OB (l m : List Int) (hlen : l.length ≤ 9223372036854775807) (_hlen2 : m.length ≤ 9223372036854775807) {A A2 : Option Addr} {cap cap2 B : Nat} {w0 : World} {H : List HP} {w : World} (hr : Rd B w0 H A (l.flatMap numF)) (hr2 : Rd B w0 H A2 (m.flatMap numF)) (hw : St B w0 H w) :
    Calls Tryz.prog 33 [.slice A l.length cap, .slice A2 m.length cap2].toArray w (Post B w0 fun u K => u = .bool (decide (l = m)) ∧ K = H) := by
  refine Yf Tryz.func33 Tryz.ntmps33 rfl rfl hw ?_
  by_cases hll : l.length = m.length
  rotate_left
  · repeat' (first | refine zgb ?_ | (refine zge ?_ ?_ <;> intro _ <;> try (exfalso; omega)) | fail)
    apply Yg; exact rfl; exact rfl
    exact ⟨by rw [decide_eq_false fun e => hll (by rw [e])], rfl⟩
  repeat' (first | refine zgb ?_ | (refine zge ?_ ?_ <;> intro _ <;> try (exfalso; omega)) | fail)
  refine Yn (fun (k : Nat) => [(13, .int .i64 k), (12, .int .i64 l.length), (0, .slice A l.length cap), (1, .slice A2 m.length cap2)]) (fun _ => H) (fun k => k ≤ l.length ∧ l.take k = m.take k) (fun k => l.length - k) 0 ⟨Nat.zero_le _, by simp⟩ ?_ (fun w hw => hw) ?_
  · exact zu
  rintro k ⟨hk, hi⟩ K hK
  by_cases hlt : k < l.length
  · obtain ⟨a, ha⟩ : ∃ a, l[k]? = some a := ⟨_, List.getElem?_eq_getElem hlt⟩
    obtain ⟨b, hb⟩ : ∃ b, m[k]? = some b := ⟨_, List.getElem?_eq_getElem (by omega)⟩
    repeat' (first | refine zgd ?_ | (refine zge ?_ ?_ <;> intro _ <;> try (exfalso; omega)) | fail)
    · rename_i h
      apply Yg; exact rfl; exact rfl
      exact ⟨by rw [decide_eq_false fun e => by rw [e, hb] at ha; exact h (Option.some.inj ha).symm], rfl⟩
    · rename_i h
      apply hK (k + 1)
      · exact ⟨by omega, by rw [Jd ha, Jd hb, hi, h]⟩
      · omega
      · exact zu
      · exact fun w hw => hw
  · repeat' (first | refine zgc ?_ | (refine zge ?_ ?_ <;> intro _ <;> try (exfalso; omega)) | fail)
    apply Yg; exact rfl; exact rfl
    rw [List.take_of_length_le (by omega), List.take_of_length_le (by omega)] at hi
    exact ⟨by rw [decide_eq_true hi], rfl⟩
open Go.RowKit Go.Eng Go.Nw Go.Rt
theorem YmA {l : List Int} {A : Option Addr} {cap : Nat} {B : Nat} {w0 : World} {H : List HP} (k : Nat) (hr : Rd B w0 H A (l.flatMap numF)) (hc : l.length ≤ cap) : Rd B w0 H (subA A 0 cap 1) ((l.take k).flatMap numF) := by
  have h := Rd.sub (f := numF) (q := 1) (o := 0) (k := k) (fun _ => rfl) hr hc
  rwa [List.drop_zero] at h
theorem YmB {l : List Int} {A : Option Addr} {cap : Nat} {B : Nat} {w0 : World} {H : List HP} (o : Nat) (hr : Rd B w0 H A (l.flatMap numF)) (hc : l.length ≤ cap) : Rd B w0 H (subA A o cap 1) ((l.drop o).flatMap numF) := by
  have h := Rd.sub (f := numF) (q := 1) (o := o) (k := (l.drop o).length) (fun _ => rfl) hr hc
  rwa [List.take_length] at h
theorem Ybs {p : Nat → Bool} {k : Nat} (h : (List.range k).any p = false) (h2 : p k = false) : (List.range (k + 1)).any p = false := by
  rw [QF, h, h2]; rfl
theorem YdK {p : Nat → Bool} {k n : Nat} (hk : k < n) (h : p k = true) : (List.range n).any p = true := List.any_eq_true.2 ⟨k, List.mem_range.2 hk, h⟩
set_option maxHeartbeats 1000000 in
theorem Yft (n : NetM) (s t : Int) (r : List Int) {A : Option Addr} {cap B : Nat} {w0 : World} {H : List HP} {w : World} (hin : n.In B w0 H) (hck : YF n.net = 0) (hr : Rd B w0 H A (r.flatMap numF)) (hlen : r.length ≤ 9223372036854775807) (hcap : r.length ≤ cap) (hw : St B w0 H w) :
    Calls Tryz.prog 206 [n.val, .int .i64 s, .int .i64 t, .slice A r.length cap].toArray w (Post B w0 fun v K => v = .int .i64 (QY n.net s t r) ∧ K = H) := by
  refine Yf Tryz.func206 Tryz.ntmps206 rfl rfl hw ?_
  (apply Zx; apply XH; apply Xv; exact rfl; exact rfl; intro g)
  have hnm : netB g n ∈ netB g n :: H := List.mem_cons_self
  unfold QY
  by_cases h1 : r.length < 2
  · rw [if_pos h1]
    repeat' (first | refine zgc ?_ | (refine zge ?_ ?_ <;> intro _ <;> try (exfalso; omega)) | fail)
    (repeat apply Ys); apply Yg; exact rfl; exact rfl
    exact ⟨rfl, rfl⟩
  rw [if_neg h1]
  by_cases h2 : 9 < r.length
  · rw [if_pos h2]
    repeat' (first | refine zgc ?_ | (refine zge ?_ ?_ <;> intro _ <;> try (exfalso; omega)) | fail)
    (repeat apply Ys); apply Yg; exact rfl; exact rfl
    exact ⟨rfl, rfl⟩
  rw [if_neg h2]
  have hoff := fun {w : World} (hw : St B w0 (netB g n :: H) w) => Wm (fun a : Int => Value.int .i64 a) (offE n.net) r 245 [.pointer (some ⟨g, 0, none⟩)] Ymp hlen (cap := cap) (hr.cons) (fun a _ w hw => Yd8 n a g hnm hw) hw
  obtain ⟨b3, h3⟩ : ∃ b, r.any (offE n.net) = b := ⟨_, rfl⟩
  rw [h3] at hoff ⊢
  cases b3 with
  | true =>
    rw [if_pos rfl]
    repeat' (first | ((first | apply Ya YbJ | apply Yb YbJ); exact za; exact rfl; exact fun _ hw => (hoff hw)) | (apply zg29; (apply Yj; exact za ; exact rfl)) | refine zgc ?_ | (refine zge ?_ ?_ <;> intro _ <;> try (exfalso; omega)) | fail)
    (repeat apply Ys); apply Yg; exact rfl; exact rfl
    exact ⟨rfl, rfl⟩
  | false =>
    rw [if_neg (by decide)]
    have hg0 := Jm (l := r) (i := 0) (by omega)
    have hg1 := Jm (l := r) (i := r.length - 1) (by omega)
    have hgi : ((r.length : Int) - 1).toNat = r.length - 1 := by omega
    rw [← hgi] at hg1
    by_cases h4 : r.getD 0 0 ≠ s ∨ r.getD (r.length - 1) 0 ≠ t
    · rw [if_pos h4]
      rw [← hgi] at h4
      repeat' (first | ((first | apply Ya YbJ | apply Yb YbJ); exact za; exact rfl; exact fun _ hw => (hoff hw)) | (apply zg29; (apply Yj; exact za ; exact rfl)) | refine zgd ?_ | (refine zge ?_ ?_ <;> intro _ <;> try (exfalso; omega)) | fail)
      all_goals first
        | ((repeat apply Ys); apply Yg; exact rfl; exact rfl; exact ⟨rfl, rfl⟩)
        | skip
      done
    rw [if_neg h4]
    rw [← hgi] at h4
    repeat' (first | ((first | apply Ya YbJ | apply Yb YbJ); exact za; exact rfl; exact fun _ hw => (hoff hw)) | (apply zg29; (apply Yj; exact za ; exact rfl)) | refine zgd ?_ | (refine zge ?_ ?_ <;> intro _ <;> try (exfalso; omega)) | fail)
    refine Yn (fun (k : Nat) => [(43, .int .i64 k), (42, .int .i64 r.length), (41, .slice A r.length cap), (3, .slice A r.length cap), (4, .pointer (some ⟨g, 0, none⟩))]) (fun _ => netB g n :: H) (fun k => k ≤ r.length ∧ ((List.range k).any fun i => (r.take i).contains (r.getD i 0)) = false) (fun k => r.length - k) 0 ⟨Nat.zero_le _, rfl⟩ ?_ (fun w hw => hw) ?_
    · exact zu
    rintro k ⟨hk, hi⟩ K hK
    by_cases hlt : k < r.length
    · have hgk := Jm (l := r) (i := k) hlt
      obtain ⟨b, hb⟩ : ∃ b, (r.take k).contains (r.getD k 0) = b := ⟨_, rfl⟩
      have hbm : decide (r.getD k 0 ∈ r.take k) = b := by rw [← hb]; simp
      have hcon := fun {w : World} (hw : St B w0 (netB g n :: H) w) => QQ (r.take k) (r.getD k 0) (by rw [List.length_take]; omega) (cap := cap) (YmA k (hr.cons (X := netB g n)) hcap) hw
      rw [hbm] at hcon
      cases b with
      | true =>
        repeat' (first | (apply Zd T (l := r) (n' := (r.take k).length); exact rfl; exact rfl; exact rfl; exact rfl; omega; exact hcap; (simp; omega)) | ((first | apply Ya Ygv | apply Yb Ygv); exact za; exact rfl; exact fun _ hw => (hcon hw)) | refine zgd ?_ | (refine zge ?_ ?_ <;> intro _ <;> try (exfalso; omega)) | fail)
        (repeat apply Ys); apply Yg; exact rfl; exact rfl
        have htw : U8 r = true := YdK hlt hb
        exact ⟨by rw [if_pos htw], rfl⟩
      | false =>
        repeat' (first | (apply Zd T (l := r) (n' := (r.take k).length); exact rfl; exact rfl; exact rfl; exact rfl; omega; exact hcap; (simp; omega)) | ((first | apply Ya Ygv | apply Yb Ygv); exact za; exact rfl; exact fun _ hw => (hcon hw)) | refine zgd ?_ | (refine zge ?_ ?_ <;> intro _ <;> try (exfalso; omega)) | fail)
        apply hK (k + 1)
        · exact ⟨by omega, Ybs hi hb⟩
        · omega
        · exact zu
        · exact fun w hw => hw
    obtain rfl : k = r.length := by omega
    clear hK
    have htw : U8 r = false := hi
    rw [if_neg (by rw [htw]; decide)]
    have hdl : (r.drop 1).length = r.length - 1 := List.length_drop
    repeat' (first | (apply Jz T (n' := (r.drop 1).length); exact rfl; exact rfl; exact rfl; exact rfl; omega; (rw [hdl]; rfl)) | refine zgc ?_ | (refine zge ?_ ?_ <;> intro _ <;> try (exfalso; omega)) | fail)
    refine Yn (fun (k : Nat) => [(57, .int .i64 k), (56, .int .i64 (r.drop 1).length), (55, .slice (subA A 1 cap 1) (r.drop 1).length (cap - 1)), (3, .slice A r.length cap), (4, .pointer (some ⟨g, 0, none⟩))]) (fun _ => netB g n :: H) (fun k => k ≤ (r.drop 1).length ∧ ((List.range k).any fun i => !Xa n.net (r.getD i 0) (r.getD (i + 1) 0)) = false) (fun k => (r.drop 1).length - k) 0 ⟨Nat.zero_le _, rfl⟩ ?_ (fun w hw => hw) ?_
    · exact zu
    rintro k ⟨hk, hi⟩ K hK
    have hr1 : Rd B w0 (netB g n :: H) (subA A 1 cap 1) ((r.drop 1).flatMap numF) := YmB 1 (hr.cons) hcap
    have hr0 : Rd B w0 (netB g n :: H) A (r.flatMap numF) := hr.cons
    by_cases hlt : k < (r.drop 1).length
    · have hgk := Jm (l := r) (i := k) (by omega)
      have hgk1 : (r.drop 1)[k]? = some (r.getD (k + 1) 0) := by
        rw [List.getElem?_drop, Nat.add_comm]; exact Jm (by omega)
      obtain ⟨b, hb⟩ : ∃ b, Xa n.net (r.getD k 0) (r.getD (k + 1) 0) = b := ⟨_, rfl⟩
      have hus := fun {w : World} (hw : St B w0 (netB g n :: H) w) => On n (Zh n.net (r.getD k 0) (r.getD (k + 1) 0)) (hin.cons (X := netB g n)) hw
      rw [Ydb hck, hb] at hus
      cases b with
      | true =>
        repeat' (first | ((first | apply Ya en95 | apply Yb en95); exact za; exact rfl; exact fun _ hw => (XZ n _ _ (hin.cons) hw)) | ((first | apply Ya JC | apply Yb JC); exact za; exact rfl; exact fun _ hw => (hus hw)) | refine zgd ?_ | (refine zge ?_ ?_ <;> intro _ <;> try (exfalso; omega)) | fail)
        apply hK (k + 1)
        · exact ⟨by omega, Ybs hi (by rw [hb]; rfl)⟩
        · omega
        · exact zu
        · exact fun w hw => hw
      | false =>
        repeat' (first | ((first | apply Ya en95 | apply Yb en95); exact za; exact rfl; exact fun _ hw => (XZ n _ _ (hin.cons) hw)) | ((first | apply Ya JC | apply Yb JC); exact za; exact rfl; exact fun _ hw => (hus hw)) | refine zgd ?_ | (refine zge ?_ ?_ <;> intro _ <;> try (exfalso; omega)) | fail)
        (repeat apply Ys); apply Yg; exact rfl; exact rfl
        have hbr : Uv n.net r = true := YdK (k := k) (by omega) (by rw [hb]; rfl)
        exact ⟨by rw [if_pos hbr], rfl⟩
    · obtain rfl : k = (r.drop 1).length := by omega
      clear hK
      repeat' (first | refine zgc ?_ | (refine zge ?_ ?_ <;> intro _ <;> try (exfalso; omega)) | fail)
      (repeat apply Ys); apply Yg; exact rfl; exact rfl
      have hbr : Uv n.net r = false := by rw [hdl] at hi; exact hi
      exact ⟨by rw [if_neg (by rw [hbr]; decide)], rfl⟩
open Go.RowKit Go.Eng Go.Nw Go.Rt
theorem Ux {n : Net} {a b : Int} (h : Xa n a b = true) : 0 ≤ YC n a b := by
  unfold Xa at h
  simp only [Bool.and_eq_true, decide_eq_true_eq] at h
  exact h.1
theorem Yd9 {n : Net} {s t : Int} {r : List Int} (h : QY n s t r = 0) : (2 ≤ r.length ∧ r.length ≤ 9) ∧ r.any (offE n) = false ∧ (r.getD 0 0 = s ∧ r.getD (r.length - 1) 0 = t) ∧ U8 r = false ∧ Uv n r = false := by
  unfold QY at h
  by_cases h1 : r.length < 2
  · rw [if_pos h1] at h; cases h
  rw [if_neg h1] at h
  by_cases h2 : 9 < r.length
  · rw [if_pos h2] at h; cases h
  rw [if_neg h2] at h
  cases h3 : r.any (offE n) with
  | true => rw [h3, if_pos rfl] at h; cases h
  | false =>
    rw [h3, if_neg (by decide)] at h
    by_cases h4 : r.getD 0 0 ≠ s ∨ r.getD (r.length - 1) 0 ≠ t
    · rw [if_pos h4] at h; cases h
    rw [if_neg h4] at h
    cases h5 : U8 r with
    | true => rw [h5, if_pos rfl] at h; cases h
    | false =>
      rw [h5, if_neg (by decide)] at h
      cases h6 : Uv n r with
      | true => rw [h6, if_pos rfl] at h; cases h
      | false => exact ⟨by omega, rfl, by omega, rfl, rfl⟩
theorem Qp (n : NetM) (s t : Int) (r : List Int) {A : Option Addr} {cap B : Nat} {w0 : World} {H : List HP} {w : World} (hin : n.In B w0 H) (hr : Rd B w0 H A (r.flatMap numF)) (hlen : r.length ≤ 9223372036854775807) (hcap : r.length ≤ cap) (hw : St B w0 H w) :
    Calls Tryz.prog 148 [n.val, .int .i64 s, .int .i64 t, .slice A r.length cap].toArray w (Post B w0 fun v K => v = .int .i64 (XQ n.net s t r) ∧ K = H) := by
  refine Yf Tryz.func148 Tryz.ntmps148 rfl rfl hw ?_
  unfold XQ
  by_cases h0 : Wo n.net s t = 0
  · have hck : YF n.net = 0 := by
      unfold Wo at h0
      by_cases h : YF n.net = 0
      · exact h
      · rw [if_pos h] at h0; cases h0
    have hen := fun {H : List HP} {w : World} (hin : n.In B w0 H) (hw : St B w0 H w) => YbK n s t hin hw
    rw [h0] at hen
    rw [if_neg (fun h => h h0)]
    repeat' (first | ((first | apply Ya Ygs | apply Yb Ygs); exact za; exact rfl; exact fun _ hw => (hen hin.cons hw)) | ((first | apply Ya Yk3 | apply Yb Yk3); exact za; exact rfl; exact fun _ hw => (Yft n s t r hin.cons hck hr.cons hlen hcap hw)) | refine zgc ?_ | (refine zge ?_ ?_ <;> intro _ <;> try (exfalso; omega)) | (refine zgh ?_; intro _) | fail)
    (repeat apply Ys); apply Yg; exact rfl; exact rfl; exact ⟨rfl, rfl⟩
  · rw [if_pos h0]
    repeat' (first | ((first | apply Ya Ygs | apply Yb Ygs); exact za; exact rfl; exact fun _ hw => (YbK n s t hin.cons hw)) | refine zgc ?_ | (refine zge ?_ ?_ <;> intro _ <;> try (exfalso; omega)) | (refine zgh ?_; intro _) | fail)
    (repeat apply Ys); apply Yg; exact rfl; exact rfl; exact ⟨rfl, rfl⟩
open Go.RowKit Go.Eng Go.Nw Go.Rt
structure WayM where
  n : NetM
  s : SchM
  f : Flw
  A : Option Addr
  cap : Nat
  r : List Int
def WayM.val (x : WayM) : Value := .agg #[.int .i64 x.n.nodes, .slice x.n.pA x.n.rows.length x.n.pcap, .int .i64 x.n.noise, .int .i64 x.n.thr, .slice x.n.lA x.n.links.length x.n.lcap, .slice x.n.mA x.n.margin.length x.n.mcap, .int .i64 x.s.len, .int .i64 x.s.off, .slice x.s.A x.s.cells.length x.s.cap, .int .i64 x.f.1, .int .i64 x.f.2.1, .int .i64 x.f.2.2.1, .int .i64 x.f.2.2.2.1, .int .i64 x.f.2.2.2.2.1, .int .i64 x.f.2.2.2.2.2, .slice x.A x.r.length x.cap, .int .i64 0]
abbrev wayB (g : Nat) (x : WayM) : HP := blk g (.cells #[.int .i64 x.n.nodes, .slice x.n.pA x.n.rows.length x.n.pcap, .int .i64 x.n.noise, .int .i64 x.n.thr, .slice x.n.lA x.n.links.length x.n.lcap, .slice x.n.mA x.n.margin.length x.n.mcap, .int .i64 x.s.len, .int .i64 x.s.off, .slice x.s.A x.s.cells.length x.s.cap, .int .i64 x.f.1, .int .i64 x.f.2.1, .int .i64 x.f.2.2.1, .int .i64 x.f.2.2.2.1, .int .i64 x.f.2.2.2.2.1, .int .i64 x.f.2.2.2.2.2, .slice x.A x.r.length x.cap, .int .i64 0] 151 (0, 0))
structure WayM.In (B : Nat) (w0 : World) (H : List HP) (x : WayM) : Prop where
  n : x.n.In B w0 H
  s : Rd B w0 H x.s.A (x.s.cells.flatMap celF)
  r : Rd B w0 H x.A (x.r.flatMap numF)
  sl : x.s.cells.length ≤ 1000000000000
  rl : x.r.length ≤ 1000000000000
  rc : x.r.length ≤ x.cap
theorem WayM.In.cons {B : Nat} {w0 : World} {H : List HP} {x : WayM} {X : HP} (h : x.In B w0 H) : x.In B w0 (X :: H) := ⟨h.n.cons, h.s.cons, h.r.cons, h.sl, h.rl, h.rc⟩
theorem WayM.In.mono {B : Nat} {w0 : World} {H H' : List HP} {x : WayM} (h : x.In B w0 H) (hH : ∀ w, St B w0 H' w → St B w0 H w) : x.In B w0 H' := ⟨h.n.mono hH, h.s.mono hH, h.r.mono hH, h.sl, h.rl, h.rc⟩
theorem Yhf {nodes : Int} {f : Flw} (h : 2 ≤ nodes ∧ nodes ≤ 32) : ((YR nodes [f]).2 = 0 ↔ YX nodes f = 0) := by
  unfold YR
  rw [if_neg (by omega), if_neg (by simp)]
  have e : Y4 nodes [f] 0 = YX nodes f := by
    unfold Y4
    show (if YX nodes f ≠ 0 then YX nodes f else if 0 < 0 ∧ _ then 5 else 0) = _
    by_cases h : YX nodes f = 0
    · rw [if_neg (fun e => e h), if_neg (by omega), h]
    · rw [if_pos h]
  show (YG _ 1 0).2 = 0 ↔ _
  unfold YG YG
  rw [e]
  split
  · rename_i h; exact ⟨fun _ => h, fun _ => rfl⟩
  · rename_i h; exact ⟨fun h2 => absurd h2 h, fun h2 => absurd h2 h⟩
set_option maxRecDepth 10000 in
set_option maxHeartbeats 4000000 in
theorem Ye1 (x : WayM) {B : Nat} {w0 : World} {H : List HP} {w : World} (ht : TabsB B w0) (hi : x.In B w0 H) (hw : St B w0 H w) :
    Calls Tryz.prog 85 [x.val].toArray w (Post B w0 fun v K => v = .int .i64 (wayE x.n.net x.s.sch x.f x.r) ∧ K = H) := by
  refine Yf Tryz.func85 Tryz.ntmps85 rfl rfl hw ?_
  have p1 := fun {H' : List HP} {w : World} (hin : x.n.In B w0 H') (hw : St B w0 H' w) => YT x.n hin hw
  have p2 := fun {H' : List HP} {w : World} (hr : Rd B w0 H' x.s.A (x.s.cells.flatMap celF)) (hw : St B w0 H' w) => Yaz x.s ht hr hi.sl hw
  have p3 := fun {g cap : Nat} {H' : List HP} {w : World} (hm : blk g (.cells #[.int .i64 x.f.1, .int .i64 x.f.2.1, .int .i64 x.f.2.2.1, .int .i64 x.f.2.2.2.1, .int .i64 x.f.2.2.2.2.1, .int .i64 x.f.2.2.2.2.2] 68 (0, 0)) ∈ H') (hw : St B w0 H' w) => YU x.n.nodes [x.f] (Nat.le_of_ble_eq_true rfl) (A := some ⟨g, 0, none⟩) (cap := cap) (show Rd B w0 H' _ ([x.f].flatMap flwF) from Rd.blk hm) hw
  have p4 := fun {H' : List HP} {w : World} (hin : x.n.In B w0 H') (hr : Rd B w0 H' x.A (x.r.flatMap numF)) (hw : St B w0 H' w) => Qp x.n x.f.2.1 x.f.2.2.1 x.r (cap := x.cap) hin hr (Nat.le_trans hi.rl (by decide)) hi.rc hw
  have hn := hi.n
  have hs := hi.s
  have hr := hi.r
  have hfo := @Yhf x.n.net.nodes x.f
  have hok := fun h : YF x.n.net = 0 => (Xe h).n0
  have hok1 := fun h : YF x.n.net = 0 => (Xe h).n1
  have hpe : (ZY x.s.sch).2 = 0 ↔ Y7 x.s.sch = true := by
    unfold ZY
    cases hf : Y7 x.s.sch with
    | true => rw [if_neg (by decide)]; simp
    | false => rw [if_pos rfl]; simp
  unfold wayE
  rw [show x.n.net.nodes = x.n.nodes from rfl] at *
  rw [show x.s.sch.len = x.s.len from rfl] at *
  obtain ⟨c, hc⟩ : ∃ c, YF x.n.net = c := ⟨_, rfl⟩
  obtain ⟨⟨t, e⟩, he⟩ : ∃ e, ZY x.s.sch = e := ⟨_, rfl⟩
  obtain ⟨⟨i, a⟩, ha⟩ : ∃ a, YR x.n.nodes [x.f] = a := ⟨_, rfl⟩
  obtain ⟨k, hk⟩ : ∃ k, XQ x.n.net x.f.2.1 x.f.2.2.1 x.r = k := ⟨_, rfl⟩
  rw [hc] at p1 hok hok1 ⊢
  rw [he] at p2 hpe
  rw [ha] at p3 hfo
  rw [hk] at p4 ⊢
  dsimp only at p2 p3 hpe hfo
  unfold WayM.val
  by_cases h1 : c = 0
  rotate_left
  · rw [if_pos (.inl h1)]
    repeat' (first | ((first | apply Ya en50 | apply Yb en50); exact za; exact rfl; exact fun _ hw => (p1 hn.cons hw)) | (apply YW T; exact rfl; exact zm; exact rfl; exact zv; exact rfl; exact rfl) | refine zgb ?_ | (refine zge ?_ ?_ <;> intro _ <;> try (exfalso; omega)) | (refine zgh ?_; intro _) | fail)
    apply Yk H
    · exact zk
    apply Yg; exact rfl; exact rfl; exact ⟨rfl, rfl⟩
  subst h1
  have hfo := hfo ⟨hok rfl, hok1 rfl⟩
  by_cases h2 : e = 0
  rotate_left
  · rw [if_pos (.inr (.inl (by cases hf : Y7 x.s.sch with | false => rfl | true => exact absurd (hpe.2 hf) h2)))]
    repeat' (first | ((first | apply Ya en50 | apply Yb en50); exact za; exact rfl; exact fun _ hw => (p1 hn.cons hw)) | ((first | apply Ya en47 | apply Yb en47); exact za; exact rfl; exact fun _ hw => (p2 hs.cons hw)) | (apply YW T; exact rfl; exact zm; exact rfl; exact zv; exact rfl; exact rfl) | refine zgc ?_ | (refine zge ?_ ?_ <;> intro _ <;> try (exfalso; omega)) | (refine zgh ?_; intro _) | fail)
    apply Yk H
    · exact zk
    apply Yg; exact rfl; exact rfl; exact ⟨rfl, rfl⟩
  subst h2
  have hfe := hpe.1 rfl
  by_cases h3 : a = 0
  rotate_left
  · rw [if_pos (.inr (.inr (fun h => h3 (hfo.2 h))))]
    repeat' (first | ((first | apply Ya en50 | apply Yb en50); exact za; exact rfl; exact fun _ hw => (p1 hn.cons hw)) | ((first | apply Ya en47 | apply Yb en47); exact za; exact rfl; exact fun _ hw => (p2 hs.cons hw)) | ((first | apply Ya en51 | apply Yb en51); exact za; exact rfl; exact fun _ hw => (p3 zm hw)) | (apply YW T; exact rfl; exact zm; exact rfl; exact zv; exact rfl; exact rfl) | refine zgc ?_ | (refine zge ?_ ?_ <;> intro _ <;> try (exfalso; omega)) | (refine zgh ?_; intro _) | fail)
    apply Yk H
    · exact zk
    apply Yg; exact rfl; exact rfl; exact ⟨rfl, rfl⟩
  subst h3
  have hfz := hfo.1 rfl
  rw [if_neg (by rintro (h | h | h); exact h rfl; rw [hfe] at h; cases h; exact h hfz)]
  have hp1 : 1 ≤ x.f.2.2.2.1 := by
    unfold YX at hfz
    split at hfz
    · cases hfz
    split at hfz
    · cases hfz
    omega
  have hsz : 1 ≤ x.s.len ∧ x.s.len ≤ 512 := by
    have := of_decide_eq_true (Wq.1 hfe).sized
    exact ⟨this.1, this.2.1⟩
  rw [Int.tmod_eq_emod_of_nonneg (show 0 ≤ x.s.len by omega)]
  by_cases h4 : x.s.len % x.f.2.2.2.1 = 0
  rotate_left
  · rw [if_pos h4]
    repeat' (first | ((first | apply Ya en50 | apply Yb en50); exact za; exact rfl; exact fun _ hw => (p1 hn.cons hw)) | ((first | apply Ya en47 | apply Yb en47); exact za; exact rfl; exact fun _ hw => (p2 hs.cons hw)) | ((first | apply Ya en51 | apply Yb en51); exact za; exact rfl; exact fun _ hw => (p3 zm hw)) | (apply YW T; exact rfl; exact zm; exact rfl; exact zv; exact rfl; exact rfl) | refine zgd ?_ | (refine zge ?_ ?_ <;> intro _ <;> try (exfalso; omega)) | (refine zgh ?_; intro _) | fail)
    apply Yk H
    · exact zk
    apply Yg; exact rfl; exact rfl; exact ⟨rfl, rfl⟩
  rw [if_neg (fun h => h h4)]
  repeat' (first | ((first | apply Ya en50 | apply Yb en50); exact za; exact rfl; exact fun _ hw => (p1 hn.cons hw)) | ((first | apply Ya en47 | apply Yb en47); exact za; exact rfl; exact fun _ hw => (p2 hs.cons hw)) | ((first | apply Ya en51 | apply Yb en51); exact za; exact rfl; exact fun _ hw => (p3 zm hw)) | ((first | apply Ya YbD | apply Yb YbD); exact za; exact rfl; exact fun _ hw => (p4 hn.cons.cons hr.cons.cons hw)) | (apply YW T; exact rfl; exact zm; exact rfl; exact zv; exact rfl; exact rfl) | refine zgd ?_ | (refine zge ?_ ?_ <;> intro _ <;> try (exfalso; omega)) | (refine zgh ?_; intro _) | fail)
  apply Yk H
  · exact zk
  apply Yg; exact rfl; exact rfl; exact ⟨rfl, rfl⟩
open Go.RowKit Go.Eng Go.Nw Go.Rt
theorem Ydd {n : Net} {s : Sch} {f : Flw} {r : List Int} (h : wayE n s f r = 0) : YF n = 0 ∧ Y7 s = true ∧ YX n.nodes f = 0 ∧ s.len.tmod f.2.2.2.1 = 0 ∧ XQ n f.2.1 f.2.2.1 r = 0 := by
  unfold wayE at h
  split at h
  · cases h
  rename_i h1
  split at h
  · cases h
  rename_i h2
  refine ⟨Decidable.byContradiction fun e => h1 (.inl e), ?_, Decidable.byContradiction fun e => h1 (.inr (.inr e)), Decidable.not_not.1 h2, h⟩
  cases hf : Y7 s with
  | true => rfl
  | false => exact absurd (.inr (.inl hf)) h1
theorem WA {n : Net} {s : Sch} {f : Flw} {r : List Int} (h : (YS n s f r).2 = 0) : wayE n s f r = 0 ∧ ∃ b, VZ n s f r = some b ∧ YS n s f r = (b, 0) := by
  unfold YS at h ⊢
  by_cases h1 : wayE n s f r = 0
  · rw [if_neg (fun e => e h1)] at h ⊢
    cases hb : VZ n s f r with
    | none => rw [hb] at h; cases h
    | some b => exact ⟨h1, b, rfl, rfl⟩
  · rw [if_pos h1] at h
    exact absurd h h1
theorem Ob {q : List Rqs} {i : Nat} (h : i < q.length) : q[i]? = some (rqAt q i) := by
  unfold rqAt; rw [List.getD_eq_getElem?_getD, List.getElem?_eq_getElem h]; rfl
theorem YeL {q : List Rqs} {i : Nat} (h : i < q.length) : rqAt q i ∈ q := List.mem_of_getElem? (Ob h)
theorem Yi2 {q : List Rqs} {x : Rqs} (h : x ∈ q) : ∃ i, i < q.length ∧ rqAt q i = x := by
  obtain ⟨i, hi⟩ := List.mem_iff_getElem?.1 h
  have hl := (List.getElem?_eq_some_iff.1 hi).1
  exact ⟨i, hl, Option.some.inj ((Ob hl).symm.trans hi)⟩
theorem Oc {l : List (List Int)} {i : Nat} (h : i < l.length) : l[i]? = some (rtAt l i) := by
  unfold rtAt; rw [List.getD_eq_getElem?_getD, List.getElem?_eq_getElem h]; rfl
theorem Yjp {l : List (List Int)} {i : Nat} (h : i < l.length) : rtAt l i ∈ l := List.mem_of_getElem? (Oc h)
def Ych (n : Net) (s : Sch) (x : Rqs) : Bool := decide (x.2.length = 1 ∨ x.2.length = 2 ∧ rtAt x.2 0 ≠ rtAt x.2 1) && !(ZO n s x)
theorem YgC {n : Net} {s : Sch} {x : Rqs} (h : ZO n s x = false) {r : List Int} (hr : r ∈ x.2) : (YS n s x.1 r).2 = 0 ∧ (YS n s x.1 r).1.1 ≤ x.1.2.2.2.2.2 := by
  unfold ZO at h
  rw [List.any_eq_false] at h
  have := h r hr
  unfold badR at this
  rw [decide_eq_true_eq] at this
  omega
theorem YlE {n : Net} {s : Sch} {x : Rqs} (h : Ych n s x = true) : rtsE n x = 0 := by
  unfold Ych at h
  rw [Bool.and_eq_true, decide_eq_true_eq] at h
  have hl := h.2
  simp only [Bool.not_eq_true'] at hl
  have hc : (YG (fun k => XQ n x.1.2.1 x.1.2.2.1 (rtAt x.2 k)) x.2.length 0).2 = 0 := Y3.2 fun k _ hk =>
    (Ydd (WA (YgC hl (Yjp (l := x.2) (i := k) (by omega))).1).1).2.2.2.2
  unfold rtsE
  rw [if_neg (by omega), if_neg (by omega), if_neg (fun e => e hc)]
  rw [if_neg]
  rintro ⟨h1, h2⟩
  rcases h.1 with h3 | h3
  · omega
  · exact h3.2 h2
theorem YgK {n : Net} {x : Rqs} (h : rtsE n x = 0) : x.2.length = 1 ∨ x.2.length = 2 ∧ rtAt x.2 0 ≠ rtAt x.2 1 := by
  unfold rtsE at h
  split at h
  · cases h
  split at h
  · cases h
  split at h
  · exact absurd h (by assumption)
  split at h
  · cases h
  rename_i h1 h2 h3 h4
  by_cases h5 : x.2.length = 1
  · exact .inl h5
  · exact .inr ⟨by omega, fun e => h4 ⟨by omega, e⟩⟩
theorem YdU {n : Net} {q : List Rqs} {s : Sch} : (Zt n q s).2.2 = 0 ↔ (schE n (V9 q) s).2 = 0 ∧ ∀ x ∈ q, Ych n s x = true := by
  constructor
  · intro h
    unfold Zt at h
    by_cases h1 : (rqsE n q).2 = 0
    rotate_left
    · rw [if_pos h1] at h; exact absurd h h1
    rw [if_neg (fun e => e h1)] at h
    by_cases h2 : (schE n (V9 q) s).2 = 0
    rotate_left
    · rw [if_pos h2] at h; cases h
    rw [if_neg (fun e => e h2)] at h
    by_cases h3 : (YG (fun i => if ZO n s (rqAt q i) = true then 15 else 0) q.length 0).2 = 0
    rotate_left
    · rw [if_pos h3] at h; exact absurd h h3
    refine ⟨h2, fun x hx => ?_⟩
    obtain ⟨i, hi, rfl⟩ := Yi2 hx
    have h4 := Y3.1 h3 i (Nat.zero_le _) (by omega)
    have hl : ZO n s (rqAt q i) = false := by
      cases hb : ZO n s (rqAt q i) with
      | false => rfl
      | true => simp only [hb, if_pos] at h4; cases h4
    have h5 : rtsE n (rqAt q i) = 0 := by
      have hw := WK (Ydc.1 h2).whole
      unfold rqsE at h1
      rw [if_neg (fun e => e hw.1), if_neg (fun e => e hw.2.1)] at h1
      exact Y3.1 h1 i (Nat.zero_le _) (by omega)
    unfold Ych
    rw [hl, decide_eq_true (YgK h5)]; rfl
  · rintro ⟨h2, h3⟩
    have hw := WK (Ydc.1 h2).whole
    have h1 : (rqsE n q).2 = 0 := by
      unfold rqsE
      rw [if_neg (fun e => e hw.1), if_neg (fun e => e hw.2.1)]
      exact Y3.2 fun i _ hi => YlE (h3 _ (YeL (by omega)))
    have h4 : (YG (fun i => if ZO n s (rqAt q i) = true then 15 else 0) q.length 0).2 = 0 := Y3.2 fun i _ hi => by
      have := h3 _ (YeL (q := q) (i := i) (by omega))
      unfold Ych at this
      rw [Bool.and_eq_true] at this
      have hl := this.2
      simp only [Bool.not_eq_true'] at hl
      rw [if_neg (by rw [hl]; decide)]
    unfold Zt
    rw [if_neg (fun e => e h1), if_neg (fun e => e h2), if_neg (fun e => e h4)]
theorem Yka {n : Net} {q : List Rqs} {s : Sch} (h : (Zt n q s).2.2 = 0) : Zt n q s = (q.map (clmE n s), (-1, 0)) := by
  unfold Zt at h ⊢
  split
  · rename_i h1; rw [if_pos h1] at h; exact absurd h h1
  rename_i h1
  rw [if_neg h1] at h
  split
  · rename_i h2; rw [if_pos h2] at h; cases h
  rename_i h2
  rw [if_neg h2] at h
  split
  · rename_i h3; rw [if_pos h3] at h; exact absurd h h3
  rfl
end Go.Proofs.YtmalhidldgfeoaaGreatDoor
