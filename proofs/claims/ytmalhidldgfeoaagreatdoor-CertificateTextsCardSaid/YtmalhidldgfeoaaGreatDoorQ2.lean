/- Lemmas for the claim, part 2. -/
import Derived.Laws.CopyRow
import Derived.RangeFuncFrom
import Derived.RangeFuncNested
import Derived.RangeFuncLeaves
import Derived.Lib.OthersKept
import Derived.ProofKit
import Derived.Below
import Derived.ChangeSame
import Derived.Carry
import Derived.Lib.AppendStr
import Derived.Laws.Externs
import Derived.Shelf.Strings.Builder1
import Derived.Shelf.Small.Wraps
import Derived.Shelf.Strings.BuilderF
import Derived.Shelf.Strings.BuilderK
import Derived.Shelf.Strconv.Atoi
import Derived.Shelf.Strconv.Itoa0
import Derived.Shelf.Strconv.Itoa1
import Derived.Shelf.LaysM
import Derived.Shelf.Strconv.Itoa2
import Derived.Shelf.Strconv.Itoa3
import Derived.Shelf.Strconv.AtoiErrFast
import Derived.Shelf.Strconv.ParseIntEmpty
import Derived.Shelf.Strconv.AtoiFail
import Derived.Shelf.Strconv.Clone
import Derived.Shelf.Strconv.SyntaxError
import Derived.Shelf.LaysC
import Derived.Shelf.Strconv.ToError
import Derived.Shelf.Strconv.Lower
import Derived.Shelf.Strconv.ParseUint10
import Derived.Shelf.Strconv.ParseUint10Empty
import Derived.Shelf.Strconv.ParseUint10Any
import Derived.Shelf.Strconv.ParseInt10
import Derived.Shelf.Strconv.AtoiLong
import Derived.Shelf.Strconv.AtoiInnerAll
import Derived.Shelf.Strconv.RangeError
import Derived.Shelf.Strconv.ToErrorRange
import Derived.Shelf.Strconv.AtoiAll
import Derived.Shelf.Strconv.ErrVarAll
import Derived.Shelf.Strings.Search1
import Derived.Shelf.Strings.Search2
import Derived.Shelf.Strings.Search3
import Derived.Shelf.Strings.Count
import Derived.Shelf.Strings.Shaped
import Derived.Shelf.Strings.Split
import Derived.Shelf.Strings.SplitShaped
import Derived.Shelf.Unicode.DecodeSlow
import Derived.Shelf.Slices.Turned
import Derived.Shelf.Slices.Equal
import Derived.Ground.Names2Prog
import Derived.Shelf.Slices.Clone
import Derived.Shelf.Slices.SearchI
import Derived.Test.YtmalhidldgfeoaaGreatDoorProg
import Derived.Sort.OwnSortedInts
import Derived.Test.YtmalhidldgfeoaaGreatDoorQ1

namespace Go.Proofs.YtmalhidldgfeoaaGreatDoor
open Go.RowKit Go.Eng Go.Nw
structure RowM where
  A : Option Addr
  cap : Nat
  xs : List Int
structure NetM where
  nodes : Int
  pA : Option Addr
  pcap : Nat
  rows : List RowM
  noise : Int
  thr : Int
  lA : Option Addr
  lcap : Nat
  links : List Lk
  mA : Option Addr
  mcap : Nat
  margin : List Int
def NetM.net (n : NetM) : Net := ⟨n.nodes, n.rows.map (·.xs), n.noise, n.thr, n.links, n.margin⟩
def NetM.val (n : NetM) : Value := .agg #[.int .i64 n.nodes, .slice n.pA n.rows.length n.pcap, .int .i64 n.noise, .int .i64 n.thr, .slice n.lA n.links.length n.lcap, .slice n.mA n.margin.length n.mcap]
def rowF (r : RowM) : List Value := [.slice r.A r.xs.length r.cap]
def numF (z : Int) : List Value := [.int .i64 z]
def lkF (l : Lk) : List Value := [.int .i64 l.1, .int .i64 l.2.1, .int .i64 l.2.2]
def lkV (l : Lk) : Value := .agg #[.int .i64 l.1, .int .i64 l.2.1, .int .i64 l.2.2]
structure NetM.In (B : Nat) (w0 : World) (H : List HP) (n : NetM) : Prop where
  pw : Rd B w0 H n.pA (n.rows.flatMap rowF)
  rw_ : ∀ r ∈ n.rows, Rd B w0 H r.A (r.xs.flatMap numF)
  lk : Rd B w0 H n.lA (n.links.flatMap lkF)
  mg : Rd B w0 H n.mA (n.margin.flatMap numF)
  s1 : n.rows.length ≤ 9223372036854775807
  s2 : ∀ r ∈ n.rows, r.xs.length ≤ 9223372036854775807
  s3 : n.links.length ≤ 9223372036854775807
  s4 : n.margin.length ≤ 9223372036854775807
theorem NetM.In.cons {B : Nat} {w0 : World} {H : List HP} {n : NetM} {X : HP} (h : n.In B w0 H) : n.In B w0 (X :: H) :=
  ⟨h.pw.cons, fun r hr => (h.rw_ r hr).cons, h.lk.cons, h.mg.cons, h.s1, h.s2, h.s3, h.s4⟩
theorem Q7 {α : Type} (val : α → Value) (p : α → Bool) (l : List α) (f : Nat) (cs : List Value) (hen : ∀ xs w, (callFunc f xs).run Tryz.prog w = .ok (.enter f xs) w) (hlen : l.length ≤ 9223372036854775807) {A : Option Addr} {cap B : Nat} {w0 : World} {H : List HP} {w : World} (hr : Rd B w0 H A (l.flatMap fun a => [val a]))
    (hp : ∀ a ∈ l, ∀ w, St B w0 H w → Calls Tryz.prog f ([val a] ++ cs).toArray w (Post B w0 fun v K => v = .bool (p a) ∧ K = H)) (hw : St B w0 H w) :
    Calls Tryz.prog 228 [.slice A l.length cap, .func (.func f) #[] cs.toArray].toArray w (Post B w0 fun v K => v = .int .i64 (Yt p l 0) ∧ K = H) := by
  refine Yd Tryz.func228 Tryz.ntmps228 rfl rfl hw ?_
  repeat' (first | apply (zs1 ?_) | apply (zs2 ?_) | (apply zg4; refine zs9 ?_) | apply (zs65 ?_) | apply (zs68 ?_) | apply (zs69 ?_) | apply (zs70 ?_) | apply (zs73 ?_) | fail)
  refine Yk (fun (k : Nat) => [(8, .int .i64 k), (7, .int .i64 l.length), (0, .slice A l.length cap), (1, .func (.func f) #[] cs.toArray)]) (fun _ => H) (fun k => k ≤ l.length ∧ Yt p l 0 = Yt p (l.drop k) k) (fun k => l.length - k) 0 ⟨Nat.zero_le _, by simp⟩ ?_ (fun w hw => hw) ?_
  · exact zu
  rintro k ⟨hk, hi⟩ K hK
  by_cases hlt : k < l.length
  · obtain ⟨a, ha⟩ : ∃ a, l[k]? = some a := ⟨_, List.getElem?_eq_getElem hlt⟩
    have hpa := hp a (List.mem_of_getElem? ha)
    rw [JL p l ha] at hi
    repeat' (first | ((first | apply YG (cs := cs)); exact rfl; exact hen; exact za; exact rfl; exact fun _ hw => hpa _ hw) | apply (zs1 ?_) | apply (zs2 ?_) | (apply zg3; refine zs60 ?_) | (apply zg5; refine zs57 ?_) | (apply (zs17 ?_ ?_) <;> intro _ <;> try (exfalso; omega)) | apply (zs65 ?_) | apply (zs68 ?_) | apply (zs69 ?_) | apply (zs70 ?_) | (apply zg27; refine zs71 ?_) | apply (zs73 ?_) | apply (zs76 ?_) | fail)
    cases hpv : p a
    · rw [hpv] at hi
      repeat' (first | apply (zs1 ?_) | (apply zg13; refine zs30 ?_) | apply (zs65 ?_) | apply (zs68 ?_) | apply (zs70 ?_) | (apply zg27; refine zs72 ?_) | apply (zs76 ?_) | apply (zs79 ?_) | fail)
      apply hK (k + 1)
      · exact ⟨by omega, hi⟩
      · omega
      · exact zu
      · exact fun w hw => hw
    · rw [hpv] at hi
      repeat' (first | apply (zs1 ?_) | apply (zs2 ?_) | apply (zs65 ?_) | apply (zs68 ?_) | apply (zs69 ?_) | apply (zs70 ?_) | (apply zg27; refine zs71 ?_) | apply (zs74 ?_) | apply (zs77 ?_) | apply (zs78 ?_) | fail)
      apply Yc; exact rfl; exact rfl
      exact ⟨by rw [hi]; rfl, rfl⟩
  · repeat' (first | apply (zs2 ?_) | (apply (zs17 ?_ ?_) <;> intro _ <;> try (exfalso; omega)) | apply (zs65 ?_) | apply (zs68 ?_) | apply (zs69 ?_) | apply (zs70 ?_) | (apply zg27; refine zs72 ?_) | apply (zs74 ?_) | apply (zs75 ?_) | apply (zs80 ?_) | apply (zs81 ?_) | fail)
    apply Yc; exact rfl; exact rfl
    rw [hi, List.drop_eq_nil_of_le (by omega)]
    exact ⟨rfl, rfl⟩
theorem JG {α : Type} (val : α → Value) (p : α → Bool) (l : List α) (f : Nat) (cs : List Value) (hen : ∀ xs w, (callFunc f xs).run Tryz.prog w = .ok (.enter f xs) w) (hlen : l.length ≤ 9223372036854775807) {A : Option Addr} {cap B : Nat} {w0 : World} {H : List HP} {w : World} (hr : Rd B w0 H A (l.flatMap fun a => [val a]))
    (hp : ∀ a ∈ l, ∀ w, St B w0 H w → Calls Tryz.prog f ([val a] ++ cs).toArray w (Post B w0 fun v K => v = .bool (p a) ∧ K = H)) (hw : St B w0 H w) :
    Calls Tryz.prog 164 [.slice A l.length cap, .func (.func f) #[] cs.toArray].toArray w (Post B w0 fun v K => v = .bool (l.any p) ∧ K = H) := by
  refine Yd Tryz.func164 Tryz.ntmps164 rfl rfl hw ?_
  have hia := JZ p l 0 (by omega)
  repeat' (first | ((first | apply Ya YhU | apply Yb YhU); exact za; exact rfl; exact fun _ hw => (Q7 val p l f cs hen hlen hr hp hw)) | apply (zs1 ?_) | apply (zs2 ?_) | (apply (zs20 ?_ ?_) <;> intro _ <;> try (exfalso; omega)) | apply (zs65 ?_) | apply (zs68 ?_) | apply (zs69 ?_) | apply (zs70 ?_) | apply (zs74 ?_) | fail)
  all_goals (apply Yc; exact rfl; exact rfl)
  · rename_i h; exact ⟨by rw [hia.1 h], rfl⟩
  · rename_i h
    have : ¬ l.any p = true := fun e => by have := hia.2 e; omega
    exact ⟨by rw [Bool.eq_false_iff.2 this], rfl⟩
theorem Q8 {α : Type} (val : α → Value) (p : α → Bool) (l : List α) (f : Nat) (cs : List Value) (hen : ∀ xs w, (callFunc f xs).run Tryz.prog w = .ok (.enter f xs) w) (hlen : l.length ≤ 9223372036854775807) {A : Option Addr} {cap B : Nat} {w0 : World} {H : List HP} {w : World} (hr : Rd B w0 H A (l.flatMap fun a => [val a]))
    (hp : ∀ a ∈ l, ∀ w, St B w0 H w → Calls Tryz.prog f ([val a] ++ cs).toArray w (Post B w0 fun v K => v = .bool (p a) ∧ K = H)) (hw : St B w0 H w) :
    Calls Tryz.prog 227 [.slice A l.length cap, .func (.func f) #[] cs.toArray].toArray w (Post B w0 fun v K => v = .int .i64 (Yt p l 0) ∧ K = H) := by
  refine Yd Tryz.func227 Tryz.ntmps227 rfl rfl hw ?_
  repeat' (first | apply (zs1 ?_) | apply (zs2 ?_) | (apply zg4; refine zs9 ?_) | apply (zs65 ?_) | apply (zs68 ?_) | apply (zs69 ?_) | apply (zs70 ?_) | apply (zs73 ?_) | fail)
  refine Yk (fun (k : Nat) => [(8, .int .i64 k), (7, .int .i64 l.length), (0, .slice A l.length cap), (1, .func (.func f) #[] cs.toArray)]) (fun _ => H) (fun k => k ≤ l.length ∧ Yt p l 0 = Yt p (l.drop k) k) (fun k => l.length - k) 0 ⟨Nat.zero_le _, by simp⟩ ?_ (fun w hw => hw) ?_
  · exact zu
  rintro k ⟨hk, hi⟩ K hK
  by_cases hlt : k < l.length
  · obtain ⟨a, ha⟩ : ∃ a, l[k]? = some a := ⟨_, List.getElem?_eq_getElem hlt⟩
    have hpa := hp a (List.mem_of_getElem? ha)
    rw [JL p l ha] at hi
    repeat' (first | ((first | apply YG (cs := cs)); exact rfl; exact hen; exact za; exact rfl; exact fun _ hw => hpa _ hw) | apply (zs1 ?_) | apply (zs2 ?_) | (apply zg3; refine zs60 ?_) | (apply zg5; refine zs57 ?_) | (apply (zs17 ?_ ?_) <;> intro _ <;> try (exfalso; omega)) | apply (zs65 ?_) | apply (zs68 ?_) | apply (zs69 ?_) | apply (zs70 ?_) | (apply zg27; refine zs71 ?_) | apply (zs73 ?_) | apply (zs76 ?_) | fail)
    cases hpv : p a
    · rw [hpv] at hi
      repeat' (first | apply (zs1 ?_) | (apply zg13; refine zs30 ?_) | apply (zs65 ?_) | apply (zs68 ?_) | apply (zs70 ?_) | (apply zg27; refine zs72 ?_) | apply (zs76 ?_) | apply (zs79 ?_) | fail)
      apply hK (k + 1)
      · exact ⟨by omega, hi⟩
      · omega
      · exact zu
      · exact fun w hw => hw
    · rw [hpv] at hi
      repeat' (first | apply (zs1 ?_) | apply (zs2 ?_) | apply (zs65 ?_) | apply (zs68 ?_) | apply (zs69 ?_) | apply (zs70 ?_) | (apply zg27; refine zs71 ?_) | apply (zs74 ?_) | apply (zs77 ?_) | apply (zs78 ?_) | fail)
      apply Yc; exact rfl; exact rfl
      exact ⟨by rw [hi]; rfl, rfl⟩
  · repeat' (first | apply (zs2 ?_) | (apply (zs17 ?_ ?_) <;> intro _ <;> try (exfalso; omega)) | apply (zs65 ?_) | apply (zs68 ?_) | apply (zs69 ?_) | apply (zs70 ?_) | (apply zg27; refine zs72 ?_) | apply (zs74 ?_) | apply (zs75 ?_) | apply (zs80 ?_) | apply (zs81 ?_) | fail)
    apply Yc; exact rfl; exact rfl
    rw [hi, List.drop_eq_nil_of_le (by omega)]
    exact ⟨rfl, rfl⟩
theorem JH {α : Type} (val : α → Value) (p : α → Bool) (l : List α) (f : Nat) (cs : List Value) (hen : ∀ xs w, (callFunc f xs).run Tryz.prog w = .ok (.enter f xs) w) (hlen : l.length ≤ 9223372036854775807) {A : Option Addr} {cap B : Nat} {w0 : World} {H : List HP} {w : World} (hr : Rd B w0 H A (l.flatMap fun a => [val a]))
    (hp : ∀ a ∈ l, ∀ w, St B w0 H w → Calls Tryz.prog f ([val a] ++ cs).toArray w (Post B w0 fun v K => v = .bool (p a) ∧ K = H)) (hw : St B w0 H w) :
    Calls Tryz.prog 160 [.slice A l.length cap, .func (.func f) #[] cs.toArray].toArray w (Post B w0 fun v K => v = .bool (l.any p) ∧ K = H) := by
  refine Yd Tryz.func160 Tryz.ntmps160 rfl rfl hw ?_
  have hia := JZ p l 0 (by omega)
  repeat' (first | ((first | apply Ya YhT | apply Yb YhT); exact za; exact rfl; exact fun _ hw => (Q8 val p l f cs hen hlen hr hp hw)) | apply (zs1 ?_) | apply (zs2 ?_) | (apply (zs20 ?_ ?_) <;> intro _ <;> try (exfalso; omega)) | apply (zs65 ?_) | apply (zs68 ?_) | apply (zs69 ?_) | apply (zs70 ?_) | apply (zs74 ?_) | fail)
  all_goals (apply Yc; exact rfl; exact rfl)
  · rename_i h; exact ⟨by rw [hia.1 h], rfl⟩
  · rename_i h
    have : ¬ l.any p = true := fun e => by have := hia.2 e; omega
    exact ⟨by rw [Bool.eq_false_iff.2 this], rfl⟩
theorem Qn {α : Type} (val : α → Value) (p : α → Bool) (l : List α) (f : Nat) (cs : List Value) (hen : ∀ xs w, (callFunc f xs).run Tryz.prog w = .ok (.enter f xs) w) (hlen : l.length ≤ 9223372036854775807) {A : Option Addr} {cap B : Nat} {w0 : World} {H : List HP} {w : World} (hr : Rd B w0 H A (l.flatMap fun a => [val a]))
    (hp : ∀ a ∈ l, ∀ w, St B w0 H w → Calls Tryz.prog f ([val a] ++ cs).toArray w (Post B w0 fun v K => v = .bool (p a) ∧ K = H)) (hw : St B w0 H w) :
    Calls Tryz.prog 284 [.slice A l.length cap, .func (.func f) #[] cs.toArray].toArray w (Post B w0 fun v K => v = .int .i64 (Yt p l 0) ∧ K = H) := by
  refine Yd Tryz.func284 Tryz.ntmps284 rfl rfl hw ?_
  repeat' (first | apply (zs1 ?_) | apply (zs2 ?_) | (apply zg4; refine zs9 ?_) | apply (zs65 ?_) | apply (zs68 ?_) | apply (zs69 ?_) | apply (zs70 ?_) | apply (zs73 ?_) | fail)
  refine Yk (fun (k : Nat) => [(8, .int .i64 k), (7, .int .i64 l.length), (0, .slice A l.length cap), (1, .func (.func f) #[] cs.toArray)]) (fun _ => H) (fun k => k ≤ l.length ∧ Yt p l 0 = Yt p (l.drop k) k) (fun k => l.length - k) 0 ⟨Nat.zero_le _, by simp⟩ ?_ (fun w hw => hw) ?_
  · exact zu
  rintro k ⟨hk, hi⟩ K hK
  by_cases hlt : k < l.length
  · obtain ⟨a, ha⟩ : ∃ a, l[k]? = some a := ⟨_, List.getElem?_eq_getElem hlt⟩
    have hpa := hp a (List.mem_of_getElem? ha)
    rw [JL p l ha] at hi
    repeat' (first | ((first | apply YG (cs := cs)); exact rfl; exact hen; exact za; exact rfl; exact fun _ hw => hpa _ hw) | apply (zs1 ?_) | apply (zs2 ?_) | (apply zg3; refine zs60 ?_) | (apply zg5; refine zs57 ?_) | (apply (zs17 ?_ ?_) <;> intro _ <;> try (exfalso; omega)) | apply (zs65 ?_) | apply (zs68 ?_) | apply (zs69 ?_) | apply (zs70 ?_) | (apply zg27; refine zs71 ?_) | apply (zs73 ?_) | apply (zs76 ?_) | fail)
    cases hpv : p a
    · rw [hpv] at hi
      repeat' (first | apply (zs1 ?_) | (apply zg13; refine zs30 ?_) | apply (zs65 ?_) | apply (zs68 ?_) | apply (zs70 ?_) | (apply zg27; refine zs72 ?_) | apply (zs76 ?_) | apply (zs79 ?_) | fail)
      apply hK (k + 1)
      · exact ⟨by omega, hi⟩
      · omega
      · exact zu
      · exact fun w hw => hw
    · rw [hpv] at hi
      repeat' (first | apply (zs1 ?_) | apply (zs2 ?_) | apply (zs65 ?_) | apply (zs68 ?_) | apply (zs69 ?_) | apply (zs70 ?_) | (apply zg27; refine zs71 ?_) | apply (zs74 ?_) | apply (zs77 ?_) | apply (zs78 ?_) | fail)
      apply Yc; exact rfl; exact rfl
      exact ⟨by rw [hi]; rfl, rfl⟩
  · repeat' (first | apply (zs2 ?_) | (apply (zs17 ?_ ?_) <;> intro _ <;> try (exfalso; omega)) | apply (zs65 ?_) | apply (zs68 ?_) | apply (zs69 ?_) | apply (zs70 ?_) | (apply zg27; refine zs72 ?_) | apply (zs74 ?_) | apply (zs75 ?_) | apply (zs80 ?_) | apply (zs81 ?_) | fail)
    apply Yc; exact rfl; exact rfl
    rw [hi, List.drop_eq_nil_of_le (by omega)]
    exact ⟨rfl, rfl⟩
theorem UG {α : Type} (val : α → Value) (p : α → Bool) (l : List α) (f : Nat) (cs : List Value) (hen : ∀ xs w, (callFunc f xs).run Tryz.prog w = .ok (.enter f xs) w) (hlen : l.length ≤ 9223372036854775807) {A : Option Addr} {cap B : Nat} {w0 : World} {H : List HP} {w : World} (hr : Rd B w0 H A (l.flatMap fun a => [val a]))
    (hp : ∀ a ∈ l, ∀ w, St B w0 H w → Calls Tryz.prog f ([val a] ++ cs).toArray w (Post B w0 fun v K => v = .bool (p a) ∧ K = H)) (hw : St B w0 H w) :
    Calls Tryz.prog 244 [.slice A l.length cap, .func (.func f) #[] cs.toArray].toArray w (Post B w0 fun v K => v = .bool (l.any p) ∧ K = H) := by
  refine Yd Tryz.func244 Tryz.ntmps244 rfl rfl hw ?_
  have hia := JZ p l 0 (by omega)
  repeat' (first | ((first | apply Ya YhW | apply Yb YhW); exact za; exact rfl; exact fun _ hw => (Qn val p l f cs hen hlen hr hp hw)) | apply (zs1 ?_) | apply (zs2 ?_) | (apply (zs20 ?_ ?_) <;> intro _ <;> try (exfalso; omega)) | apply (zs65 ?_) | apply (zs68 ?_) | apply (zs69 ?_) | apply (zs70 ?_) | apply (zs74 ?_) | fail)
  all_goals (apply Yc; exact rfl; exact rfl)
  · rename_i h; exact ⟨by rw [hia.1 h], rfl⟩
  · rename_i h
    have : ¬ l.any p = true := fun e => by have := hia.2 e; omega
    exact ⟨by rw [Bool.eq_false_iff.2 this], rfl⟩
theorem YeP (x : Int) {B : Nat} {w0 : World} {H : List HP} {w : World} (hw : St B w0 H w) : Calls Tryz.prog 158 [.int .i64 x].toArray w (Post B w0 fun v K => v = .bool false ∧ K = H) := by
  refine Yd Tryz.func158 Tryz.ntmps158 rfl rfl hw ?_
  repeat' (first | apply (zs1 ?_) | apply (zs2 ?_) | (apply zg8; (refine zs16 ?_ ?_ <;> intro _ <;> try (exfalso; omega))) | apply (zs65 ?_) | apply (zs68 ?_) | apply (zs69 ?_) | apply (zs70 ?_) | apply (zs74 ?_) | fail)
  apply Yc; exact rfl; exact rfl
  exact ⟨rfl, rfl⟩
theorem WG (x y : Int) {B : Nat} {w0 : World} {H : List HP} {w : World} (hw : St B w0 H w) : Calls Tryz.prog 99 [.int .i64 x, .int .i64 y].toArray w (Post B w0 fun v K => v = .int .i64 (cmpI x y) ∧ K = H) := by
  refine Yd Tryz.func99 Tryz.ntmps99 rfl rfl hw ?_
  unfold cmpI
  repeat' (first | ((first | apply Ya YhN | apply Yb YhN); exact za; exact rfl; exact fun _ hw => (YeP _ hw)) | apply (zs1 ?_) | apply (zs2 ?_) | (apply (zs17 ?_ ?_) <;> intro _ <;> try (exfalso; omega)) | (apply (zs19 ?_ ?_) <;> intro _ <;> try (exfalso; omega)) | apply (zs65 ?_) | apply (zs68 ?_) | apply (zs69 ?_) | apply (zs70 ?_) | (apply zg27; first | refine zs71 ?_ | refine zs72 ?_) | apply (zs74 ?_) | apply (zs76 ?_) | apply (zs77 ?_) | fail)
  all_goals (((repeat apply Yq); apply Yc; exact rfl; exact rfl; refine ⟨congrArg _ ?_, rfl⟩); (repeat (first | refine Y3 (by omega) ?_ | refine Y4 (by omega) ?_)); rfl)
open Go.ChangeShapes Go.WideShapes Go.ChangeAt Go.RowKit Go.Eng Go.Nw
section
variable {H : Type} {enc : TypeId × Value → H} {W : World} {spare : Nat → Bool} {held : Bool}
abbrev I64 (z : Int) : Prop := (Lit.int .i64 z).wf = true
theorem op_i : Opn enc Tryz.prog W spare held 3 numF I64 := Yii Tryz.underlying3
theorem Yho : Opn enc Tryz.prog W spare held 24 (fun s : SlM Int => [s.val]) (SlG W numF I64) := VD (q := 1) Tryz.underlying24 (by kernel_rfl) (by decide) op_i
structure NetG (W : World) (n : NetM) : Prop where
  nodes : I64 n.nodes
  pw : Old W n.pA (n.rows.flatMap rowF)
  rw_ : ∀ r ∈ n.rows, Old W r.A (r.xs.flatMap numF)
  noise : I64 n.noise
  thr : I64 n.thr
  lk : Old W n.lA (n.links.flatMap lkF)
  mg : Old W n.mA (n.margin.flatMap numF)
  s1 : n.rows.length ≤ 9223372036854775807
  s2 : ∀ r ∈ n.rows, r.xs.length ≤ 9223372036854775807
  s3 : n.links.length ≤ 9223372036854775807
  s4 : n.margin.length ≤ 9223372036854775807
  w1 : ∀ r ∈ n.rows, ∀ z ∈ r.xs, I64 z
  w2 : ∀ l ∈ n.links, I64 l.1 ∧ I64 l.2.1 ∧ I64 l.2.2
  w3 : ∀ z ∈ n.margin, I64 z
  c3 : n.links.length ≤ n.lcap
  c4 : n.margin.length ≤ n.mcap
theorem NetG.In {n : NetM} {K : List HP} (h : NetG W n) : n.In W.heap.size W K := ⟨h.pw.rd, fun r hr => (h.rw_ r hr).rd, h.lk.rd, h.mg.rd, h.s1, h.s2, h.s3, h.s4⟩
def YhZ (s : SlM Int) : RowM := ⟨s.A, s.cap, s.xs⟩
theorem maxL : maxLen ≤ 9223372036854775807 := by decide
end
end Go.Proofs.YtmalhidldgfeoaaGreatDoor
namespace Go.Eng
open Go.RowKit
section
variable {P : Program} {B : Nat} {w0 : World} {H : List HP}
theorem Yao {f : Nat} {xs : Array Value} {x y : Value} (e : x = y) (h : ∀ w, St B w0 H w → Calls P f xs w (Post B w0 fun u K => u = x ∧ K = H)) {w : World} (hw : St B w0 H w) : Calls P f xs w (Post B w0 fun u K => u = y ∧ K = H) := e ▸ h w hw
end
open Go.RowKit
section
variable {P : Program} {n : Shp} {B : Nat} {w0 : World} {ops : Array Oper} {Q : Exit → Act → World → Prop} {rest : List Oper} {env : Env} {H : List HP} {d : Nat} {ty : TypeId} {pos : String} {after : Array Edge} {x y : Operand}
theorem Y8 (T : Tab P) {t e size bytes : Nat} (ht : look T.sl t = some (e, size, bytes)) (hn : Nat.ble (d + 1) n.k = true)
    (h : ∀ g, VL P none n B w0 ops Q rest ((d, .slice (some ⟨g, 0, none⟩) 0 0) :: env) (sl e size (some ⟨g, 0, none⟩) 0 0 [] :: H)) : VL P none n B w0 ops Q (⟨some d, .buildSlice t 0 #[], ty, pos, after, none⟩ :: rest) env H := by
  obtain ⟨hut, inf, z', hinf, _⟩ := YP (T.slic ht)
  refine V7 (parts := []) (ps := []) (cs := #[]) (e := e) YaU (fun w => ?_) hn fun g => Uv _ (fun w hw => hw.blk_sl (cs := []) (by simp) (by omega)) (h g)
  simp [Instr.buildSlice, run_underlying hut, sizeOf, typeInfo, hinf, Instr.fill, newRow]
  rw [show Array.range 0 = #[] from Array.eq_empty_of_size_eq_zero (by simp), Array.map_empty]
theorem Ye7 {A : HP} {L L' M : List HP} (h : Rem A L L') (h2 : Perm L' M) : Perm L (A :: M) := Perm.trans h (Perm.cons A h2)
theorem Perm.dropK {A : HP} {L M : List HP} (p : Perm L M) : Perm (A :: L) M := .trans (.drop A L) p
end
open Go.RowKit
section
variable {P : Program} {m : Mode} {n : Shp} {B : Nat} {w0 : World} {ops : Array Oper} {Q : Exit → Act → World → Prop} {rest : List Oper} {env : Env} {H : List HP} {d : Nat} {ty : TypeId} {pos : String} {after : Array Edge} {x y : Operand}
theorem VZ {α : Type} {f : α → List Value} {q : Nat} (hq : ∀ a, (f a).length = q) : ∀ (l : List α) (k : Nat), (l.take k).flatMap f = (l.flatMap f).take (k * q)
  | [], k => by simp
  | a :: l, 0 => by simp
  | a :: l, k + 1 => by
    have e1 : (k + 1) * q = q + k * q := by rw [Nat.add_mul]; omega
    have h1 : (f a).take (q + k * q) = f a := List.take_of_length_le (by rw [hq]; omega)
    rw [List.take_succ_cons, List.flatMap_cons, List.flatMap_cons, VZ hq l k, e1, List.take_append, hq, h1, Nat.add_sub_cancel_left]
theorem YaC {α : Type} {f : α → List Value} {q : Nat} (hq : ∀ a, (f a).length = q) : ∀ (l : List α) (k : Nat), (l.drop k).flatMap f = (l.flatMap f).drop (k * q)
  | [], k => by simp
  | a :: l, 0 => by simp
  | a :: l, k + 1 => by
    have e1 : (k + 1) * q = q + k * q := by rw [Nat.add_mul]; omega
    have h1 : (f a).drop (q + k * q) = [] := List.drop_eq_nil_of_le (by rw [hq]; omega)
    rw [List.drop_succ_cons, List.flatMap_cons, YaC hq l k, e1, List.drop_append, hq, h1, Nat.add_sub_cancel_left, List.nil_append]
theorem Ycv {α : Type} {f : α → List Value} {q : Nat} (hq : ∀ a, (f a).length = q) {v : Value} {o : Nat} (ho : o < q) : ∀ (l : List α) (i : Nat) (b b' : α), l[i]? = some b → f b' = (f b).set o v → (l.flatMap f).set (i * q + o) v = (l.set i b').flatMap f
  | [], i, b, b', h, _ => by simp at h
  | a :: l, 0, b, b', h, hv => by
    obtain rfl : a = b := by simpa using h
    rw [List.flatMap_cons, List.set_cons_zero, List.flatMap_cons, hv, Nat.zero_mul, Nat.zero_add, List.set_append_left _ _ (by rw [hq]; exact ho)]
  | a :: l, i + 1, b, b', h, hv => by
    have h1 := hq a
    rw [List.flatMap_cons, List.set_cons_succ, List.flatMap_cons, List.set_append_right _ _ (by rw [h1, Nat.add_mul]; omega), h1, ← Ycv hq ho l i b b' (by simpa using h) hv]
    congr 2
    rw [Nat.add_mul]; omega
theorem Qd {α : Type} {f : α → List Value} (h1 : ∀ a, Z3 (f a) = true) (l : List α) : ∀ v ∈ l.flatMap f, v.oneCell' = true := by
  intro v hv
  obtain ⟨a, _, ha⟩ := List.mem_flatMap.1 hv
  exact XK (h1 a) v ha
def subA (A : Option Addr) (o cap size : Nat) : Option Addr := if cap = o then A else A.map fun a => a.add (o * size)
theorem Rd.sub {α : Type} {f : α → List Value} {q : Nat} {l : List α} {A : Option Addr} {cap o k : Nat} (hq : ∀ a, (f a).length = q) (hr : Rd B w0 H A (l.flatMap f)) (hc : l.length ≤ cap) : Rd B w0 H (subA A o cap q) (((l.drop o).take k).flatMap f) := by
  intro w hw j v hv
  rw [VZ hq, YaC hq] at hv
  have hv2 : ((l.flatMap f).drop (o * q))[j]? = some v := by
    rw [List.getElem?_take] at hv
    by_cases hj : j < k * q
    · rw [if_pos hj] at hv; exact hv
    · rw [if_neg hj] at hv; cases hv
  rw [List.getElem?_drop] at hv2
  obtain ⟨g, oo, rfl, h2⟩ := hr w hw _ _ hv2
  unfold subA
  by_cases hco : cap = o
  · exfalso
    have h3 := (List.getElem?_eq_some_iff.1 hv2).1
    rw [Xf hq] at h3
    have h4 : l.length * q ≤ o * q := Nat.mul_le_mul_right q (by omega)
    omega
  · rw [if_neg hco]
    exact ⟨g, oo + o * q, by rw [Option.map_some, Addr.add_lit], by rw [Nat.add_assoc]; exact h2⟩
theorem Rd.take {α : Type} {f : α → List Value} {q : Nat} {l : List α} {A : Option Addr} (k : Nat) (hq : ∀ a, (f a).length = q) (hr : Rd B w0 H A (l.flatMap f)) : Rd B w0 H A ((l.take k).flatMap f) := by
  intro w hw j v hv
  rw [VZ hq, List.getElem?_take] at hv
  by_cases hj : j < k * q
  · rw [if_pos hj] at hv; exact hr w hw j v hv
  · rw [if_neg hj] at hv; cases hv
theorem YdI (T : Tab P) {w : World} {t e size bytes : Nat} {A : Option Addr} {k cap : Nat} {lo hi mx : Option Value} {l h mm : Nat} (ht : look T.sl t = some (e, size, bytes)) (hb : (Instr.sliceBounds true k cap lo hi mx).run P w = .ok (l, h, mm) w) :
    (Instr.slice t (.slice A k cap) lo hi mx).run P w = .ok (.slice (if mm = l then A else A.map (·.add (l * size))) (h - l) (mm - l)) w := by
  obtain ⟨hut, inf, z', hinf, _, _, hsi, _⟩ := YP (T.slic ht)
  simp [Instr.slice, run_underlying hut, hb, sizeOf, typeInfo, hinf, hsi]
theorem UZ (T : Tab P) {w : World} {t e size bytes : Nat} {A : Option Addr} {k cap : Nat} {lo hi mx : Option Value} {l h mm : Nat} (ht : look T.sl t = some (e, size, bytes)) (hb : (Instr.sliceBounds true k cap lo hi mx).run P w = .ok (l, h, mm) w) :
    (Instr.sliceAt t (.slice A k cap) lo hi mx).run P w = .ok (.slice (if mm = l then A else A.map (·.add (l * size))) (h - l) (mm - l)) w := by
  obtain ⟨hut, _⟩ := YP (T.slic ht)
  simp [Instr.sliceAt, run_underlying hut, YdI T (A := A) ht hb]
theorem Vk (T : Tab P) {t e size bytes k cap n' : Nat} {A : Option Addr} {lo : Operand} {ki : IntKind} {z : Int} (hx : evo env x = some (.slice A k cap)) (hl : evo env lo = some (.int ki z)) (ht : look T.sl t = some (e, size, bytes)) (hn : Nat.ble (d + 1) n.k = true) (hb : 0 ≤ z ∧ z ≤ k) (hn' : k - z.toNat = n')
    (h : VL P m n B w0 ops Q rest ((d, .slice (subA A z.toNat cap size) n' (cap - z.toNat)) :: env) H) : VL P m n B w0 ops Q (⟨some d, .slice t x (some lo) none none, ty, pos, after, none⟩ :: rest) env H := by
  subst hn'
  refine Yu rfl rfl hn rfl (fun f w ha _ => ?_) h
  have hb2 : (Instr.sliceBounds true k cap (some (.int ki z)) none none).run P w = .ok (z.toNat, k, cap) w := by simp [Instr.sliceBounds, Instr.sliceBound, asIntOf, hb]
  have hr := UZ T (A := A) ht hb2
  simp only [execOp, ha.eval hx, Option.map_some, ha.eval hl, Option.map_none]
  simp [hr, subA]
theorem XU (T : Tab P) {α : Type} {l : List α} {t e size bytes cap n' : Nat} {A : Option Addr} {hi : Operand} {ki : IntKind} {z : Int} (hx : evo env x = some (.slice A l.length cap)) (hl : evo env hi = some (.int ki z)) (ht : look T.sl t = some (e, size, bytes)) (hn : Nat.ble (d + 1) n.k = true) (hb : 0 ≤ z ∧ z ≤ l.length) (hc : l.length ≤ cap) (hn' : z.toNat = n')
    (h : VL P m n B w0 ops Q rest ((d, .slice (subA A 0 cap size) n' cap) :: env) H) : VL P m n B w0 ops Q (⟨some d, .slice t x none (some hi) none, ty, pos, after, none⟩ :: rest) env H := by
  subst hn'
  refine Yu rfl rfl hn rfl (fun f w ha hw => ?_) h
  have hb2 : (Instr.sliceBounds true l.length cap none (some (.int ki z)) none).run P w = .ok (0, z.toNat, cap) w := by
    have : z ≤ cap := by omega
    simp [Instr.sliceBounds, Instr.sliceBound, asIntOf, hb.1, this]
  have hr := UZ T (A := A) ht hb2
  simp only [execOp, ha.eval hx, Option.map_some, ha.eval hl, Option.map_none]
  simp [hr, subA]
theorem YbJ {w : World} {g b : Nat} {cs : Array Value} (h : b ≠ g) : (w.setRow g cs).heap[b]? = w.heap[b]? := by
  simp [World.setRow, Array.getElem?_modify, Ne.symm h]
theorem St.storeRow {w : World} {K : List HP} {e size k k' cap g o : Nat} {A : Option Addr} {xs xs' vs : List Value} {cur : Array Value} (hw : St B w0 H w) (hu : Upd (Eng.sl e size A k cap xs) (Eng.sl e size A k' cap xs') H K) (hA : A = some ⟨g, 0, none⟩)
    (hb : w.heap[g]? = some (.cells cur e (0, 0))) (hcur : cur.size = cap * size) (hk' : k' ≤ cap) (hcm : cap ≤ maxLen) (hov : o + vs.length ≤ cur.size) (hx' : (cur.toList.take o ++ vs ++ cur.toList.drop (o + vs.length)).take (k' * size) = xs') (hxl : xs'.length = k' * size) :
    St B w0 K (w.setRow g (cur.toList.take o ++ vs ++ cur.toList.drop (o + vs.length)).toArray) := by
  refine hw.upd hu rfl rfl rfl (by simp [World.setRow]) fun S1 ⟨hown, hS⟩ => ⟨⟨⟨hxl, .inr ⟨g, cap, _, by rw [hA], Nat.zero_le _, setRow_heap w g cur _ e _ hb, hk', hcm, ?_, by simpa using hx'⟩⟩, hS⟩, fun b hb' _ => YbJ fun e => hb' (by rw [e]; exact hS _ hA)⟩
  simp only [List.size_toArray, List.length_append, List.length_take, List.length_drop, Array.length_toList]
  omega
theorem V5 {w : World} {e size k cap : Nat} {A : Option Addr} {xs : List Value} (h : w.ownsRow 0 e size (.slice A k cap) k xs) : (A = none ∧ k = 0 ∧ cap = 0 ∧ xs = []) ∨ ∃ g cur, A = some ⟨g, 0, none⟩ ∧ w.heap[g]? = some (.cells cur e (0, 0)) ∧ k ≤ cap ∧ cap ≤ maxLen ∧ cur.size = cap * size ∧ cur.toList.take (k * size) = xs ∧ xs.length = k * size := by
  obtain ⟨h1, h2⟩ := h
  rcases h2 with ⟨e1, e2⟩ | ⟨g, c, cur, e1, _, e3, e4, e5, e6, e7⟩
  · injection e1 with a1 a2 a3
    exact .inl ⟨a1, e2, a3, List.eq_nil_of_length_eq_zero (by rw [h1, e2]; simp)⟩
  · injection e1 with a1 a2 a3
    subst a3
    exact .inr ⟨g, cur, a1, e3, e4, e5, e6, e7, h1⟩
theorem St.shrink {w : World} {K : List HP} {e size k k' cap : Nat} {A : Option Addr} {xs : List Value} (hw : St B w0 H w) (hk : k' ≤ k) (hu : Upd (Eng.sl e size A k cap xs) (Eng.sl e size A k' cap (xs.take (k' * size))) H K) : St B w0 K w := by
  refine hw.upd hu rfl rfl rfl (Nat.le_refl _) fun S1 ⟨hown, hS⟩ => ⟨⟨?_, hS⟩, fun _ _ _ => rfl⟩
  rcases V5 hown with ⟨rfl, rfl, rfl, rfl⟩ | ⟨g, cur, rfl, h1, h2, h3, h4, h5, h6⟩
  · obtain rfl : k' = 0 := by omega
    exact ⟨by simp, .inl ⟨rfl, rfl⟩⟩
  · have hm : k' * size ≤ k * size := Nat.mul_le_mul_right _ hk
    refine ⟨by rw [List.length_take, h6]; omega, .inr ⟨g, cap, cur, rfl, Nat.zero_le _, h1, by omega, h3, h4, ?_⟩⟩
    rw [← h5, List.take_take, Nat.min_eq_left hm]
theorem Us (T : Tab P) {α : Type} {f : α → List Value} {l2 : List α} {t : Nat} {A A2 : Option Addr} {k cap c : Nat} {xs : List Value} {e size bytes : Nat} {K : Option Addr → Nat → List HP}
    (hx : evo env x = some (.slice A k cap)) (ht : look T.sl t = some (e, size, bytes)) (hy : evo env y = some (.slice A2 l2.length c)) (hr : Rd B w0 H A2 (l2.flatMap f)) (hq : ∀ a, (f a).length = size) (h1 : ∀ a, Z3 (f a) = true) (hn : Nat.ble (d + 1) n.k = true)
    (hu : ∀ A' cap', Upd (sl e size A k cap xs) (sl e size A' (k + l2.length) cap' (xs ++ l2.flatMap f)) H (K A' cap')) (hby : (k + l2.length) * bytes ≤ 140737488355328)
    (h : ∀ A' cap', VL P none n B w0 ops Q rest ((d, .slice A' (k + l2.length) cap') :: env) (K A' cap')) :
    VL P none n B w0 ops Q (⟨some d, .call ⟨.builtin .append, #[x, y], #[t, t]⟩, ty, pos, after, none⟩ :: rest) env H := by
  obtain ⟨hut, i, z, hi, hz, hzs, hsi, hbi, hs0, hb0⟩ := YP (T.slic ht)
  refine Z1 (fun v K' => ∃ A' cap', v = .slice A' (k + l2.length) cap' ∧ K' = K A' cap') rfl rfl hn (fun a w ha hw => ?_) (by rintro _ _ ⟨A', cap', rfl, rfl⟩; exact h A' cap')
  have hmem : sl e size A k cap xs ∈ H := by
    obtain ⟨L1, L2, rfl, _⟩ := hu none 0
    simp
  have hown := hw.sl hmem
  have h63 : k + l2.length ≤ maxLen := by
    have : k + l2.length ≤ (k + l2.length) * bytes := Nat.le_mul_of_pos_right _ hb0
    simp only [maxLen]; omega
  cases A2 with
  | none =>
    have hl0 : l2 = [] := by
      cases l2 with
      | nil => rfl
      | cons b l =>
        have hb := hq b
        obtain ⟨v, hv⟩ : ∃ v, (f b)[0]? = some v := ⟨_, List.getElem?_eq_getElem (by omega)⟩
        obtain ⟨g, o, e1, _⟩ := hr w hw 0 v (by rw [List.flatMap_cons, List.getElem?_append_left (by omega)]; exact hv)
        cases e1
    subst hl0
    have hkc : k ≤ cap := by
      rcases V5 hown with ⟨_, e1, e2, _⟩ | ⟨_, _, _, _, e1, _⟩ <;> omega
    refine ⟨.slice A k cap, K A cap, w, ?_, ?_, A, cap, by simp, rfl⟩
    · cases A with
      | none => simp [execOp, resolve, invoke, builtin, ha.eval hx, ha.eval hy, Builtin.append_, run_underlying hut, sizeOf, typeInfo, hi, Builtin.lenOf, hkc, Builtin.firstCells]
      | some a0 => simp [execOp, resolve, invoke, builtin, ha.eval hx, ha.eval hy, Builtin.append_, run_underlying hut, sizeOf, typeInfo, hi, Builtin.lenOf, hkc, Builtin.firstCells, storeCells]
    · have := hu A cap
      simp only [List.length_nil, Nat.add_zero, List.flatMap_nil, List.append_nil] at this
      exact hw.upd this rfl rfl rfl (Nat.le_refl _) fun S1 hS => ⟨hS, fun _ _ _ => rfl⟩
  | some a2 =>
    obtain ⟨v', w', hrun, hown', hgrow, _, hat⟩ := run_append_own_at (P := P) w 0 t ty e i z size bytes hut hi hz hsi hbi hzs hs0 (.slice A k cap) k xs hown a2 l2.length c (l2.flatMap f) (Xf hq l2)
      (fun j u hj => by
        obtain ⟨g, o, e1, e2⟩ := hr w hw j u hj
        injection e1 with e1
        rw [e1, Addr.add_lit]; exact e2) (Qd h1 l2) h63 hby (Nat.zero_le _)
    have hshape : ∃ A' cap', v' = .slice A' (k + l2.length) cap' := by
      rcases hown'.2 with ⟨e1, e2⟩ | ⟨g', c', _, e1, _⟩
      · exact ⟨none, 0, by rw [e1, e2]⟩
      · exact ⟨_, _, e1⟩
    obtain ⟨A', cap', rfl⟩ := hshape
    refine ⟨_, K A' cap', w', by simp [execOp, resolve, invoke, builtin, ha.eval hx, ha.eval hy, hrun], ?_, A', cap', rfl, rfl⟩
    refine hw.updN (hu A' cap') hgrow.os hgrow.tape hgrow.output hgrow.size fun S1 ⟨_, hS⟩ => ⟨⟨fun b => Value.ownBlock (.slice A' (k + l2.length) cap') = some b, ⟨hown', ?_⟩, fun b hb => ?_⟩, fun b hb hlt => hgrow.block b hlt (fun e => hb ?_)⟩
    · rintro a rfl; rfl
    · rcases hat with e | e
      · rw [e] at hb
        cases A with
        | none => cases hb
        | some a => left; have := hS a rfl; simp only [Value.ownBlock, Option.some.injEq] at hb; rwa [← hb]
      · rw [e] at hb
        right
        simp only [Option.some.injEq] at hb
        subst hb
        refine ⟨Nat.le_refl _, ?_⟩
        rcases V5 hown' with ⟨rfl, _⟩ | ⟨g', cur', rfl, h5, _⟩
        · simp [Value.ownBlock] at e
        · simp only [Value.ownBlock, Option.some.injEq] at e
          rw [← e]
          exact (Array.getElem?_eq_some_iff.1 h5).1
    · cases A with
      | none => simp [Value.ownBlock] at e
      | some a => have := hS a rfl; simp only [Value.ownBlock, Option.some.injEq] at e; rwa [e]
theorem YfH (T : Tab P) (T2 : Tab2 P) {t e size bytes k cap o mm c : Nat} {A : Option Addr} {xs : List Value} {z : Value} (hx : evo env x = some (.slice (subA A o cap size) mm c)) (hm : sl e size A k cap xs ∈ H) (ht : look T.sl t = some (e, size, bytes)) (hz : look T2.zt e = some z) (hz1 : Z3 z.cells.toList = true) (hb : k ≤ o ∧ o + mm ≤ cap)
    (h : VL P none n B w0 ops Q rest env H) : VL P none n B w0 ops Q (⟨none, .call ⟨.builtin .clear, #[x], #[t]⟩, ty, pos, after, none⟩ :: rest) env H := by
  obtain ⟨hut, i, z', hi, hz', hzs, hsi, hbi, hs0, hb0⟩ := YP (T.slic ht)
  have hzz : z' = z := by
    have h2 := VA T2.zt_ok hz
    unfold Oc at h2
    rw [hi] at h2
    exact Option.some.inj (hz'.symm.trans h2)
  subst hzz
  refine Yib (v := .tuple #[]) rfl rfl (fun a w ha hw => ?_) h
  rcases V5 (hw.sl hm) with ⟨rfl, rfl, rfl, rfl⟩ | ⟨g, cur, rfl, h1, h2, h3, h4, h5, h6⟩
  · obtain rfl : mm = 0 := by omega
    refine ⟨w, ?_, hw⟩
    have : subA none o 0 size = none := by unfold subA; split <;> rfl
    rw [this] at hx
    simp [execOp, resolve, invoke, builtin, ha.eval hx, Builtin.clear_, run_underlying hut]
  · by_cases hm0 : mm = 0
    · subst hm0
      refine ⟨w, ?_, hw⟩
      cases hsa : subA (some ⟨g, 0, none⟩) o cap size with
      | none => rw [hsa] at hx; simp [execOp, resolve, invoke, builtin, ha.eval hx, Builtin.clear_, run_underlying hut]
      | some b => rw [hsa] at hx; simp [execOp, resolve, invoke, builtin, ha.eval hx, Builtin.clear_, run_underlying hut]
    · have hsa : subA (some ⟨g, 0, none⟩) o cap size = some ⟨g, o * size, none⟩ := by
        unfold subA
        rw [if_neg (by omega), Option.map_some, Addr.add_lit, Nat.zero_add]
      rw [hsa] at hx
      have hlen : (Builtin.zeroCells z'.cells mm).toList.length = mm * size := by simp [Builtin.zeroCells, hzs]
      have hone : ∀ v ∈ (Builtin.zeroCells z'.cells mm).toList, v.oneCell' = true := by
        intro v hv
        simp only [Builtin.zeroCells, Array.toList_map, List.mem_map] at hv
        obtain ⟨j, _, rfl⟩ := hv
        have hlt : j % z'.cells.size < z'.cells.size := Nat.mod_lt _ (by omega)
        rw [getElem!_pos z'.cells (j % z'.cells.size) hlt]
        exact XK hz1 _ (by simp)
      have hov : o * size + (Builtin.zeroCells z'.cells mm).toList.length ≤ cur.size := by
        rw [hlen, h4, ← Nat.add_mul]; exact Nat.mul_le_mul_right _ hb.2
      have hrun := run_storeCells_at (P := P) g (o * size) e (Builtin.zeroCells z'.cells mm).toList 0 cur w h1 (by rw [Nat.add_zero]; exact hov) hone
      rw [Nat.add_zero] at hrun
      obtain ⟨L1, L2, hL⟩ : ∃ L1 L2, H = L1 ++ sl e size (some ⟨g, 0, none⟩) k cap xs :: L2 := List.append_of_mem hm
      refine ⟨_, ?_, hw.storeRow (k' := k) (xs' := xs) ⟨L1, L2, hL, hL⟩ rfl h1 h4 h2 h3 hov ?_ h6⟩
      · have hzv : (zeroValue e).run P w = .ok z' w := Ydd (by unfold Oc; rw [hi]; exact hz') w
        obtain ⟨m', rfl⟩ : ∃ m', mm = m' + 1 := ⟨mm - 1, by omega⟩
        simp [execOp, resolve, invoke, builtin, ha.eval hx, Builtin.clear_, run_underlying hut, hzv, hrun]
      · have hko : k * size ≤ o * size := Nat.mul_le_mul_right _ hb.1
        have hoc : o * size ≤ cur.toList.length := by simp; omega
        rw [List.append_assoc, List.take_append_of_le_length (by rw [List.length_take]; omega), List.take_take, Nat.min_eq_left hko]
        exact h5
theorem YN (T : Tab P) {α : Type} {f : α → List Value} {l : List α} {t i q o e k cap : Nat} {b b' : α} {v : Value} {A : Option Addr} {K : List HP} (hx : evo env x = some (sptr A (i * q + o))) (hy : evo env y = some v) (h1 : v.oneCell' = true)
    (hu : Upd (sl e q A k cap (l.flatMap f)) (sl e q A k cap ((l.set i b').flatMap f)) H K) (hb : l[i]? = some b) (hv : f b' = (f b).set o v) (hq : ∀ a, (f a).length = q) (ho : Nat.blt o q = true) (ht : look T.sc t = some ())
    (h : VL P none n B w0 ops Q rest env K) : VL P none n B w0 ops Q (⟨none, .store t x y, ty, pos, after, none⟩ :: rest) env H := by
  have ho' : o < q := by simpa using ho
  have hi := (List.getElem?_eq_some_iff.1 hb).1
  refine Yb2 (xs := l.flatMap f) (e := e) (size := q) (k := k) (cap := cap) T hx hy h1 ?_ ht ?_ h
  · rw [Ycv hq ho' l i b b' hb hv]; exact hu
  · rw [Xf hq]
    have : (i + 1) * q ≤ l.length * q := Nat.mul_le_mul_right _ hi
    rw [Nat.add_mul] at this
    omega
end
open Go.RowKit
open Go.ChangeMaps (setBlock)
section
variable {P : Program} {m : Mode} {n : Shp} {B : Nat} {w0 : World} {ops : Array Oper} {Q : Exit → Act → World → Prop} {rest : List Oper} {env : Env} {H : List HP} {d : Nat} {ty : TypeId} {pos : String} {after : Array Edge} {x y : Operand}
def isSl (P : Program) (t : TypeId) : Bool := match P.underlying t with | some (.slice _) => true | _ => false
theorem YeQ {t : TypeId} (h : isSl P t = true) : ∃ e, P.underlying t = some (.slice e) := by
  unfold isSl at h
  split at h
  · rename_i e hu; exact ⟨e, hu⟩
  · cases h
theorem VS {xt yt : TypeId} {A : Option Addr} {k cap : Nat} (hx : evo env x = some (.slice A k cap)) (hn : Nat.ble (d + 1) n.k = true) (hu : isSl P xt = true)
    (h : VL P m n B w0 ops Q rest ((d, .bool A.isNone) :: env) H) : VL P m n B w0 ops Q (⟨some d, .binOp .eql xt x (.const (.slice none 0 0)) yt, ty, pos, after, none⟩ :: rest) env H := by
  obtain ⟨e, hu⟩ := YeQ hu
  refine YI hx (y := .const (.slice none 0 0)) rfl hn (fun w => by simp [eqGuard]) (fun w => ?_) h
  simp only [binOp, Op.equal]
  rw [Sem.run_bind, show Op.maxDepth = 9999 + 1 from rfl]
  unfold Op.equalIn
  cases A <;> simp [run_underlying hu]
end
open Go.RowKit
section
variable {P : Program} {m : Mode} {n : Shp} {B : Nat} {w0 : World} {ops : Array Oper} {Q : Exit → Act → World → Prop} {rest : List Oper} {env : Env} {H : List HP} {d : Nat} {ty : TypeId} {pos : String} {after : Array Edge} {x y : Operand}
theorem Ycu {α : Type} {f : α → List Value} {q : Nat} (hq : ∀ a, (f a).length = q) : ∀ (l : List α) (i : Nat) (a : α), i < l.length → (l.flatMap f).take (i * q) ++ f a ++ (l.flatMap f).drop (i * q + q) = (l.set i a).flatMap f
  | [], i, a, h => by simp at h
  | b :: l, 0, a, _ => by
    rw [Nat.zero_mul, List.take_zero, List.nil_append, Nat.zero_add, List.flatMap_cons, List.drop_left' (hq b), List.set_cons_zero, List.flatMap_cons]
  | b :: l, i + 1, a, h => by
    have e1 : (i + 1) * q = q + i * q := by rw [Nat.add_mul]; omega
    have e2 : q + i * q + q = q + (i * q + q) := by omega
    have ih := Ycu hq l i a (by simpa using h)
    have hb := hq b
    rw [List.set_cons_succ, List.flatMap_cons, List.flatMap_cons, ← ih, e1, e2, List.take_append, List.drop_append, hb, List.take_of_length_le (by omega), List.drop_eq_nil_of_le (by omega), Nat.add_sub_cancel_left, Nat.add_sub_cancel_left, List.nil_append]
    simp [List.append_assoc]
theorem QY (T : Tab P) {α : Type} {f : α → List Value} {l : List α} {t i q e k cap : Nat} {a : α} {vs : List Value} {A : Option Addr} {K : List HP} (hx : evo env x = some (sptr A (i * q))) (hy : evo env y = some (.agg vs.toArray)) (hv : f a = vs)
    (hu : Upd (sl e q A k cap (l.flatMap f)) (sl e q A k cap ((l.set i a).flatMap f)) H K) (hq : ∀ a, (f a).length = q) (h1 : Z3 vs = true) (ht : look T.ag t = some q) (hq0 : Nat.blt 0 q = true) (hi : i < l.length)
    (h : VL P none n B w0 ops Q rest env K) : VL P none n B w0 ops Q (⟨none, .store t x y, ty, pos, after, none⟩ :: rest) env H := by
  subst hv
  have hmem : sl e q A k cap (l.flatMap f) ∈ H := by
    obtain ⟨L1, L2, rfl, _⟩ := hu
    simp
  have hq0' : 0 < q := by simpa using hq0
  refine Oo rfl rfl (fun ac w ha hw => ?_) h
  have hown := hw.sl hmem
  rcases V5 hown with ⟨_, rfl, _, e4⟩ | ⟨g, cur, rfl, g1, g2, g3, g4, g5, g6⟩
  · have := congrArg List.length e4
    rw [Xf hq] at this
    have h5 : 0 < l.length * q := Nat.mul_pos (by omega) hq0'
    simp at this
    omega
  · have hil : i * q + q ≤ l.length * q := by
      have : (i + 1) * q ≤ l.length * q := Nat.mul_le_mul_right _ hi
      rw [Nat.add_mul] at this; omega
    rw [Xf hq] at g6
    have hkc : k * q ≤ cap * q := Nat.mul_le_mul_right _ g2
    have hov : i * q + (f a).length ≤ cur.size := by rw [hq, g4]; omega
    have hrun := run_storeCells_at (P := P) g (i * q) e (f a) 0 cur w g1 (by rw [Nat.add_zero]; exact hov) (XK h1)
    rw [Nat.add_zero] at hrun
    refine ⟨_, ?_, hw.storeRow (k' := k) (o := i * q) (vs := f a) hu rfl g1 g4 g2 g3 hov ?_ ?_⟩
    · rw [show sptr (some (⟨g, 0, none⟩ : Addr)) (i * q) = .pointer (some ⟨g, i * q, none⟩) by simp [sptr, Addr.add_lit]] at hx
      simp [execOp, ha.eval hx, ha.eval hy, Instr.storeAt, Instr.sureAddr, storeVar, Value.cells, Xv (ZS (T.aggs ht)), hq, hrun]
    · have hX : (cur.toList.take (i * q) ++ f a).length = i * q + q := by rw [List.length_append, List.length_take, Array.length_toList, hq]; omega
      rw [← Ycu hq l i a hi, ← g5, hq, List.take_append, hX, List.take_of_length_le (by omega), List.take_take, Nat.min_eq_left (by omega), List.drop_take]
    · rw [Xf hq, List.length_set]; exact g6
theorem Ya3 {c : Code} {e size k cap : Nat} {A : Option Addr} {xs : List Value} (hm : sl e size A k cap xs ∈ H) (hk : 0 < k) (h : ∀ g, A = some ⟨g, 0, none⟩ → VC P n B w0 c Q env H) : VC P n B w0 c Q env H := by
  refine ⟨fun a w ha hw => ?_⟩
  rcases V5 (hw.sl hm) with ⟨_, e1, _⟩ | ⟨g, _, rfl, _⟩
  · omega
  · exact (h g rfl).run a w ha hw
end
open Go.RowKit
section
variable {P : Program} {n : Shp} {B : Nat} {w0 : World} {ops : Array Oper} {Q : Exit → Act → World → Prop} {rest : List Oper} {env : Env} {H : List HP}
def Zp (ops : Array Oper) : List Nat → Array Bool → Bool
  | [], listed => (Region.ready .any ops listed).isEmpty
  | i :: rest, listed => decide (Region.ready .any ops listed = [i]) && Zp ops rest (listed.setIfInBounds i true)
def YbA (ops : Array Oper) (last : List Nat) : List Nat → Array Bool → Bool
  | [], listed => Zp ops last listed
  | i :: rest, listed =>
    (match ops[i]? with
      | some o => if eff o then decide (Region.ready .any ops listed = [i]) else (Region.ready .any ops listed).contains i && Region.free .any ops listed i
      | none => false) && YbA ops last rest (listed.setIfInBounds i true)
def Qq (ops : Array Oper) (last : List Nat) : Bool :=
  last.all fun j => decide (j < ops.size) && (List.range ops.size).all fun i => last.contains i || (match ops[i]? with | some o => eff o | none => false) || ancB ops ops.size j i
theorem Zl {last : List Nat} (h : Qq ops last = true) : (∀ j, last.contains j = true → ∃ o, ops[j]? = some o) ∧ ∀ i oi, ops[i]? = some oi → eff oi = false → last.contains i = false → ∀ j, last.contains j = true → ∃ f, ancB ops f j i = true := by
  refine ⟨fun j hj => ?_, fun i oi hi he hil j hj => ?_⟩
  · have h1 := List.all_eq_true.1 h j (by simpa using hj)
    simp only [Bool.and_eq_true, decide_eq_true_eq] at h1
    exact ⟨_, Array.getElem?_eq_getElem h1.1⟩
  · have h1 := List.all_eq_true.1 h j (by simpa using hj)
    simp only [Bool.and_eq_true] at h1
    have hlt : i < ops.size := (Array.getElem?_eq_some_iff.1 hi).1
    have h2 := List.all_eq_true.1 h1.2 i (List.mem_range.2 hlt)
    rw [hi, hil] at h2
    simp only [he, Bool.false_or] at h2
    exact ⟨_, h2⟩
theorem Zz {S : World → Prop} {last : List Nat} (l : List Oper) (hl : ops = l.toArray) (hef : ∀ j, last.contains j = true → ∃ o, ops[j]? = some o) (hlo : ¬ LetsOut Q) :
    ∀ (o2 : List Nat) (listed : Array Bool) (a : Act) (w : World), (∀ j ∈ o2, last.contains j = true) → Zp ops o2 listed = true → wpList P ops Q (Yj l o2) a w → XF P ops Q S last o2.length listed a w
  | [], listed, a, w, _, hB, h => ⟨by simpa [Zp] using hB, h⟩
  | i :: rest, listed, a, w, hin, hB, h => by
    simp only [Zp, Bool.and_eq_true, decide_eq_true_eq] at hB
    obtain ⟨h1, h2⟩ := hB
    obtain ⟨o, ho⟩ := hef i (hin i (by simp))
    have hget : nthO l i = o := YC hl ho
    simp only [Yj, hget] at h
    unfold wpList at h
    refine ⟨fun h0 => (by rw [h1] at h0; cases h0), fun k hk => ?_⟩
    rw [h1] at hk
    obtain rfl : k = i := by simpa using hk
    unfold wpOp
    simp only [ho]
    have hc : last.contains k = true := hin k (by simp)
    by_cases hw : Region.wanted o (yielded ops a.tmps) = true
    · rw [if_pos hw] at h ⊢
      rcases h with h | ⟨_, h⟩
      · exact .inl (Oper.wp_mono (fun a' w' h' => ⟨fun hf => (by rw [hc] at hf; cases hf), Zz l hl hef hlo rest _ a' w' (fun j hj => hin j (by simp [hj])) h2 h'⟩) h)
      · exact (hlo h).elim
    · rw [if_neg hw] at h ⊢
      exact ⟨fun hf => (by rw [hc] at hf; cases hf), Zz l hl hef hlo rest _ _ w (fun j hj => hin j (by simp [hj])) h2 h⟩
theorem Ju {S : World → Prop} {last : List Nat} (hs : Region.noSelect ops = true) (hQ : ∀ c (a : Act) (w : World), ¬ Q (.panic c) a w) (hlo : ¬ LetsOut Q) (l : List Oper) (hl : ops = l.toArray) (hlast : Qq ops last = true) :
    ∀ (o1 : List Nat) (listed : Array Bool) (a : Act) (w : World), Closed ops listed → (∀ j ∈ o1, last.contains j = false) → YbA ops last o1 listed = true → S w → Ys P ops (XH P ops Q (Yj l last)) S (Yj l o1) a w →
      XF P ops Q S last (o1 ++ last).length listed a w
  | [], listed, a, w, _, _, hB, _, h => Zz l hl (Zl hlast).1 hlo last listed a w (fun j hj => by simpa using hj) hB h
  | i :: rest, listed, a, w, hcl, hno, hB, hS, h => by
    simp only [YbA, Bool.and_eq_true] at hB
    obtain ⟨h1, h2⟩ := hB
    have hno' : ∀ j ∈ rest, last.contains j = false := fun j hj => hno j (by simp [hj])
    cases ho : ops[i]? with
    | none => rw [ho] at h1; cases h1
    | some o =>
      rw [ho] at h1
      have hget : nthO l i = o := YC hl ho
      simp only [Yj, hget] at h
      by_cases he : eff o = true
      · simp only [he, if_true, decide_eq_true_eq] at h1
        unfold Ys at h
        rw [if_pos he] at h
        refine ⟨fun h0 => (by rw [h1] at h0; cases h0), fun k hk => ?_⟩
        have hk' := hk
        rw [h1] at hk
        obtain rfl : k = i := by simpa using hk
        unfold wpOp
        simp only [ho]
        by_cases hw : Region.wanted o (yielded ops a.tmps) = true
        · rw [if_pos hw] at h ⊢
          refine .inl (Oper.wp_mono_noQ' (fun c a w h => by cases h) (Oper.wp_mono (fun a' w' h' => ⟨fun _ => h'.1, Ju hs hQ hlo l hl hlast rest _ a' w' (hcl.set hk') hno' h2 h'.1 h'.2⟩) h))
        · rw [if_neg hw] at h ⊢
          exact ⟨fun _ => hS, Ju hs hQ hlo l hl hlast rest _ _ w (hcl.set hk') hno' h2 hS h⟩
      · simp only [he] at h1
        simp only [Bool.false_eq_true, if_false, Bool.and_eq_true] at h1
        unfold Ys at h
        rw [if_neg he] at h
        obtain ⟨v, hy, h3⟩ := h
        have hr : i ∈ Region.ready .any ops listed := by simpa using h1.1
        exact Zd ho (Region.noSelect_spec hs) hQ ((Zl hlast).2 i o ho (by simpa using he) (hno i (by simp))) (hno i (by simp)) _ listed a w hcl (Region.free_spec ho h1.2) hr hy hS (Ju hs hQ hlo l hl hlast rest _ _ w (hcl.set hr) hno' h2 hS h3)
theorem Vj {id : Nat} {l : List Oper} (o1 last : List Nat) (mask : List Bool) {Hc F : List HP} (hm : P.follows .mixedOrders = true)
    (hB : (Region.noSelect l.toArray && decide ((o1 ++ last).length = l.toArray.size) && Qq l.toArray last && (o1.all fun j => !last.contains j) && YbA l.toArray last o1 (Array.replicate l.toArray.size false)) = true)
    (hsp : Split mask H Hc F) {l1 l2 : List Oper} (hl1 : Yj l o1 = l1) (hl2 : Yj l last = l2) (h : VL P (some (some F)) n B w0 l.toArray (XH P l.toArray (Only Q) l2) l1 env Hc) : VC P n B w0 (.region id l.toArray true) Q env H := by
  simp only [Bool.and_eq_true, decide_eq_true_eq] at hB
  obtain ⟨⟨⟨⟨h1, h2⟩, h3⟩, h4⟩, h5⟩ := hB
  refine ⟨fun a w ha hw => Ze (Q := Only Q) ?_ fun e a w h => by cases e <;> first | exact h | cases h⟩
  have hst : St B w0 (Hc ++ F) w.drew := (hw.perm (Y5 hsp)).drew
  have hr : Ys P l.toArray (XH P l.toArray (Only Q) l2) (St B w0 Hc) l1 a w.drew := h.run a ha w.drew hst
  rw [← hl1, ← hl2] at hr
  have := Ju (S := St B w0 Hc) h1 (fun c a w h => h) (by rintro ⟨_, _, h⟩; exact h) l rfl h3 o1 _ a w.drew (Xq _ _) (fun j hj => by simpa using List.all_eq_true.1 h4 j hj) h5 hst.prefix_ hr
  rw [h2] at this
  exact Jz hm (XG _ _ _ _ this)
end
open Go.RowKit
open Go.ChangeMaps (setBlock)
inductive OU where
  | done
  | n1 (i : Nat) (t : OU)
  | n2 (i : Nat) (t : OU) (j : Nat) (u : OU)
  | n3 (i : Nat) (t : OU) (j : Nat) (u : OU) (k : Nat) (v : OU)
section
variable {P : Program} {n : Shp} {B : Nat} {w0 : World} {Q : Exit → Act → World → Prop} {env : Env} {H : List HP} {ops : Array Oper}
def Y7 (P : Program) (ops : Array Oper) (l : List Oper) (Q : Exit → Act → World → Prop) (S : World → Prop) : OU → Act → World → Prop
  | .done, a, w => Q .normal a w
  | .n1 i t, a, w => Ys P ops (fun e a w => match e with | .normal => Y7 P ops l Q S t a w | _ => False) S [nthO l i] a w
  | .n2 i t j u, a, w => Ys P ops (fun e a w => match e with | .normal => Y7 P ops l Q S t a w | _ => False) S [nthO l i] a w ∧ Ys P ops (fun e a w => match e with | .normal => Y7 P ops l Q S u a w | _ => False) S [nthO l j] a w
  | .n3 i t j u k v, a, w => Ys P ops (fun e a w => match e with | .normal => Y7 P ops l Q S t a w | _ => False) S [nthO l i] a w ∧ Ys P ops (fun e a w => match e with | .normal => Y7 P ops l Q S u a w | _ => False) S [nthO l j] a w ∧ Ys P ops (fun e a w => match e with | .normal => Y7 P ops l Q S v a w | _ => False) S [nthO l k] a w
def Jh (ops : Array Oper) (last : List Nat) : OU → Array Bool → Nat → Bool
  | .done, listed, 0 => Zp ops last listed
  | .done, _, _ + 1 => false
  | .n1 i t, listed, k + 1 => !last.contains i && (match ops[i]? with
      | some o => if eff o then decide (Region.ready .any ops listed = [i]) else (Region.ready .any ops listed).contains i && Region.free .any ops listed i
      | none => false) && Jh ops last t (listed.setIfInBounds i true) k
  | .n2 i t j u, listed, k + 1 => !last.contains i && !last.contains j && XZ ops i && XZ ops j && ((Region.ready .any ops listed).all fun x => x == i || x == j) && !(Region.ready .any ops listed).isEmpty && Jh ops last t (listed.setIfInBounds i true) k && Jh ops last u (listed.setIfInBounds j true) k
  | .n3 i t j u q v, listed, k + 1 => !last.contains i && !last.contains j && !last.contains q && XZ ops i && XZ ops j && XZ ops q && ((Region.ready .any ops listed).all fun x => x == i || x == j || x == q) && !(Region.ready .any ops listed).isEmpty && Jh ops last t (listed.setIfInBounds i true) k && Jh ops last u (listed.setIfInBounds j true) k && Jh ops last v (listed.setIfInBounds q true) k
  | .n1 _ _, _, 0 => false
  | .n2 _ _ _ _, _, 0 => false
  | .n3 _ _ _ _ _ _, _, 0 => false
theorem Xh {S : World → Prop} {last : List Nat} (hs : Region.noSelect ops = true) (hQ : ∀ c (a : Act) (w : World), ¬ Q (.panic c) a w) (hlo : ¬ LetsOut Q) (l : List Oper) (hl : ops = l.toArray) (hlast : Qq ops last = true) :
    ∀ (t : OU) (k : Nat) (listed : Array Bool) (a : Act) (w : World), Closed ops listed → Jh ops last t listed k = true → S w → Y7 P ops l (XH P ops Q (Yj l last)) S t a w →
      XF P ops Q S last (k + last.length) listed a w
  | .done, 0, listed, a, w, _, hB, _, h => by
    have := Zz (S := S) l hl (Zl hlast).1 hlo last listed a w (fun j hj => by simpa using hj) hB h
    rw [Nat.zero_add]
    exact this
  | .done, _ + 1, _, _, _, _, hB, _, _ => by cases hB
  | .n1 _ _, 0, _, _, _, _, hB, _, _ => by cases hB
  | .n2 _ _ _ _, 0, _, _, _, _, hB, _, _ => by cases hB
  | .n3 _ _ _ _ _ _, 0, _, _, _, _, hB, _, _ => by cases hB
  | .n1 i t, k + 1, listed, a, w, hcl, hB, hS, h => by
    simp only [Jh, Bool.and_eq_true] at hB
    obtain ⟨⟨h0, h1⟩, h2⟩ := hB
    have hno : last.contains i = false := by simpa using h0
    cases ho : ops[i]? with
    | none => rw [ho] at h1; cases h1
    | some o =>
      rw [ho] at h1
      have hget := YC hl ho
      unfold Y7 at h
      rw [hget] at h
      rw [Nat.add_right_comm]
      by_cases he : eff o = true
      · simp only [he, if_true, decide_eq_true_eq] at h1
        refine ⟨fun h0 => (by rw [h1] at h0; cases h0), fun j hj => ?_⟩
        have hj' := hj
        rw [h1] at hj
        obtain rfl : j = i := by simpa using hj
        exact XV ho he hno (fun e a w hne => by cases e <;> simp_all) hS h fun a w hS' h' => Xh hs hQ hlo l hl hlast t k _ a w (hcl.set hj') h2 hS' h'
      · simp only [he] at h1
        simp only [Bool.false_eq_true, if_false, Bool.and_eq_true] at h1
        unfold Ys at h
        rw [if_neg he] at h
        obtain ⟨v, hy, h3⟩ := h
        have hr : i ∈ Region.ready .any ops listed := by simpa using h1.1
        exact Zd ho (Region.noSelect_spec hs) hQ ((Zl hlast).2 i o ho (by simpa using he) hno) hno _ listed a w hcl (Region.free_spec ho h1.2) hr hy hS (Xh hs hQ hlo l hl hlast t k _ _ w (hcl.set hr) h2 hS h3)
  | .n2 i t j u, k + 1, listed, a, w, hcl, hB, hS, h => by
    simp only [Jh, Bool.and_eq_true] at hB
    obtain ⟨⟨⟨⟨⟨⟨⟨b1, b2⟩, b3⟩, b4⟩, b5⟩, b6⟩, b7⟩, b8⟩ := hB
    have hi : last.contains i = false := by simpa using b1
    have hj : last.contains j = false := by simpa using b2
    unfold Y7 at h
    rw [Nat.add_right_comm]
    refine ⟨fun h0 => (by rw [h0] at b6; cases b6), fun x hx => ?_⟩
    have h5 := List.all_eq_true.1 b5 x hx
    simp only [Bool.or_eq_true, beq_iff_eq] at h5
    rcases h5 with rfl | rfl
    · unfold XZ at b3
      cases ho : ops[x]? with
      | none => rw [ho] at b3; cases b3
      | some o =>
        rw [ho] at b3
        have hg := h.1
        rw [YC hl ho] at hg
        exact XV ho b3 hi (fun e a w hne => by cases e <;> simp_all) hS hg fun a w hS' h' => Xh hs hQ hlo l hl hlast t k _ a w (hcl.set hx) b7 hS' h'
    · unfold XZ at b4
      cases ho : ops[x]? with
      | none => rw [ho] at b4; cases b4
      | some o =>
        rw [ho] at b4
        have hg := h.2
        rw [YC hl ho] at hg
        exact XV ho b4 hj (fun e a w hne => by cases e <;> simp_all) hS hg fun a w hS' h' => Xh hs hQ hlo l hl hlast u k _ a w (hcl.set hx) b8 hS' h'
  | .n3 i t j u q v, k + 1, listed, a, w, hcl, hB, hS, h => by
    simp only [Jh, Bool.and_eq_true] at hB
    obtain ⟨⟨⟨⟨⟨⟨⟨⟨⟨⟨b1, b2⟩, b2q⟩, b3⟩, b4⟩, b4q⟩, b5⟩, b6⟩, b7⟩, b8⟩, b9⟩ := hB
    have hi : last.contains i = false := by simpa using b1
    have hj : last.contains j = false := by simpa using b2
    have hq : last.contains q = false := by simpa using b2q
    unfold Y7 at h
    rw [Nat.add_right_comm]
    refine ⟨fun h0 => (by rw [h0] at b6; cases b6), fun x hx => ?_⟩
    have h5 := List.all_eq_true.1 b5 x hx
    simp only [Bool.or_eq_true, beq_iff_eq] at h5
    rcases h5 with (rfl | rfl) | rfl
    · unfold XZ at b3
      cases ho : ops[x]? with
      | none => rw [ho] at b3; cases b3
      | some o =>
        rw [ho] at b3
        have hg := h.1
        rw [YC hl ho] at hg
        exact XV ho b3 hi (fun e a w hne => by cases e <;> simp_all) hS hg fun a w hS' h' => Xh hs hQ hlo l hl hlast t k _ a w (hcl.set hx) b7 hS' h'
    · unfold XZ at b4
      cases ho : ops[x]? with
      | none => rw [ho] at b4; cases b4
      | some o =>
        rw [ho] at b4
        have hg := h.2.1
        rw [YC hl ho] at hg
        exact XV ho b4 hj (fun e a w hne => by cases e <;> simp_all) hS hg fun a w hS' h' => Xh hs hQ hlo l hl hlast u k _ a w (hcl.set hx) b8 hS' h'
    · unfold XZ at b4q
      cases ho : ops[x]? with
      | none => rw [ho] at b4q; cases b4q
      | some o =>
        rw [ho] at b4q
        have hg := h.2.2
        rw [YC hl ho] at hg
        exact XV ho b4q hq (fun e a w hne => by cases e <;> simp_all) hS hg fun a w hS' h' => Xh hs hQ hlo l hl hlast v k _ a w (hcl.set hx) b9 hS' h'
structure VU (P : Program) (n : Shp) (B : Nat) (w0 : World) (ops : Array Oper) (l : List Oper) (Q : Exit → Act → World → Prop) (t : OU) (env : Env) (H F : List HP) : Prop where
  run : ∀ a, Fits n a env → ∀ w, St B w0 (H ++ F) w → Y7 P ops l Q (St B w0 H) t a w
def XS (P : Program) (B : Nat) (w0 : World) (ops : Array Oper) (l : List Oper) (Q : Exit → Act → World → Prop) (Hc : List HP) (t : OU) : Exit → Act → World → Prop
  | .normal, a, w => Y7 P ops l Q (St B w0 Hc) t a w
  | _, _, _ => False
theorem ZY {l : List Oper} {t : OU} : XS P B w0 ops l Q H t = fun e a w => match e with | .normal => Y7 P ops l Q (St B w0 H) t a w | _ => False := by
  funext e a w
  cases e <;> rfl
theorem Ybh {l : List Oper} {F HF : List HP} (happ : App H F HF) (h : VQ n B w0 Q .normal env HF) : VU P n B w0 ops l Q .done env H F :=
  ⟨fun a ha w hw => by rw [← JA happ] at hw; exact h.run a w ha hw⟩
theorem YfX {l : List Oper} {F : List HP} {i : Nat} {t : OU} {o : Oper} (ho : nthO l i = o) (h : VL P (some (some F)) n B w0 ops (XS P B w0 ops l Q H t) [o] env H) : VU P n B w0 ops l Q (.n1 i t) env H F := by
  refine ⟨fun a ha w hw => ?_⟩
  have h1 : Ys P ops (XS P B w0 ops l Q H t) (St B w0 H) [o] a w := h.run a ha w hw
  unfold Y7
  rw [ho, ← ZY]
  exact h1
theorem YfY {l : List Oper} {F : List HP} {i j : Nat} {t u : OU} {o o' : Oper} (ho : nthO l i = o) (ho' : nthO l j = o') (h : VL P (some (some F)) n B w0 ops (XS P B w0 ops l Q H t) [o] env H)
    (h' : VL P (some (some F)) n B w0 ops (XS P B w0 ops l Q H u) [o'] env H) : VU P n B w0 ops l Q (.n2 i t j u) env H F := by
  refine ⟨fun a ha w hw => ?_⟩
  have h1 : Ys P ops (XS P B w0 ops l Q H t) (St B w0 H) [o] a w := h.run a ha w hw
  have h2 : Ys P ops (XS P B w0 ops l Q H u) (St B w0 H) [o'] a w := h'.run a ha w hw
  unfold Y7
  rw [ho, ho', ← ZY, ← ZY]
  exact ⟨h1, h2⟩
theorem YiA {l : List Oper} {F : List HP} {i j q : Nat} {t u v : OU} {o o' o2 : Oper} (ho : nthO l i = o) (ho' : nthO l j = o') (ho2 : nthO l q = o2) (h : VL P (some (some F)) n B w0 ops (XS P B w0 ops l Q H t) [o] env H)
    (h' : VL P (some (some F)) n B w0 ops (XS P B w0 ops l Q H u) [o'] env H) (h2 : VL P (some (some F)) n B w0 ops (XS P B w0 ops l Q H v) [o2] env H) : VU P n B w0 ops l Q (.n3 i t j u q v) env H F := by
  refine ⟨fun a ha w hw => ?_⟩
  have h1 : Ys P ops (XS P B w0 ops l Q H t) (St B w0 H) [o] a w := h.run a ha w hw
  have h2' : Ys P ops (XS P B w0 ops l Q H u) (St B w0 H) [o'] a w := h'.run a ha w hw
  have h3 : Ys P ops (XS P B w0 ops l Q H v) (St B w0 H) [o2] a w := h2.run a ha w hw
  unfold Y7
  rw [ho, ho', ho2, ← ZY, ← ZY, ← ZY]
  exact ⟨h1, h2', h3⟩
theorem OL {l : List Oper} {F H' Hc : List HP} {t : OU} (hp : Pull Hc H' F) (h : VU P n B w0 ops l Q t env Hc F) : VQ n B w0 (XS P B w0 ops l Q Hc t) .normal env H' :=
  ⟨fun a w ha hw => h.run a ha w (hw.perm hp)⟩
theorem OF {id : Nat} {l : List Oper} (t : OU) (last : List Nat) (mask : List Bool) {Hc F : List HP} (hm : P.follows .mixedOrders = true)
    (hB : (Region.noSelect l.toArray && decide (last.length ≤ l.toArray.size) && Qq l.toArray last && Jh l.toArray last t (Array.replicate l.toArray.size false) (l.toArray.size - last.length)) = true)
    (hsp : Split mask H Hc F) {l2 : List Oper} (hl2 : Yj l last = l2) (h : VU P n B w0 l.toArray l (XH P l.toArray (Only Q) l2) t env Hc F) : VC P n B w0 (.region id l.toArray true) Q env H := by
  simp only [Bool.and_eq_true, decide_eq_true_eq] at hB
  obtain ⟨⟨⟨h1, h2⟩, h3⟩, h5⟩ := hB
  refine ⟨fun a w ha hw => Ze (Q := Only Q) ?_ fun e a w h => by cases e <;> first | exact h | cases h⟩
  have hst : St B w0 (Hc ++ F) w.drew := (hw.perm (Y5 hsp)).drew
  have hr := h.run a ha w.drew hst
  rw [← hl2] at hr
  have := Xh (S := St B w0 Hc) h1 (fun c a w h => h) (by rintro ⟨_, _, h⟩; exact h) l rfl h3 t _ _ a w.drew (Xq _ _) h5 hst.prefix_ hr
  rw [Nat.sub_add_cancel h2] at this
  exact Jz hm (XG _ _ _ _ this)
end
def MB (es : Ents) (f : Int → Bool) : Prop := ∀ k, mget es k = if f k = true then some (.bool true) else none
structure MOk (es : Ents) (clock : Nat) : Prop where
  nd : (es.map fun e => e.2.2).Nodup
  kn : (es.map fun e => e.1).Nodup
  lt : ∀ e ∈ es, e.2.2 < clock
theorem MB.nil : MB [] (fun _ => false) := fun _ => rfl
theorem MOk.nil {c : Nat} : MOk [] c := ⟨List.nodup_nil, List.nodup_nil, fun _ h => by cases h⟩
theorem YcJ (es l : Ents) (k : Int) : mget (es ++ l) k = (mget es k).or (mget l k) := by
  unfold mget
  rw [List.find?_append]
  cases es.find? (fun e => e.1 == k) <;> rfl
theorem MB.ext {es : Ents} {f g : Int → Bool} (h : MB es f) (e : ∀ v, f v = g v) : MB es g := fun k => by rw [← e k]; exact h k
theorem MB.put {es : Ents} {f : Int → Bool} {k : Int} {c : Nat} (h : MB es f) (hk : f k = false) : MB (es ++ [(k, .bool true, c)]) (fun v => decide (v = k) || f v) := fun v => by
  rw [YcJ, h v]
  by_cases hv : v = k
  · subst hv
    rw [hk]
    simp [mget]
  · have : (k == v) = false := by simpa using Ne.symm hv
    cases hf : f v <;> simp [mget, hv, this, hf]
theorem MB.mem {es : Ents} {f : Int → Bool} (h : MB es f) {e : Int × Value × Nat} (he : e ∈ es) : f e.1 = true := by
  have hk := h e.1
  cases hf : f e.1 with
  | true => rfl
  | false =>
    rw [hf, if_neg (by decide)] at hk
    unfold mget at hk
    cases hx : es.find? (fun x => x.1 == e.1) with
    | none => have := List.find?_eq_none.1 hx e he; simp at this
    | some x => rw [hx] at hk; cases hk
theorem MOk.put {es : Ents} {f : Int → Bool} {k : Int} {v : Value} {c : Nat} (h : MOk es c) (hf : MB es f) (hk : f k = false) : MOk (es ++ [(k, v, c)]) (c + 1) := by
  refine ⟨?_, ?_, fun e he => ?_⟩
  · rw [List.map_append]
    refine List.nodup_append.2 ⟨h.nd, by simp, fun a ha b hb => ?_⟩
    obtain ⟨e, he, rfl⟩ := List.mem_map.1 ha
    obtain rfl : b = c := by simpa using hb
    have := h.lt e he
    omega
  · rw [List.map_append]
    refine List.nodup_append.2 ⟨h.kn, by simp, fun a ha b hb => ?_⟩
    obtain ⟨e, he, rfl⟩ := List.mem_map.1 ha
    obtain rfl : b = k := by simpa using hb
    intro e2
    have := hf.mem he
    rw [e2, hk] at this
    cases this
  · rcases List.mem_append.1 he with he | he
    · have := h.lt e he; omega
    · obtain rfl := List.mem_singleton.1 he
      exact Nat.lt_succ_self _
theorem MB.at_ {es : Ents} {f : Int → Bool} (h : MB es f) {k : Int} (hk : f k = true) : ∃ e ∈ es, e.1 = k := by
  have h1 := h k
  rw [hk, if_pos rfl] at h1
  unfold mget at h1
  cases hx : es.find? (fun x => x.1 == k) with
  | none => rw [hx] at h1; cases h1
  | some x => exact ⟨x, List.mem_of_find?_eq_some hx, by simpa using List.find?_some hx⟩
theorem Upd.same {A : HP} : ∀ {L : List HP}, A ∈ L → Upd A A L L
  | _ :: _, .head _ => Upd.here _
  | X :: _, .tail _ h => (Upd.same h).there X
section
variable {P : Program} {m : Mode} {n : Shp} {B : Nat} {w0 : World} {ops : Array Oper} {Q : Exit → Act → World → Prop} {rest : List Oper} {env : Env} {H : List HP} {d : Nat} {ty : TypeId} {pos : String} {after : Array Edge} {x y u : Operand}
end
open Go.RowKit
theorem St.putObj {B : Nat} {w0 w : World} {H K : List HP} {g : Nat} {o o' : Obj} (h : St B w0 H w) (u : Upd (Eng.blk g o) (Eng.blk g o') H K) : St B w0 K (w.putObj g o') := by
  have hlt : g < w.heap.size := by
    obtain ⟨L1, L2, rfl, _⟩ := u
    exact (h.blk (g := g) (o := o) (by simp)).2.2
  refine h.upd u rfl rfl rfl (by simp [World.putObj]) fun S1 ⟨h1, _⟩ => ⟨⟨h1, World.putObj_heap_same hlt⟩, fun b hb _ => World.putObj_heap_other fun e => hb (e ▸ h1)⟩
theorem Ygu (X : HP) (Y M : List HP) : Perm (Y ++ X :: M) (X :: (Y ++ M)) := by
  induction Y with
  | nil => exact .refl _
  | cons A Y ih => exact (ih.cons A).trans (.swap A X _)
theorem Ye6 (X : HP) (Y M : List HP) : Perm (X :: (Y ++ M)) (Y ++ X :: M) := by
  induction Y with
  | nil => exact .refl _
  | cons A Y ih => exact (Perm.swap X A _).trans (ih.cons A)
theorem YcQ (Y : List HP) {L M : List HP} (p : Perm L M) : Perm (Y ++ L) (Y ++ M) := by
  induction Y with
  | nil => exact p
  | cons A Y ih => exact ih.cons A
def OM (P : Program) (l : Nat) (args : List Value) (B : Nat) (w0 : World) (H : List HP) (Φt Φf : List HP → Prop) : Prop :=
  ∀ w, St B w0 H w → YieldAt Fence.wide 0 P l args.toArray w fun e w' =>
    (e = .returned (.bool true) ∧ ∃ K, Φt K ∧ St B w0 K w') ∨ (e = .returned (.bool false) ∧ ∃ K, Φf K ∧ St B w0 K w')
def Yaj (P : Program) (gf : Nat) (lb : List Value) (xs : List (List Value)) (B : Nat) (w0 : World) (HI : List HP) : Prop :=
  ∀ (l : Nat) (S : Nat → List HP → Prop) (X : List HP → Prop),
    (∀ (i : Nat) (args : List Value), xs[i]? = some args → ∀ (Y L : List HP), S i L →
      OM P l args B w0 (Y ++ many L :: HI) (fun K => ∃ L', S (i + 1) L' ∧ K = Y ++ many L' :: HI) (fun K => ∃ L', X L' ∧ K = Y ++ many L' :: HI)) →
    ∀ L0, S 0 L0 → ∀ w, St B w0 (many L0 :: HI) w →
      CallsIn Fence.wide 0 P gf (.func (.yield l) #[] #[] :: lb).toArray w (Post B w0 fun _ K => (∃ L, S xs.length L ∧ K = many L :: HI) ∨ ∃ L, X L ∧ K = many L :: HI)
def jump : Exit → Option Code
  | .ret => some .ret
  | .exit id => some (.exit id)
  | _ => none
def YdS {α : Type} (B : Nat) (w0 : World) (R : HP) (HI : List HP) (I : α → Prop) (HH : α → List HP) (X : Exit → List HP → Prop) : Exit → Act → World → Prop
  | .normal, _, w => ∃ y, I y ∧ St B w0 (R :: (HH y ++ HI)) w
  | .ret, _, w => ∃ K, X .ret K ∧ St B w0 (R :: (K ++ HI)) w
  | .exit id, _, w => ∃ K, X (.exit id) K ∧ St B w0 (R :: (K ++ HI)) w
  | _, _, _ => False
def YdR {α : Type} (P : Program) (l B : Nat) (w0 : World) (body : Code) (R : HP) (HI : List HP) (I : α → Prop) (HH : α → List HP) (X : Exit → List HP → Prop) : Exit → Act → World → Prop
  | .normal, a, w => ∃ K, St B w0 (R :: K) w ∧ ∀ R' w', St B w0 (R' :: K) w' → wpR P (some l) body (YdS B w0 R' HI I HH X) a w'
  | _, _, _ => False
def VH : List Nat → List Value → Env → Env
  | p :: ps, v :: vs, e => VH ps vs ((p, v) :: e)
  | _, _, e => e
section
variable {P : Program} {B : Nat} {w0 : World} {Q : Exit → Act → World → Prop} {env : Env} {H : List HP} {k : Nat}
theorem JE {α : Type} {l : Nat} {body : Code} {R : HP} {HI K : List HP} {I : α → Prop} {HH : α → List HP} {X : Exit → List HP → Prop} (hr : Rem R H K)
    (h : ∀ R', VC P ⟨k, [], some l⟩ B w0 body (YdS B w0 R' HI I HH X) env (R' :: K)) : VQ ⟨k, [], some l⟩ B w0 (YdR P l B w0 body R HI I HH X) .normal env H :=
  ⟨fun a _ ha hw => ⟨K, hw.perm hr, fun R' w' hw' => (h R').run a w' ha hw'⟩⟩
theorem JV {α : Type} {n : Shp} {R : HP} {HI : List HP} {I : α → Prop} {HH : α → List HP} {X : Exit → List HP → Prop} (y : α) (hI : I y) (hH : ∀ w, St B w0 H w → St B w0 (R :: (HH y ++ HI)) w) :
    VQ n B w0 (YdS B w0 R HI I HH X) .normal env H := ⟨fun _ w _ hw => ⟨y, hI, hH w hw⟩⟩
theorem OK {α : Type} {n : Shp} {R : HP} {HI : List HP} {I : α → Prop} {HH : α → List HP} {X : Exit → List HP → Prop} (K : List HP) (hX : X .ret K) (hH : ∀ w, St B w0 H w → St B w0 (R :: (K ++ HI)) w) :
    VQ n B w0 (YdS B w0 R HI I HH X) .ret env H := ⟨fun _ w _ hw => ⟨K, hX, hH w hw⟩⟩
theorem Yct : ∀ (ps : List Nat) (vs : List Value) (t : Array Value) (e : Env), t.size = k → (∀ s v, get e s = some v → t[s]? = some v) → ps.all (fun p => Nat.ble (p + 1) k) = true → ps.length = vs.length →
    ((ps.zip vs).foldl (fun t (x : Nat × Value) => t.setIfInBounds x.1 x.2) t).size = k ∧ ∀ s v, get (VH ps vs e) s = some v → ((ps.zip vs).foldl (fun t (x : Nat × Value) => t.setIfInBounds x.1 x.2) t)[s]? = some v
  | [], [], t, e, hs, hg, _, _ => ⟨hs, hg⟩
  | p :: ps, v :: vs, t, e, hs, hg, hp, hl => by
    simp only [List.all_cons, Bool.and_eq_true] at hp
    have hlt := Nat.le_of_ble_eq_true hp.1
    refine Yct ps vs (t.setIfInBounds p v) ((p, v) :: e) (by simpa using hs) (fun s u hu => ?_) hp.2 (by simpa using hl)
    by_cases e2 : p = s
    · subst e2
      rw [get, if_pos rfl] at hu
      rw [← hu, Array.getElem?_setIfInBounds, if_pos rfl, if_pos (by omega)]
    · rw [get, if_neg e2] at hu
      rw [Array.getElem?_setIfInBounds_ne e2]
      exact hg s u hu
theorem XT {α : Type} {ds : List Deferred} {g : Operand} {ps : List Nat} {assign body : Code} {gf : Nat} {lb : List Value} {xs : List (List Value)} (HI : List HP) (HH : α → List HP) (I : Nat → α → Prop) (X : Exit → List HP → Prop) (x0 : α)
    (hg : evo env g = some (.func (.func gf) #[] lb.toArray)) (hc : ∀ xs w, (callFunc gf xs).run P w = .ok (.enter gf xs) w) (hiter : Yaj P gf lb xs B w0 HI)
    (hps : ps.all (fun p => Nat.ble (p + 1) k) = true) (hlen : ∀ args ∈ xs, args.length = ps.length) (hca : calm assign = true) (hcb : calm body = true)
    (hH : ∀ w, St B w0 H w → St B w0 (HH x0 ++ HI) w) (h0 : I 0 x0)
    (hround : ∀ (l i : Nat) (args : List Value) (R : HP) (x : α), xs[i]? = some args → I i x → VC P ⟨k, [], some l⟩ B w0 assign (YdR P l B w0 body R HI (I (i + 1)) HH X) (VH ps args env) (R :: (HH x ++ HI)))
    (hdone : ∀ D x, I xs.length x → VQ ⟨k, ⟨.collected D, #[]⟩ :: ds, none⟩ B w0 Q .normal env (blk D (.deferred (some [])) :: (HH x ++ HI)))
    (hstop : ∀ D e K, X e K → (jump e).isSome = true → VQ ⟨k, ⟨.collected D, #[]⟩ :: ds, none⟩ B w0 Q e env (blk D (.deferred (some [])) :: (K ++ HI))) :
    VC P ⟨k, ds, none⟩ B w0 (.rangeFunc g ps.toArray assign body) Q env H := by
  refine ⟨fun a w ha hw => ?_⟩
  show (Code.rangeFunc g ps.toArray assign body).wp P Q a w
  refine (wpIn_wide (n := 0)).1 (wpIn_rangeFunc ?_)
  intro fn _
  obtain ⟨rec, hrec⟩ : ∃ rec : LoopState → Option Code → Loop, rec = fun st pe => { state := st, pending := pe, fn, tmps := a.tmps, params := ps.toArray, assign, body, defers := w.heap.size } := ⟨_, rfl⟩
  have hst := ((hH w hw).alloc (.deferred (some []))).alloc (.loop (rec .ready none))
  rw [World.size_alloc] at hst
  obtain ⟨l, hl⟩ : ∃ l, w.heap.size + 1 = l := ⟨_, rfl⟩
  obtain ⟨D, hD⟩ : ∃ D, w.heap.size = D := ⟨_, rfl⟩
  rw [hl, hD] at hst
  obtain ⟨W1, hW1⟩ : ∃ W1, (w.alloc (.deferred (some []))).alloc (.loop (rec .ready none)) = W1 := ⟨_, rfl⟩
  rw [hW1] at hst
  refine ⟨l, [⟨.collected D, #[]⟩], W1, { target := .fn (.func gf) lb.toArray, args := #[.func (.yield l) #[] #[]] }, W1, gf, (.func (.yield l) #[] #[] :: lb).toArray, W1, ?_, ?_, ?_, ?_, fun h => by simp [Fence.wide] at h, ?_⟩
  · rw [← hl, ← hD, ← hW1, hrec]
    exact run_enterLoop_outer _ _ _ _ _
  · simp only [resolve, ha.eval hg]
    simp [go_sem]
  · intro f' _; trivial
  · simp [invoke, go_sem, hc]
  · refine CallsIn.mono (hiter l (fun i L => ∃ x, I i x ∧ L = blk l (.loop (rec .ready none)) :: blk D (.deferred (some [])) :: HH x)
      (fun L => ∃ e K c, X e K ∧ jump e = some c ∧ L = blk l (.loop (rec .done (some c))) :: blk D (.deferred (some [])) :: K) ?_ _ ⟨x0, h0, rfl⟩ _ (hst.perm (.close (blk l (.loop (rec .ready none)) :: blk D (.deferred (some [])) :: HH x0) HI))) ?_
    · -- one round
      rintro i args hx Y L ⟨x, hI, rfl⟩ W hW
      have hp1 : ∀ (lp : Loop) (M : List HP), Perm (Y ++ many (blk l (.loop lp) :: blk D (.deferred (some [])) :: M) :: HI) (many (Y ++ [blk l (.loop lp), blk D (.deferred (some []))]) :: (M ++ HI)) := fun lp M => by
        refine (YcQ Y (.open_ _ _)).trans ?_
        have : Y ++ ((blk l (.loop lp) :: blk D (.deferred (some [])) :: M) ++ HI) = (Y ++ [blk l (.loop lp), blk D (.deferred (some []))]) ++ (M ++ HI) := by simp
        rw [this]
        exact .close _ _
      have hp2 : ∀ (lp : Loop) (M : List HP), Perm (many (Y ++ [blk l (.loop lp), blk D (.deferred (some []))]) :: (M ++ HI)) (Y ++ many (blk l (.loop lp) :: blk D (.deferred (some [])) :: M) :: HI) := fun lp M => by
        refine Perm.trans (.open_ _ _) ?_
        have : (Y ++ [blk l (.loop lp), blk D (.deferred (some []))]) ++ (M ++ HI) = Y ++ ((blk l (.loop lp) :: blk D (.deferred (some [])) :: M) ++ HI) := by simp
        rw [this]
        exact YcQ Y (.close _ _)
      have hpf : ∀ (lp : Loop) (M : List HP), Perm (many (Y ++ [blk l (.loop lp), blk D (.deferred (some []))]) :: M) (blk l (.loop lp) :: (Y ++ blk D (.deferred (some [])) :: M)) := fun lp M => by
        refine Perm.trans (.open_ _ _) ?_
        have : (Y ++ [blk l (.loop lp), blk D (.deferred (some []))]) ++ M = Y ++ blk l (.loop lp) :: (blk D (.deferred (some [])) :: M) := by simp
        rw [this]
        exact Ygu _ _ _
      have hpb : ∀ (lp : Loop) (M : List HP), Perm (blk l (.loop lp) :: (Y ++ blk D (.deferred (some [])) :: M)) (many (Y ++ [blk l (.loop lp), blk D (.deferred (some []))]) :: M) := fun lp M => by
        refine Perm.trans (Ye6 _ _ _) ?_
        have : Y ++ blk l (.loop lp) :: (blk D (.deferred (some [])) :: M) = (Y ++ [blk l (.loop lp), blk D (.deferred (some []))]) ++ M := by simp
        rw [this]
        exact .close _ _
      have hW1 := hW.perm (hp1 _ _)
      have hW2 := hW1.perm (hpf _ _)
      have hlp := (hW2.blk List.mem_cons_self).1
      have hal := hlen args (List.mem_of_getElem? hx)
      have hy := run_yield (P := P) (args := args.toArray) hlp (by rw [hrec]; simp [hal])
      rw [hrec] at hy
      refine ⟨fn, _, assign, body, hy, roundIn_of_wpIn trivial ?_⟩
      have hfit := Yct ps args a.tmps env ha.size (fun s v h => ha.slot s v h) hps hal.symm
      have hz : (ps.toArray.zip args.toArray).foldl (fun t (x : Nat × Value) => t.setIfInBounds x.1 x.2) a.tmps = (ps.zip args).foldl (fun t (x : Nat × Value) => t.setIfInBounds x.1 x.2) a.tmps := by
        rw [← Array.foldl_toList]; simp
      have hva := (hround l i args (many (Y ++ [blk l (.loop (rec .ready none)), blk D (.deferred (some []))])) x hx hI).run
        { tmps := (ps.toArray.zip args.toArray).foldl (fun t (x : Nat × Value) => t.setIfInBounds x.1 x.2) a.tmps, defers := [] } W ⟨rfl, by rw [hz]; exact hfit.1, fun s v h => by rw [hz]; exact hfit.2 s v h⟩ hW1
      refine wpIn_mono (hva (by rintro ⟨_, _, h⟩; exact h) hca) ?_
      intro e a1 w1 hq
      cases e with
      | normal =>
        obtain ⟨K, hK, hbody⟩ := hq
        have hK2 := hK.perm (hpf _ _)
        have hlp2 := (hK2.blk List.mem_cons_self).1
        refine ⟨_, run_beginRound hlp2 (by rw [hrec]), ?_⟩
        have hK3 := (hK2.putObj (o' := .loop { rec .ready none with state := .busy }) (.here _)).perm (hpb _ _)
        have hvb := hbody _ _ hK3
        refine wpIn_mono (hvb (by rintro ⟨_, _, h⟩; exact h) hcb) ?_
        intro e a3 w3 hq3
        have fin : ∀ (jp : Option Code) (M : List HP), St B w0 (many (Y ++ [blk l (.loop { rec .ready none with state := .busy }), blk D (.deferred (some []))]) :: (M ++ HI)) w3 →
            ∃ w4, (Instr.endRound l jp).run P w3 = .ok (.bool jp.isNone) w4 ∧ St B w0 (Y ++ many (blk l (.loop (rec (if jp.isNone then .ready else .done) jp)) :: blk D (.deferred (some [])) :: M) :: HI) w4 := fun jp M h3 => by
          have h4 := h3.perm (hpf _ _)
          have h5 := (h4.blk List.mem_cons_self).1
          have h6 := run_endRound (P := P) jp h5
          refine ⟨_, h6, ?_⟩
          have h7 := ((h4.putObj (o' := .loop (rec (if jp.isNone then .ready else .done) jp)) (.here _)).perm (hpb _ _)).perm (hp2 _ _)
          rw [hrec] at h7 ⊢
          exact h7
        cases e with
        | normal =>
          obtain ⟨y, hIy, h3⟩ := hq3
          obtain ⟨w4, h5, h6⟩ := fin none _ h3
          exact ⟨_, w4, h5, .inl ⟨rfl, _, ⟨_, ⟨y, hIy, rfl⟩, rfl⟩, h6⟩⟩
        | ret =>
          obtain ⟨K3, hX3, h3⟩ := hq3
          obtain ⟨w4, h5, h6⟩ := fin (some .ret) _ h3
          exact ⟨_, w4, h5, .inr ⟨rfl, _, ⟨_, ⟨.ret, K3, .ret, hX3, rfl, rfl⟩, rfl⟩, h6⟩⟩
        | exit id =>
          obtain ⟨K3, hX3, h3⟩ := hq3
          obtain ⟨w4, h5, h6⟩ := fin (some (.exit id)) _ h3
          exact ⟨_, w4, h5, .inr ⟨rfl, _, ⟨_, ⟨.exit id, K3, .exit id, hX3, rfl, rfl⟩, rfl⟩, h6⟩⟩
        | goto t => exact hq3.elim
        | panic ch => exact hq3.elim
        | outgrown => exact hq3.elim
      | ret => exact hq
      | exit id => exact hq
      | goto t => exact hq
      | panic ch => exact hq
      | outgrown => exact hq
    · -- behind the iterator
      rintro e W2 ⟨v, K, rfl, hst2, hK⟩
      have hpn : ∀ st pe, (rec st pe).pending = pe := fun st pe => by rw [hrec]
      have hds : ∀ {M : List HP} {w' : World}, St B w0 M w' → Fits ⟨k, ⟨.collected D, #[]⟩ :: ds, none⟩ { a with defers := [⟨.collected D, #[]⟩] ++ a.defers } env := fun _ =>
        ⟨by rw [ha.defers]; rfl, ha.size, ha.slot⟩
      rcases hK with ⟨L, ⟨x, hI, rfl⟩, rfl⟩ | ⟨L, ⟨e, K, c, hX, hj, rfl⟩, rfl⟩
      · have h1 := hst2.perm (.open_ _ _)
        have h2 := (h1.blk List.mem_cons_self).1
        have h3 := run_endLoop (P := P) h2 (by rw [hrec]; simp)
        have h4 := (h1.putObj (o' := .loop { rec .ready none with state := .exhausted }) (.here _)).tail
        refine ⟨none, _, h3.trans (congrArg (fun j => Result.ok j _) (hpn _ _)), ?_⟩
        exact (hdone D x hI).run _ _ (hds h4) h4
      · have h1 := hst2.perm (.open_ _ _)
        have h2 := (h1.blk List.mem_cons_self).1
        have h3 := run_endLoop (P := P) h2 (by rw [hrec]; simp)
        have h4 := (h1.putObj (o' := .loop { rec .done (some c) with state := .exhausted }) (.here _)).tail
        refine ⟨some c, _, h3.trans (congrArg (fun j => Result.ok j _) (hpn _ _)), ?_⟩
        have h5 := (hstop D e K hX (by rw [hj]; rfl)).run _ _ (hds h4) h4
        cases e with
        | ret => obtain rfl := Option.some.inj hj; exact wpIn_ret h5
        | exit id => obtain rfl := Option.some.inj hj; exact wpIn_exit h5
        | normal => cases hj
        | goto t => cases hj
        | panic ch => cases hj
        | outgrown => cases hj
theorem XR {n : Nat} {f : FuncId} {fn : Func} {c : Code} {args : List Value} {w : World} {Φ : Value → List HP → Prop} (hf : P.funcs[f]? = some fn) (hn : fn.ntmps = n) (hb : fn.body = some c)
    (hle : Nat.ble args.length n = true) (hw : St B w0 H w) (h : VC P ⟨n, [], none⟩ B w0 c (bodyPostM Fence.wide 0 P fn (Post B w0 Φ)) (Vm 0 args) H) : Calls P f args.toArray w (Post B w0 Φ) := by
  refine (callsIn_wide (n := 0)).1 (callsIn_of_wp_marks hf hb trivial ((wpIn_wide (n := 0)).2 (h.run _ w ⟨rfl, ?_, fun t v ht => ?_⟩ hw)))
  · have := Nat.le_of_ble_eq_true hle; simp; omega
  · obtain ⟨_, h2⟩ := Uk args 0 t v ht
    rw [Nat.sub_zero] at h2
    have hlt : t < args.length := by
      rcases Nat.lt_or_ge t args.length with h | h
      · exact h
      · rw [List.getElem?_eq_none h] at h2; cases h2
    rw [Array.getElem?_append_left (by simpa using hlt)]
    simpa using h2
theorem YcB {fn : Func} {R : Ending → World → Prop} {a : Act} {w : World} (h : bodyPost P fn R .ret a w) : bodyPostM Fence.wide 0 P fn R .ret a w := by
  obtain ⟨h1, h2⟩ := h
  show LeavesInM Fence.wide 0 P fn a.tmps R a.defers .returning w
  rw [h1]
  exact h2
theorem VQ_m {n : Nat} {fn : Func} {R : Ending → World → Prop} (h : VQ ⟨n, [], none⟩ B w0 (bodyPost P fn R) .ret env H) : VQ ⟨n, [], none⟩ B w0 (bodyPostM Fence.wide 0 P fn R) .ret env H :=
  ⟨fun a w ha hw => YcB (h.run a w ha hw)⟩
theorem Zt {n D : Nat} {ds : List Deferred} {fn : Func} {R : Ending → World → Prop} {H' : List HP} (hr : Rem (blk D (.deferred (some []))) H H') (h : VQ ⟨n, ds, none⟩ B w0 (bodyPostM Fence.wide 0 P fn R) .ret env H') :
    VQ ⟨n, ⟨.collected D, #[]⟩ :: ds, none⟩ B w0 (bodyPostM Fence.wide 0 P fn R) .ret env H := by
  refine ⟨fun a w ha hw => ?_⟩
  show LeavesInM Fence.wide 0 P fn a.tmps R a.defers .returning w
  rw [ha.defers]
  have hw2 := hw.perm hr
  have hb := (hw2.blk List.mem_cons_self).1
  refine ⟨by simp, .inl ⟨D, _, rfl, run_takeDeferred hb, ?_⟩⟩
  have h3 := (hw2.putObj (o' := .deferred none) (.here _)).tail
  exact h.run { a with defers := ds } _ ⟨rfl, ha.size, ha.slot⟩ h3
theorem Vy {ops : Array Oper} (hlo : ¬ LetsOut Q) : ∀ (os : List Oper) (a : Act) (w : World), wpList P ops Q os a w → wpListIn Fence.wide 0 P ops Q os a w
  | [], _, _, h => h
  | o :: os, a, w, h => by
    unfold wpList at h
    unfold wpListIn
    split
    · rename_i hw
      rw [if_pos hw] at h
      rcases h with h | ⟨_, h⟩
      · refine ⟨fun f _ => trivial, ?_⟩
        have h2 := Oper.wp_mono (fun a w h => Vy hlo os a w h) h
        unfold Oper.wp at h2
        have hs : Oper.semAt Fence.wide.round a.eval o = execOp a.eval o := Oper.semAt_none _ _
        rw [hs]
        generalize (execOp a.eval o).run P w = res at h2 ⊢
        cases res with
        | ok x w' =>
          cases x <;> simp only [Oper.upon, Oper.uponIn] at h2 ⊢ <;> first
            | exact h2
            | (refine ⟨fun hd => by simp [Fence.wide] at hd, ?_⟩
               refine CallsIn.mono (callsIn_wide.2 h2) fun e w'' he => ?_
               cases e <;> exact he)
            | (refine ⟨fun hd => by simp [Fence.wide] at hd, fun c cs _ => ?_⟩
               obtain ⟨v, w2, k1, k2⟩ := h2 c cs
               exact ⟨v, w2, k1, stepsIn_wide.2 k2⟩)
            | exact h2.elim
        | halt x w' => cases x <;> simp only [Oper.upon, Oper.uponIn] at h2 ⊢ <;> first | exact h2 | exact h2.elim
      · exact (hlo h).elim
    · rename_i hw
      rw [if_neg hw] at h
      exact ⟨fun f _ => trivial, Vy hlo os _ w h⟩
def YQ (P : Program) (ops : Array Oper) (Q : Exit → Act → World → Prop) (l : List Oper) : Exit → Act → World → Prop
  | .normal, a, w => wpListIn Fence.wide 0 P ops Q l a w
  | e, a, w => Q e a w
theorem Qt {ops : Array Oper} {l : List Oper} (hlo : ¬ LetsOut Q) : ∀ (os : List Oper) (a : Act) (w : World), wpList P ops (YQ P ops Q l) os a w → wpListIn Fence.wide 0 P ops Q (os ++ l) a w
  | [], _, _, h => h
  | o :: os, a, w, h => by
    unfold wpList at h
    rw [List.cons_append]
    unfold wpListIn
    split
    · rename_i hw
      rw [if_pos hw] at h
      rcases h with h | ⟨_, h⟩
      · refine ⟨fun f _ => trivial, ?_⟩
        have h2 := Oper.wp_mono (fun a w h => Qt hlo os a w h) h
        unfold Oper.wp at h2
        have hs : Oper.semAt Fence.wide.round a.eval o = execOp a.eval o := Oper.semAt_none _ _
        rw [hs]
        generalize (execOp a.eval o).run P w = res at h2 ⊢
        cases res with
        | ok x w' =>
          cases x <;> simp only [Oper.upon, Oper.uponIn] at h2 ⊢ <;> first
            | exact h2
            | (refine ⟨fun hd => by simp [Fence.wide] at hd, ?_⟩
               refine CallsIn.mono (callsIn_wide.2 h2) fun e w'' he => ?_
               cases e <;> exact he)
            | (refine ⟨fun hd => by simp [Fence.wide] at hd, fun c cs _ => ?_⟩
               obtain ⟨v, w2, k1, k2⟩ := h2 c cs
               exact ⟨v, w2, k1, stepsIn_wide.2 k2⟩)
            | exact h2.elim
        | halt x w' => cases x <;> simp only [Oper.upon, Oper.uponIn] at h2 ⊢ <;> first | exact h2 | exact h2.elim
      · exact (hlo h).elim
    · rename_i hw
      rw [if_neg hw] at h
      exact ⟨fun f _ => trivial, Qt hlo os _ w h⟩
theorem OE {n : Nat} {ds : List Deferred} {id : Nat} {l : List Oper} (k : Nat) {l1 l2 : List Oper} (h1 : l.take k = l1) (h2 : l.drop k = l2) (hlo : ¬ LetsOut Q) (h : VL P none ⟨n, ds, none⟩ B w0 l.toArray (YQ P l.toArray Q l2) l1 env H) :
    VC P ⟨n, ds, none⟩ B w0 (.region id l.toArray false) Q env H := by
  refine ⟨fun a w ha hw => ?_⟩
  refine (wpIn_wide (n := 0)).1 (wpIn_region_lit ?_)
  have := Qt hlo _ _ _ (h.run a ha w hw)
  rw [← h1, ← h2, List.take_append_drop] at this
  exact this
theorem Yb9 {n : Nat} {ds : List Deferred} {ops : Array Oper} {d l : Nat} {x : Operand} {args : List Operand} {tys : Array TypeId} {ty : TypeId} {pos : String} {after : Array Edge} {gd : Option (Nat × Bool)} {vs : List Value} {rest : List Oper} (Φt Φf : List HP → Prop)
    (hgd : ∀ a : Act, Fits ⟨n, ds, none⟩ a env → Region.wanted ⟨some d, .call ⟨.value x, args.toArray, tys⟩, ty, pos, after, gd⟩ (yielded ops a.tmps) = true)
    (hx : evo env x = some (.func (.yield l) #[] #[])) (hargs : Args env args vs) (hn : Nat.ble (d + 1) n = true) (hlo : ¬ LetsOut Q) (hy : OM P l vs B w0 H Φt Φf)
    (ht : ∀ K, Φt K → VL P none ⟨n, ds, none⟩ B w0 ops Q rest ((d, .bool true) :: env) K)
    (hf : ∀ K, Φf K → VL P none ⟨n, ds, none⟩ B w0 ops Q rest ((d, .bool false) :: env) K) :
    VQ ⟨n, ds, none⟩ B w0 (YQ P ops Q (⟨some d, .call ⟨.value x, args.toArray, tys⟩, ty, pos, after, gd⟩ :: rest)) .normal env H := by
  refine ⟨fun a w ha hw => ?_⟩
  show wpListIn Fence.wide 0 P ops Q _ a w
  unfold wpListIn
  rw [if_pos (hgd a ha)]
  refine ⟨fun f _ => trivial, ?_⟩
  obtain ⟨fn, tmps, assign, body, hrun, hround⟩ := hy w hw
  have hmap : args.toArray.map a.eval = vs.toArray := by rw [List.map_toArray, J3 ha _ _ hargs]
  have hs : Oper.semAt Fence.wide.round a.eval ⟨some d, .call ⟨.value x, args.toArray, tys⟩, ty, pos, after, gd⟩ = execOp a.eval ⟨some d, .call ⟨.value x, args.toArray, tys⟩, ty, pos, after, gd⟩ := Oper.semAt_none _ _
  rw [hs]
  have hex : (execOp a.eval ⟨some d, .call ⟨.value x, args.toArray, tys⟩, ty, pos, after, gd⟩).run P w = .ok (.round l fn tmps assign body) w := by
    simp only [execOp, resolve, ha.eval hx, hmap, Deferred.ofValue, Sem.run_bind, Sem.run_pure, Result.andThen_ok, invoke]
    simpa using hrun
  rw [hex, Oper.uponIn_round]
  refine ⟨fun hd => by simp [Fence.wide] at hd, RoundIn.mono hround ?_⟩
  rintro e w' (⟨rfl, K', hΦ, hst⟩ | ⟨rfl, K', hΦ, hst⟩)
  · exact Vy hlo _ _ _ ((ht K' hΦ).run _ (ha.put (Nat.le_of_ble_eq_true hn) _) _ hst)
  · exact Vy hlo _ _ _ ((hf K' hΦ).run _ (ha.put (Nat.le_of_ble_eq_true hn) _) _ hst)
theorem YfW {n : Nat} {ds : List Deferred} {ops : Array Oper} {o : Oper} {rest : List Oper} (hlo : ¬ LetsOut Q) (h : VL P none ⟨n, ds, none⟩ B w0 ops Q (o :: rest) env H) : VQ ⟨n, ds, none⟩ B w0 (YQ P ops Q (o :: rest)) .normal env H :=
  ⟨fun a w ha hw => Vy hlo _ _ _ (h.run a ha w hw)⟩
theorem Oa {n : Nat} {ds : List Deferred} {ops : Array Oper} {dst : Option Tmp} {op : Op} {ty : TypeId} {pos : String} {after : Array Edge} : ∀ a : Act, Fits ⟨n, ds, none⟩ a env → Region.wanted ⟨dst, op, ty, pos, after, none⟩ (yielded ops a.tmps) = true := fun _ _ => by simp [Region.wanted]
theorem Yda {n : Nat} {ds : List Deferred} {ops : Array Oper} {dst : Option Tmp} {op : Op} {ty : TypeId} {pos : String} {after : Array Edge} {j s : Nat} {b : Bool} {oj : Oper} (hj : ops[j]? = some oj) (hs : oj.dst = some s) (hv : get env s = some (.bool b)) :
    ∀ a : Act, Fits ⟨n, ds, none⟩ a env → Region.wanted ⟨dst, op, ty, pos, after, some (j, b)⟩ (yielded ops a.tmps) = true := fun a ha => by simp [Region.wanted, yielded, hj, hs, ha.slot s _ hv]
theorem YbN {n gf : Nat} {fn : Func} {c : Code} {lb : List Value} {xs : List (List Value)} {HI : List HP} (hf : P.funcs[gf]? = some fn) (hn : fn.ntmps = n) (hb : fn.body = some c) (hle : Nat.ble (lb.length + 1) n = true)
    (h : ∀ (l : Nat) (S : Nat → List HP → Prop) (X : List HP → Prop),
      (∀ (i : Nat) (args : List Value), xs[i]? = some args → ∀ (Y L : List HP), S i L →
        OM P l args B w0 (Y ++ many L :: HI) (fun K => ∃ L', S (i + 1) L' ∧ K = Y ++ many L' :: HI) (fun K => ∃ L', X L' ∧ K = Y ++ many L' :: HI)) →
      ∀ L0, S 0 L0 → VC P ⟨n, [], none⟩ B w0 c (bodyPost P fn (Post B w0 fun _ K => (∃ L, S xs.length L ∧ K = many L :: HI) ∨ ∃ L, X L ∧ K = many L :: HI)) (Vm 0 (.func (.yield l) #[] #[] :: lb)) (many L0 :: HI)) : Yaj P gf lb xs B w0 HI := by
  intro l S X hy L0 h0 w hw
  exact callsIn_wide.2 (Yd (args := .func (.yield l) #[] #[] :: lb) hf hn hb hle hw (h l S X hy L0 h0))
end
open Go.RowKit
section
variable {P : Program} {m : Mode} {n : Shp} {B : Nat} {w0 : World} {ops : Array Oper} {Q : Exit → Act → World → Prop} {rest : List Oper} {env : Env} {H : List HP} {d : Nat} {ty : TypeId} {pos : String} {after : Array Edge}
theorem Uu (T : Tab P) {t g o k e size : Nat} {x : Operand} (hx : evo env x = some (.pointer (some ⟨g, o, none⟩))) (ht : look T.ar t = some (k, e, size)) (hn : Nat.ble (d + 1) n.k = true)
    (h : VL P m n B w0 ops Q rest ((d, .slice (some ⟨g, o, none⟩) k k) :: env) H) :
    VL P m n B w0 ops Q (⟨some d, .slice t x none none none, ty, pos, after, none⟩ :: rest) env H := by
  obtain ⟨inf, hu, hinf, hs⟩ := WC (T.arra ht)
  refine Yu rfl rfl hn rfl (fun a w ha hw => ?_) h
  simp [execOp, ha.eval hx, Instr.sliceAt, Instr.sliceBounds, Instr.sureAddr, run_underlying hu, sizeOf, typeInfo, hinf, Addr.add_lit]
theorem Ycc : ∀ (L : List HP), App L [] L
  | [] => rfl
  | _ :: L => ⟨rfl, Ycc L⟩
theorem YB {id : Nat} {l : List Oper} (o1 last : List Nat) (hm : P.follows .mixedOrders = true)
    (hB : (Region.noSelect l.toArray && decide ((o1 ++ last).length = l.toArray.size) && YaL l.toArray last && (o1.all fun j => !last.contains j) && J4 l.toArray (o1 ++ last) (Array.replicate l.toArray.size false)) = true)
    {l1 l2 : List Oper} (hl1 : Yj l o1 = l1) (hl2 : Yj l last = l2) (h : VL P (some (some [])) n B w0 l.toArray (XH P l.toArray (Only Q) l2) l1 env H) : VC P n B w0 (.region id l.toArray true) Q env H := by
  simp only [Bool.and_eq_true, decide_eq_true_eq] at hB
  obtain ⟨⟨⟨⟨h1, h2⟩, h3⟩, h4⟩, h5⟩ := hB
  refine ⟨fun a w ha hw => Ze (Q := Only Q) ?_ fun e a w h => by cases e <;> first | exact h | cases h⟩
  have hst : St B w0 (H ++ []) w.drew := by rw [List.append_nil]; exact hw.drew
  have hr : Ys P l.toArray (XH P l.toArray (Only Q) l2) (St B w0 H) l1 a w.drew := h.run a ha w.drew hst
  rw [← hl1, ← hl2] at hr
  have := Z8 (S := St B w0 H) h1 (fun c a w h => h) (by rintro ⟨_, _, h⟩; exact h) l rfl h3 o1 _ a w.drew (Xq _ _) (fun j hj => by simpa using List.all_eq_true.1 h4 j hj) h5 hst.prefix_ hr
  rw [h2] at this
  exact Jz hm (XG _ _ _ _ this)
end
open Go.RowKit
section
variable {P : Program} {B : Nat} {w0 w : World} {H : List HP}
theorem WE {f : Nat} {xs : Array Value} {Φ : Value → Prop} (hw : St B w0 H w) (h : Calls P f xs w (Post w.heap.size w fun u _ => Φ u)) : Calls P f xs w (Post B w0 fun u K => Φ u ∧ K = H) :=
  h.mono fun _ _ ⟨u, _, e1, hst, hΦ⟩ => ⟨u, H, e1, hw.grow hst.below, hΦ, rfl⟩
theorem OR {f : Nat} {xs : Array Value} {u : Value} (hw : St B w0 H w) (h : Calls P f xs w fun e w' => e = .returned u ∧ Below w.heap.size w w') : Calls P f xs w (Post B w0 fun v K => v = u ∧ K = H) :=
  h.mono fun _ _ ⟨e1, hb⟩ => ⟨u, H, e1, hw.grow hb, rfl, rfl⟩
theorem Rd.here {A : Option Addr} {xs : List Value} (hr : Rd B w0 H A xs) (hw : St B w0 H w) : Rd w.heap.size w [] A xs := Rd.old fun j v hv => by
  obtain ⟨g, o, e1, hc⟩ := hr w hw j v hv
  refine ⟨g, o, e1, ?_, hc⟩
  rcases Nat.lt_or_ge g w.heap.size with h | h
  · exact h
  · simp [World.cell?, Array.getElem?_eq_none h] at hc
theorem Perm.openT (H : List HP) : Perm [many H] H := by
  have := Perm.open_ H []
  rwa [List.append_nil] at this
theorem Perm.closeT (H : List HP) : Perm H [many H] := by
  have := Perm.close H []
  rwa [List.append_nil] at this
theorem Rd.tail {A : Option Addr} {xs : List Value} (h : Rd B w0 H A xs) : Rd B w0 [many H] A xs := h.mono fun _ hw => hw.perm (.openT _)
end
end Go.Eng
namespace Go.Proofs.YtmalhidldgfeoaaGreatDoor
def Jb : List Int → List Int → Bool
  | [], b => !b.isEmpty
  | _ :: _, [] => false
  | a :: l, b :: m => if a ≠ b then decide (a < b) else Jb l m
theorem YcD {a b : List Int} {i : Nat} {x y : Int} (hx : a[i]? = some x) (hy : b[i]? = some y) : Jb (a.drop i) (b.drop i) = if x ≠ y then decide (x < y) else Jb (a.drop (i + 1)) (b.drop (i + 1)) := by
  obtain ⟨h1, rfl⟩ := List.getElem?_eq_some_iff.1 hx
  obtain ⟨h2, rfl⟩ := List.getElem?_eq_some_iff.1 hy
  rw [List.drop_eq_getElem_cons h1, List.drop_eq_getElem_cons h2]
  rfl
open Go.RowKit Go.Eng Go.Nw
def cmpV (a b : List Int) : Int := if Jb a b = true then -1 else if Jb b a = true then 1 else 0
theorem Q6 (a b : List Int) (hla : a.length ≤ 1000000000000) (hlb : b.length ≤ 1000000000000) {A1 A2 : Option Addr} {c1 c2 B : Nat} {w0 : World} {H : List HP} {w : World} (hr1 : Rd B w0 H A1 (a.flatMap numF)) (hr2 : Rd B w0 H A2 (b.flatMap numF)) (hw : St B w0 H w) :
    Calls Tryz.prog 178 [.slice A1 a.length c1, .slice A2 b.length c2].toArray w (Post B w0 fun v K => v = .int .i64 (cmpV a b) ∧ K = H) := by
  refine Yd Tryz.func178 Tryz.ntmps178 rfl rfl hw ?_
  repeat' (first | apply (zs1 ?_) | apply (zs2 ?_) | (apply zg4; refine zs9 ?_) | apply (zs65 ?_) | apply (zs68 ?_) | apply (zs69 ?_) | apply (zs70 ?_) | apply (zs73 ?_) | fail)
  refine Yk (fun (i : Nat) => [(11, .int .i64 i), (10, .int .i64 a.length), (9, .slice A1 a.length c1), (0, .slice A1 a.length c1), (1, .slice A2 b.length c2)]) (fun _ => H) (fun i => i ≤ a.length ∧ i ≤ b.length ∧ Jb a b = Jb (a.drop i) (b.drop i) ∧ Jb b a = Jb (b.drop i) (a.drop i)) (fun i => a.length - i) 0 ⟨Nat.zero_le _, Nat.zero_le _, rfl, rfl⟩ ?_ (fun w hw => hw) ?_
  · exact zu
  rintro i ⟨hi, hib, e1, e2⟩ K hK
  by_cases hlt : i < a.length
  · obtain ⟨x, hx⟩ : ∃ x, a[i]? = some x := ⟨_, List.getElem?_eq_getElem hlt⟩
    by_cases hltb : i < b.length
    · obtain ⟨y, hy⟩ : ∃ y, b[i]? = some y := ⟨_, List.getElem?_eq_getElem hltb⟩
      have d1 := YcD hx hy
      have d2 := YcD hy hx
      have hcm := fun {w : World} (hw : St B w0 H w) => WG x y hw
      by_cases hxy : x = y
      · rw [if_neg (fun h => h hxy)] at d1
        rw [if_neg (fun h => h hxy.symm)] at d2
        rw [show cmpI x y = 0 by unfold cmpI; rw [if_neg (by omega), if_neg (by omega)]] at hcm
        repeat' (first | ((first | apply Ya en99 | apply Yb en99); exact za; exact rfl; exact fun _ hw => (hcm hw)) | apply (zs1 ?_) | apply (zs2 ?_) | (apply zg3; refine zs60 ?_) | (apply zg4; refine zs9 ?_) | (apply zg5; refine zs57 ?_) | (apply zg8; (refine zs16 ?_ ?_ <;> intro _ <;> try (exfalso; omega))) | (apply (zs17 ?_ ?_) <;> intro _ <;> try (exfalso; omega)) | (apply (zs20 ?_ ?_) <;> intro _ <;> try (exfalso; omega)) | (apply zg13; refine zs30 ?_) | apply (zs65 ?_) | apply (zs68 ?_) | apply (zs69 ?_) | apply (zs70 ?_) | (apply zg27; first | refine zs71 ?_ | refine zs72 ?_) | apply (zs73 ?_) | apply (zs76 ?_) | apply (zs79 ?_) | fail)
        apply hK (i + 1)
        · exact ⟨by omega, by omega, e1.trans d1, e2.trans d2⟩
        · omega
        · exact zu
        · exact fun w hw => hw
      · rw [if_pos hxy] at d1
        rw [if_pos (Ne.symm hxy)] at d2
        clear hK
        rcases Int.lt_or_gt_of_ne hxy with h | h
        · rw [show cmpI x y = -1 by unfold cmpI; rw [if_pos h]] at hcm
          have hv : cmpV a b = -1 := by unfold cmpV; rw [e1, d1, if_pos (decide_eq_true h)]
          rw [hv]
          repeat' (first | ((first | apply Ya en99 | apply Yb en99); exact za; exact rfl; exact fun _ hw => (hcm hw)) | apply (zs1 ?_) | apply (zs2 ?_) | (apply zg3; refine zs60 ?_) | (apply zg4; refine zs9 ?_) | (apply zg5; refine zs57 ?_) | (apply zg8; (refine zs16 ?_ ?_ <;> intro _ <;> try (exfalso; omega))) | (apply (zs17 ?_ ?_) <;> intro _ <;> try (exfalso; omega)) | (apply (zs20 ?_ ?_) <;> intro _ <;> try (exfalso; omega)) | apply (zs65 ?_) | apply (zs68 ?_) | apply (zs69 ?_) | apply (zs70 ?_) | (apply zg27; first | refine zs71 ?_ | refine zs72 ?_) | apply (zs73 ?_) | apply (zs74 ?_) | apply (zs76 ?_) | apply (zs77 ?_) | apply (zs78 ?_) | fail)
          apply Yc; exact rfl; exact rfl; exact ⟨rfl, rfl⟩
        · rw [show cmpI x y = 1 by unfold cmpI; rw [if_neg (by omega), if_pos h]] at hcm
          have hv : cmpV a b = 1 := by unfold cmpV; rw [e1, d1, decide_eq_false (by omega), if_neg (by decide), e2, d2, if_pos (decide_eq_true h)]
          rw [hv]
          repeat' (first | ((first | apply Ya en99 | apply Yb en99); exact za; exact rfl; exact fun _ hw => (hcm hw)) | apply (zs1 ?_) | apply (zs2 ?_) | (apply zg3; refine zs60 ?_) | (apply zg4; refine zs9 ?_) | (apply zg5; refine zs57 ?_) | (apply zg8; (refine zs16 ?_ ?_ <;> intro _ <;> try (exfalso; omega))) | (apply (zs17 ?_ ?_) <;> intro _ <;> try (exfalso; omega)) | (apply (zs20 ?_ ?_) <;> intro _ <;> try (exfalso; omega)) | apply (zs65 ?_) | apply (zs68 ?_) | apply (zs69 ?_) | apply (zs70 ?_) | (apply zg27; first | refine zs71 ?_ | refine zs72 ?_) | apply (zs73 ?_) | apply (zs74 ?_) | apply (zs76 ?_) | apply (zs77 ?_) | apply (zs78 ?_) | fail)
          apply Yc; exact rfl; exact rfl; exact ⟨rfl, rfl⟩
    · obtain rfl : i = b.length := by omega
      clear hK
      have hv : cmpV a b = 1 := by
        unfold cmpV
        rw [e1, e2, List.drop_length, List.drop_eq_getElem_cons hlt]
        rfl
      rw [hv]
      repeat' (first | apply (zs1 ?_) | apply (zs2 ?_) | (apply zg3; refine zs60 ?_) | (apply zg4; refine zs9 ?_) | (apply zg5; refine zs57 ?_) | (apply (zs17 ?_ ?_) <;> intro _ <;> try (exfalso; omega)) | (apply (zs20 ?_ ?_) <;> intro _ <;> try (exfalso; omega)) | apply (zs65 ?_) | apply (zs68 ?_) | apply (zs69 ?_) | apply (zs70 ?_) | (apply zg27; refine zs71 ?_) | apply (zs73 ?_) | apply (zs74 ?_) | apply (zs76 ?_) | apply (zs77 ?_) | apply (zs78 ?_) | fail)
      apply Yc; exact rfl; exact rfl; exact ⟨rfl, rfl⟩
  · obtain rfl : i = a.length := by omega
    clear hK
    rw [List.drop_length] at e1 e2
    by_cases hl : a.length < b.length
    · have hv : cmpV a b = -1 := by
        unfold cmpV
        rw [e1, List.drop_eq_getElem_cons hl]
        rfl
      rw [hv]
      repeat' (first | apply (zs1 ?_) | apply (zs2 ?_) | (apply zg4; refine zs9 ?_) | (apply (zs17 ?_ ?_) <;> intro _ <;> try (exfalso; omega)) | apply (zs65 ?_) | apply (zs68 ?_) | apply (zs69 ?_) | apply (zs70 ?_) | (apply zg27; first | refine zs71 ?_ | refine zs72 ?_) | apply (zs74 ?_) | apply (zs75 ?_) | apply (zs77 ?_) | apply (zs80 ?_) | apply (zs81 ?_) | fail)
      apply Yc; exact rfl; exact rfl; exact ⟨rfl, rfl⟩
    · have hv : cmpV a b = 0 := by
        unfold cmpV
        rw [e1, e2, List.drop_eq_nil_of_le (by omega)]
        rfl
      rw [hv]
      repeat' (first | apply (zs1 ?_) | apply (zs2 ?_) | (apply zg4; refine zs9 ?_) | (apply (zs17 ?_ ?_) <;> intro _ <;> try (exfalso; omega)) | apply (zs65 ?_) | apply (zs68 ?_) | apply (zs69 ?_) | apply (zs70 ?_) | (apply zg27; refine zs72 ?_) | apply (zs74 ?_) | apply (zs75 ?_) | apply (zs76 ?_) | apply (zs80 ?_) | apply (zs81 ?_) | fail)
      apply Yc; exact rfl; exact rfl; exact ⟨rfl, rfl⟩
open Go.Nw
abbrev Cel := Int × Int × Int × Int × Int
def nums (c : Cel) : List Int := [c.1, c.2.1, c.2.2.1, c.2.2.2.1, c.2.2.2.2]
def ZG (a b : Cel) : Bool := Jb (nums a) (nums b)
theorem YaM : ∀ {a b c : List Int}, Jb a b = true → Jb b c = true → Jb a c = true
  | _, _, [], _, h => by cases ‹List Int› <;> cases h
  | [], _, _ :: _, _, _ => rfl
  | _ :: _, [], _ :: _, h, _ => by cases h
  | x :: a, y :: b, z :: c, h1, h2 => by
    unfold Jb at h1 h2 ⊢
    by_cases e1 : x = y
    · subst e1
      rw [if_neg (fun h => h rfl)] at h1
      by_cases e2 : x = z
      · subst e2
        rw [if_neg (fun h => h rfl)] at h2 ⊢
        exact YaM h1 h2
      · rw [if_pos e2] at h2 ⊢; exact h2
    · rw [if_pos e1] at h1
      have h3 := of_decide_eq_true h1
      by_cases e2 : y = z
      · subst e2
        rw [if_pos e1]; exact h1
      · rw [if_pos e2] at h2
        have h4 := of_decide_eq_true h2
        rw [if_pos (by omega)]
        exact decide_eq_true (by omega)
theorem Yap {a b c : Cel} (h1 : ZG a b = true) (h2 : ZG b c = true) : ZG a c = true := YaM h1 h2
def insE (x n : Int) : Bool := decide (0 ≤ x ∧ x < n)
structure Sch where
  len : Int
  off : Int
  cells : List Cel
def X8 (s : Sch) (c : Cel) : Bool := insE c.1 s.len && insE c.2.1 s.off
def Jt (s : Sch) (c : Cel) : Bool := X8 s c && insE c.2.2.1 32 && insE c.2.2.2.1 32 && insE c.2.2.2.2 256
def Jg (s : Sch) : Bool := decide (1 ≤ s.len ∧ s.len ≤ 512 ∧ 1 ≤ s.off ∧ s.off ≤ 16)
def Ym (s : Sch) (i : Nat) : Cel := s.cells.getD i (0, 0, 0, 0, 0)
def Z4 (s : Sch) (i : Nat) : Bool := Jt s (Ym s i) && (decide (i = 0) || ZG (Ym s (i - 1)) (Ym s i))
def XY (s : Sch) : Bool := Jg s && decide (s.cells.length ≤ 512) && (List.range s.cells.length).all (Z4 s)
theorem ON {p : Nat → Bool} {k : Nat} : (List.range (k + 1)).all p = ((List.range k).all p && p k) := by
  rw [List.range_succ, List.all_append]; simp
theorem Ybk {p : Nat → Bool} {i k : Nat} (hi : i < k) (h : p i = false) : (List.range k).all p = false := by
  rw [List.all_eq_false]
  exact ⟨i, List.mem_range.2 hi, by rw [h]; decide⟩
theorem Ybj {p : Nat → Bool} {i k : Nat} (h : (List.range k).all p = true) (hi : i < k) : p i = true := List.all_eq_true.1 h i (List.mem_range.2 hi)
theorem Zj {s : Sch} {i : Nat} {c : Cel} (h : s.cells[i]? = some c) : Ym s i = c := by
  unfold Ym; rw [List.getD_eq_getElem?_getD, h]; rfl
theorem YD {s : Sch} {i : Nat} (h : i < s.cells.length) : s.cells[i]? = some (Ym s i) := by
  unfold Ym; rw [List.getD_eq_getElem?_getD, List.getElem?_eq_getElem h]; rfl
theorem Wa {s : Sch} {i : Nat} (h : i < s.cells.length) : Ym s i ∈ s.cells := List.mem_of_getElem? (YD h)
structure Frm (s : Sch) : Prop where
  sized : Jg s = true
  few : s.cells.length ≤ 512
  formed : ∀ c ∈ s.cells, Jt s c = true
  ord : s.cells.Pairwise fun a b => ZG a b = true
theorem UV {α : Type} {lt : α → α → Bool} (htr : ∀ {a b c}, lt a b = true → lt b c = true → lt a c = true) {l : List α} (h : ∀ i, ∀ a b, l[i]? = some a → l[i + 1]? = some b → lt a b = true) : l.Pairwise fun a b => lt a b = true := by
  induction l with
  | nil => exact .nil
  | cons x l ih =>
    have h1 := ih fun i a b ha hb => h (i + 1) a b (by simpa using ha) (by simpa using hb)
    refine .cons (fun y hy => ?_) h1
    cases l with
    | nil => cases hy
    | cons z l =>
      have hz := h 0 x z rfl rfl
      rcases List.mem_cons.1 hy with rfl | hy
      · exact hz
      · exact htr hz ((List.pairwise_cons.1 h1).1 y hy)
theorem Qg {s : Sch} : XY s = true ↔ Frm s := by
  unfold XY
  simp only [Bool.and_eq_true, decide_eq_true_eq]
  constructor
  · rintro ⟨⟨h1, h2⟩, h3⟩
    have hc : ∀ i, i < s.cells.length → Z4 s i = true := fun i hi => Ybj h3 hi
    refine ⟨h1, h2, fun c hc2 => ?_, ?_⟩
    · obtain ⟨i, hi⟩ := List.mem_iff_getElem?.1 hc2
      have := hc i (List.getElem?_eq_some_iff.1 hi).1
      unfold Z4 at this
      rw [Zj hi] at this
      simp only [Bool.and_eq_true] at this
      exact this.1
    · refine UV (lt := ZG) (fun h1 h2 => Yap h1 h2) fun i a b ha hb => ?_
      have := hc (i + 1) (List.getElem?_eq_some_iff.1 hb).1
      unfold Z4 at this
      rw [Zj hb, Nat.add_sub_cancel, Zj ha] at this
      simp only [Bool.and_eq_true, Bool.or_eq_true, decide_eq_true_eq] at this
      rcases this.2 with h | h
      · omega
      · exact h
  · intro h
    refine ⟨⟨h.sized, h.few⟩, List.all_eq_true.2 fun i hi => ?_⟩
    have hi := List.mem_range.1 hi
    unfold Z4
    rw [h.formed _ (Wa hi), Bool.true_and, Bool.or_eq_true, decide_eq_true_eq]
    rcases Nat.eq_zero_or_pos i with h0 | h0
    · exact .inl h0
    · right
      obtain ⟨h1, h2⟩ := List.getElem?_eq_some_iff.1 (YD (s := s) (i := i - 1) (by omega))
      obtain ⟨h3, h4⟩ := List.getElem?_eq_some_iff.1 (YD (s := s) hi)
      have := List.pairwise_iff_getElem.1 h.ord (i - 1) i h1 h3 (by omega)
      rw [h2, h4] at this
      exact this
abbrev Flw := Int × Int × Int × Int × Int × Int
def XW (nodes : Int) (f : Flw) : Int :=
  if f.1 < 0 ∨ 255 < f.1 ∨ insE f.2.1 nodes = false ∨ insE f.2.2.1 nodes = false then 2
  else if f.2.2.2.1 < 1 ∨ 512 < f.2.2.2.1 ∨ f.2.2.2.2.1 < 0 ∨ f.2.2.2.1 ≤ f.2.2.2.2.1 ∨ f.2.2.2.2.2 < 1 ∨ f.2.2.2.1 < f.2.2.2.2.2 then 2
  else if f.2.1 = f.2.2.1 then 1 else 0
def ZJ (l : List Flw) (i : Nat) : Flw := l.getD i (0, 0, 0, 0, 0, 0)
def Yx (f : Nat → Int) : Nat → Nat → Int × Int
  | 0, _ => (-1, 0)
  | r + 1, i => if f i = 0 then Yx f r (i + 1) else ((i : Int), f i)
theorem XM {f : Nat → Int} : ∀ {r i : Nat}, (Yx f r i).2 = 0 ↔ ∀ k, i ≤ k → k < i + r → f k = 0
  | 0, i => by simp [Yx]; intro k h1 h2; omega
  | r + 1, i => by
    unfold Yx
    split
    · rename_i h
      rw [XM]
      constructor
      · intro h1 k hk1 hk2
        rcases Nat.eq_or_lt_of_le hk1 with rfl | h2
        · exact h
        · exact h1 k (by omega) (by omega)
      · intro h1 k hk1 hk2
        exact h1 k (by omega) (by omega)
    · rename_i h
      constructor
      · intro h1; exact absurd h1 h
      · intro h1; exact absurd (h1 i (Nat.le_refl _) (by omega)) h
theorem Qc {f : Nat → Int} : ∀ {r i : Nat}, (Yx f r i).2 = 0 → (Yx f r i).1 = -1
  | 0, i, _ => rfl
  | r + 1, i, h => by
    unfold Yx at h ⊢
    split at h
    · rw [if_pos ‹_›]; exact Qc h
    · exact absurd h ‹_›
def YS (nodes : Int) (l : List Flw) (i : Nat) : Int := if XW nodes (ZJ l i) ≠ 0 then XW nodes (ZJ l i) else if 0 < i ∧ (ZJ l i).1 ≤ (ZJ l (i - 1)).1 then 5 else 0
def YV (nodes : Int) (l : List Flw) : Int × Int :=
  if nodes < 2 ∨ 32 < nodes then (-1, 2) else if 16 < l.length then (-1, 8) else Yx (YS nodes l) l.length 0
def JJ (l : List Flw) (id : Int) : Int := Yt (fun f => decide (f.1 = id)) l 0
open Go.RowKit Go.Eng Go.Nw
theorem Yf5 (xs : List Int) {A : Option Addr} {cap : Nat} (n : NetM) (g : Nat) {B : Nat} {w0 : World} {H : List HP} {w : World} (hw : St B w0 (blk g (.cells #[.int .i64 n.nodes, .slice n.pA n.rows.length n.pcap, .int .i64 n.noise, .int .i64 n.thr, .slice n.lA n.links.length n.lcap, .slice n.mA n.margin.length n.mcap] 26 (0, 0)) :: H) w) :
    Calls Tryz.prog 161 [.slice A xs.length cap, .pointer (some ⟨g, 0, none⟩)].toArray w (Post B w0 fun v K => v = .bool (wide n.nodes xs) ∧ K = blk g (.cells #[.int .i64 n.nodes, .slice n.pA n.rows.length n.pcap, .int .i64 n.noise, .int .i64 n.thr, .slice n.lA n.links.length n.lcap, .slice n.mA n.margin.length n.mcap] 26 (0, 0)) :: H) := by
  refine Yd Tryz.func161 Tryz.ntmps161 rfl rfl hw ?_
  unfold wide
  repeat' (first | apply (zs1 ?_) | apply (zs2 ?_) | (apply zg2; refine zs6 ?_) | (apply zg3; refine zs7 ?_) | (apply zg4; refine zs9 ?_) | (apply zg8; (refine zs16 ?_ ?_ <;> intro _ <;> try (exfalso; omega))) | apply (zs65 ?_) | apply (zs68 ?_) | apply (zs69 ?_) | apply (zs70 ?_) | apply (zs74 ?_) | fail)
  · rename_i h
    apply Yc; exact rfl; exact rfl
    exact ⟨by rw [decide_eq_true h], rfl⟩
  · rename_i h
    apply Yc; exact rfl; exact rfl
    exact ⟨by rw [decide_eq_false (by omega)], rfl⟩
theorem Yf6 (p : Int) {B : Nat} {w0 : World} {H : List HP} {w : World} (hw : St B w0 H w) : Calls Tryz.prog 162 [.int .i64 p].toArray w (Post B w0 fun v K => v = .bool (X7 p) ∧ K = H) := by
  refine Yd Tryz.func162 Tryz.ntmps162 rfl rfl hw ?_
  unfold X7
  repeat' (first | apply (zs1 ?_) | apply (zs2 ?_) | (apply zg1; first | refine zs3 ?_ | refine zs4 ?_) | (apply zg6; first | refine zs11 ?_ | refine zs12 ?_) | (apply (zs17 ?_ ?_) <;> intro _ <;> try (exfalso; omega)) | (apply (zs19 ?_ ?_) <;> intro _ <;> try (exfalso; omega)) | apply (zs65 ?_) | apply (zs68 ?_) | apply (zs69 ?_) | apply (zs70 ?_) | apply (zs74 ?_) | fail)
  · apply Yc; exact rfl; exact rfl
    exact ⟨by rw [decide_eq_true (by omega)], rfl⟩
  · apply Yc; exact rfl; exact rfl
    exact ⟨by rw [decide_eq_true (by omega)], rfl⟩
  · apply Yc; exact rfl; exact rfl
    exact ⟨by rw [decide_eq_false (by omega)], rfl⟩
theorem Yf7 (xs : List Int) (hl : xs.length ≤ 9223372036854775807) {A : Option Addr} {cap : Nat} (g : Nat) {B : Nat} {w0 : World} {H : List HP} {w : World} (hr : Rd B w0 H A (xs.flatMap numF)) (hw : St B w0 (blk g (.cells #[.func (.func 162) #[] #[]] 195 (0, 0)) :: H) w) :
    Calls Tryz.prog 163 [.slice A xs.length cap, .pointer (some ⟨g, 0, none⟩)].toArray w (Post B w0 fun v K => v = .bool (xs.any X7) ∧ K = blk g (.cells #[.func (.func 162) #[] #[]] 195 (0, 0)) :: H) := by
  refine Yd Tryz.func163 Tryz.ntmps163 rfl rfl hw ?_
  repeat' (first | ((first | apply Ya Yd9 | apply Yb Yd9); exact za; exact rfl; exact fun _ hw => (JG (fun z : Int => .int .i64 z) X7 xs 162 [] YiJ hl hr.cons (fun a _ _ hw => Yf6 a hw) hw)) | apply (zs1 ?_) | apply (zs2 ?_) | (apply zg3; refine zs7 ?_) | apply (zs65 ?_) | apply (zs68 ?_) | apply (zs69 ?_) | apply (zs70 ?_) | apply (zs74 ?_) | fail)
  apply Yc; exact rfl; exact rfl
  exact ⟨rfl, rfl⟩
theorem Yca (n : NetM) (p : List Int → Bool) : (n.rows.any fun r => p r.xs) = n.net.power.any p := by simp [NetM.net, List.any_map, Function.comp_def]
theorem Of (n : NetM) {B : Nat} {w0 : World} {H : List HP} {w : World} (hin : n.In B w0 H) (hw : St B w0 H w) :
    Calls Tryz.prog 108 [n.val].toArray w (Post B w0 fun v K => v = .int .i64 (J8 n.net) ∧ K = H) := by
  refine Yd Tryz.func108 Tryz.ntmps108 rfl rfl hw ?_
  obtain ⟨hpw, hrw, hlk, hmg, hs1, hs2, hs3, hs4⟩ := hin
  have e1 : n.net.power.length = n.rows.length := by simp [NetM.net]
  have e2 : n.net.nodes = n.nodes := rfl
  unfold J8
  rw [e1, e2, ← Yca, ← Yca n (fun r => r.any X7)]
  repeat' (first | apply (zs1 ?_) | apply (zs2 ?_) | (apply zg1; first | refine zs3 ?_ | refine zs4 ?_) | (apply zg2; refine zs6 ?_) | (apply zg3; refine zs7 ?_) | (apply zg4; refine zs9 ?_) | (apply zg6; refine zs11 ?_) | (apply zg8; (refine zs16 ?_ ?_ <;> intro _ <;> try (exfalso; omega))) | (apply zg23; (refine zs52 ?_; intro _)) | apply (zs65 ?_) | apply (zs68 ?_) | apply (zs69 ?_) | apply (zs70 ?_) | (apply zg27; refine zs71 ?_) | apply (zs74 ?_) | apply (zs77 ?_) | (apply zg29; (apply Yr; exact za ; exact rfl)) | fail)
  · ((repeat apply Yq); apply Yc; exact rfl; exact rfl; refine ⟨congrArg _ ?_, rfl⟩)
    (repeat (first | refine Y3 (by omega) ?_ | refine Y4 (by omega) ?_))
    rfl
  rename_i g _
  repeat' (first | ((first | apply Ya Ygc | apply Yb Ygc); exact za; exact rfl; exact fun _ hw => (JH (fun r : RowM => .slice r.A r.xs.length r.cap) (fun r => wide n.nodes r.xs) n.rows 161 [.pointer (some ⟨g, 0, none⟩)] YiI hs1 hpw.cons (fun a _ _ hw => Yf5 a.xs n g hw) hw)) | (apply zg6; refine zs12 ?_) | apply (zs65 ?_) | apply (zs68 ?_) | fail)
  cases hc : (n.rows.any fun r => wide n.nodes r.xs)
  rotate_left
  · repeat' (first | apply (zs2 ?_) | apply (zs65 ?_) | apply (zs68 ?_) | apply (zs69 ?_) | apply (zs70 ?_) | (apply zg27; refine zs71 ?_) | apply (zs74 ?_) | apply (zs77 ?_) | fail)
    ((repeat apply Yq); apply Yc; exact rfl; exact rfl; refine ⟨congrArg _ ?_, rfl⟩)
    rw [if_neg (by omega)]; rfl
  repeat' (first | (apply zg2; refine zs6 ?_) | (apply zg3; refine zs7 ?_) | (apply zg22; refine zs50 ?_) | (apply zg24; (refine zs54 ?_; intro _)) | apply (zs65 ?_) | apply (zs68 ?_) | apply (zs69 ?_) | apply (zs70 ?_) | (apply zg27; refine zs72 ?_) | apply (zs76 ?_) | (apply zg29; (apply Yr; exact za ; exact rfl)) | fail)
  rename_i g2
  apply Ya Ygc
  exact za
  exact rfl
  exact fun _ hw => JH (fun r : RowM => .slice r.A r.xs.length r.cap) (fun r => r.xs.any X7) n.rows 163 [.pointer (some ⟨g2, 0, none⟩)] YiK hs1 hpw.cons.cons (fun a ha _ hw => Yf7 a.xs (hs2 a ha) g2 (hrw a ha).cons hw) hw
  cases hd : (n.rows.any fun r => r.xs.any X7)
  · repeat' (first | apply (zs2 ?_) | apply (zs65 ?_) | apply (zs68 ?_) | apply (zs69 ?_) | apply (zs70 ?_) | (apply zg27; refine zs72 ?_) | apply (zs74 ?_) | apply (zs76 ?_) | fail)
    ((repeat apply Yq); apply Yc; exact rfl; exact rfl; refine ⟨congrArg _ ?_, rfl⟩)
    rw [if_neg (by omega)]; rfl
  · repeat' (first | apply (zs2 ?_) | apply (zs65 ?_) | apply (zs68 ?_) | apply (zs69 ?_) | apply (zs70 ?_) | (apply zg27; refine zs71 ?_) | apply (zs74 ?_) | apply (zs77 ?_) | fail)
    ((repeat apply Yq); apply Yc; exact rfl; exact rfl; refine ⟨congrArg _ ?_, rfl⟩)
    rw [if_neg (by omega)]; rfl
end Go.Proofs.YtmalhidldgfeoaaGreatDoor
namespace Go.Nw
theorem Ycl {x y : Int} : cmpI x y < 0 ↔ x < y := by unfold cmpI; split <;> (try split) <;> omega
theorem Wf {x y : Int} : cmpI x y = 0 ↔ x = y := by unfold cmpI; split <;> (try split) <;> omega
theorem Z5 {a b : Lk} : cmpL a b < 0 ↔ a.1 < b.1 ∨ (a.1 = b.1 ∧ a.2.1 < b.2.1) := by
  have h1 := @Ycl a.1 b.1
  have h2 := @Wf a.1 b.1
  have h3 := @Ycl a.2.1 b.2.1
  unfold cmpL; split <;> omega
theorem JF {a b : Lk} : cmpL a b = 0 ↔ a.1 = b.1 ∧ a.2.1 = b.2.1 := by
  have h2 := @Wf a.1 b.1
  have h3 := @Wf a.2.1 b.2.1
  unfold cmpL; split <;> omega
structure OkL (n : Net) (i : Nat) : Prop where
  f0 : 0 ≤ (lnk n i).1
  f1 : (lnk n i).1 < n.nodes
  t0 : 0 ≤ (lnk n i).2.1
  t1 : (lnk n i).2.1 < n.nodes
  ne : (lnk n i).1 ≠ (lnk n i).2.1
  l0 : 0 ≤ (lnk n i).2.2
  l1 : (lnk n i).2.2 ≤ 7
  ord : 0 < i → cmpL (lnk n (i - 1)) (lnk n i) < 0
  m0 : 0 ≤ mar n i
  m1 : mar n i ≤ powr n (lnk n i).1 (lnk n i).2.1
theorem Yhm {n : Net} {i : Nat} (h : Uf n i = 0) : OkL n i := by
  unfold Uf at h
  by_cases h1 : ¬ (0 ≤ (lnk n i).1 ∧ (lnk n i).1 < n.nodes) ∨ ¬ (0 ≤ (lnk n i).2.1 ∧ (lnk n i).2.1 < n.nodes) ∨ (lnk n i).1 = (lnk n i).2.1 ∨ (lnk n i).2.2 < 0 ∨ 7 < (lnk n i).2.2
  · rw [if_pos h1] at h; omega
  rw [if_neg h1] at h
  by_cases h2 : 0 < i ∧ 0 ≤ cmpL (lnk n (i - 1)) (lnk n i)
  · rw [if_pos h2] at h; omega
  rw [if_neg h2] at h
  by_cases h3 : mar n i < 0 ∨ powr n (lnk n i).1 (lnk n i).2.1 < mar n i
  · rw [if_pos h3] at h; omega
  constructor <;> omega
structure Ok (n : Net) : Prop where
  n0 : 2 ≤ n.nodes
  n1 : n.nodes ≤ 32
  p0 : (n.power.length : Int) = n.nodes
  p1 : ∀ r ∈ n.power, (r.length : Int) = n.nodes
  p2 : ∀ r ∈ n.power, ∀ p ∈ r, 0 ≤ p ∧ p ≤ 68719476736
  z0 : 0 ≤ n.noise
  z1 : n.noise ≤ 68719476736
  t0 : 1000 ≤ n.thr
  t1 : n.thr ≤ 100000
  k0 : n.links.length ≤ 128
  k1 : n.margin.length = n.links.length
  lk : ∀ i, i < n.links.length → OkL n i
theorem YcH {n : Net} : ∀ (r i : Nat), Jc n r i = 0 → ∀ j, i ≤ j → j < i + r → OkL n j
  | 0, _, _, j, h1, h2 => by omega
  | r + 1, i, h, j, h1, h2 => by
    unfold Jc at h
    by_cases h0 : Uf n i = 0
    · rw [if_pos h0] at h
      by_cases e : i = j
      · subst e; exact Yhm h0
      · exact YcH r (i + 1) h j (by omega) (by omega)
    · rw [if_neg h0] at h; exact absurd h h0
theorem Xa {n : Net} (h : YA n = 0) : Ok n := by
  unfold YA at h
  by_cases h1 : n.nodes < 2 ∨ 32 < n.nodes
  · rw [if_pos h1] at h; omega
  rw [if_neg h1] at h
  by_cases h2 : J8 n ≠ 0
  · rw [if_pos h2] at h; exact absurd h h2
  rw [if_neg h2] at h
  by_cases h3 : n.noise < 0 ∨ 68719476736 < n.noise ∨ n.thr < 1000 ∨ 100000 < n.thr
  · rw [if_pos h3] at h; omega
  rw [if_neg h3] at h
  by_cases h4 : 128 < n.links.length
  · rw [if_pos h4] at h; omega
  rw [if_neg h4] at h
  by_cases h5 : n.margin.length ≠ n.links.length
  · rw [if_pos h5] at h; omega
  rw [if_neg h5] at h
  obtain ⟨t1, t2, t3⟩ := Yc3 (Classical.not_not.1 h2)
  exact ⟨by omega, by omega, t1, t2, t3, by omega, by omega, by omega, by omega, by omega, Classical.not_not.1 h5, fun i hi => YcH _ _ h i (Nat.zero_le _) (by omega)⟩
theorem QL {n : Net} (h : Ok n) : ∀ (i j : Nat), i < j → j < n.links.length → cmpL (lnk n i) (lnk n j) < 0 := by
  intro i j
  induction j with
  | zero => intro h1; omega
  | succ j ih =>
    intro h1 h2
    have h3 := (h.lk (j + 1) h2).ord (by omega)
    rw [Nat.add_sub_cancel] at h3
    by_cases e : i = j
    · subst e; exact h3
    · have h4 := ih (by omega) (by omega)
      rw [Z5] at *
      omega
def WV (a b : Int) (l : Lk) : Bool := decide (l.1 = a) && decide (l.2.1 = b)
def YF (n : Net) (a b : Int) : Int := Yt (WV a b) n.links 0
theorem UN {α : Type} {p : α → Bool} : ∀ {l : List α} {k : Int}, (∀ a ∈ l, p a = false) → Yt p l k = -1
  | [], _, _ => rfl
  | a :: l, k, h => by
    rw [Yt, h a List.mem_cons_self, if_neg (by simp)]
    exact UN fun b hb => h b (List.mem_cons_of_mem _ hb)
theorem Qk {α : Type} {p : α → Bool} : ∀ {l : List α} {k : Int} {i : Nat} {a : α}, l[i]? = some a → p a = true → (∀ j b, j < i → l[j]? = some b → p b = false) → Yt p l k = k + i
  | [], _, _, _, h, _, _ => by simp at h
  | b :: l, k, 0, a, h, hp, _ => by
    obtain rfl : b = a := by simpa using h
    rw [Yt, if_pos hp]; simp
  | b :: l, k, i + 1, a, h, hp, hn => by
    have hb := hn 0 b (by omega) (by simp)
    rw [Yt, if_neg (by rw [hb]; simp), Qk (i := i) (a := a) (by simpa using h) hp fun j c hj hc => hn (j + 1) c (by omega) (by simpa using hc)]
    omega
theorem Um {α : Type} {p : α → Bool} : ∀ {l : List α} {k : Int}, 0 ≤ k → Yt p l k = -1 ∨ (k ≤ Yt p l k ∧ Yt p l k < k + l.length)
  | [], _, _ => .inl rfl
  | a :: l, k, h => by
    unfold Yt
    by_cases hp : p a = true
    · rw [if_pos hp]; simp only [List.length_cons]; omega
    · rw [if_neg hp]
      rcases @Um _ p l (k + 1) (by omega) with h1 | h1
      · exact .inl h1
      · simp only [List.length_cons]; omega
theorem UO {α : Type} {p : α → Bool} : ∀ {l : List α} {k : Int} {i : Nat}, 0 ≤ k → Yt p l k = k + i → ∃ a, l[i]? = some a ∧ p a = true
  | [], k, i, h0, h => by simp [Yt] at h; omega
  | a :: l, k, i, h0, h => by
    unfold Yt at h
    by_cases hp : p a = true
    · rw [if_pos hp] at h
      obtain rfl : i = 0 := by omega
      exact ⟨a, by simp, hp⟩
    · rw [if_neg hp] at h
      cases i with
      | zero =>
        rcases @Um _ p l (k + 1) (by omega) with h1 | h1 <;> omega
      | succ i =>
        obtain ⟨b, h1, h2⟩ := UO (p := p) (i := i) (l := l) (k := k + 1) (by omega) (by omega)
        exact ⟨b, by simpa using h1, h2⟩
theorem Jv {n : Net} {i : Nat} {l : Lk} (h : n.links[i]? = some l) : lnk n i = l := by simp [lnk, List.getD, h]
theorem Ybv {n : Net} {i : Nat} {z : Int} (h : n.margin[i]? = some z) : mar n i = z := by simp [mar, List.getD, h]
theorem YcI (n : Net) {i : Nat} (h : i < n.links.length) : n.links[i]? = some (lnk n i) := by simp [lnk, List.getD, h]
theorem Ycs {n : Net} (h : Ok n) {a b c : Int} {k : Nat} (hk : k ≤ n.links.length) (h1 : ∀ j, j < k → cmpL (lnk n j) (a, b, c) < 0) (h2 : ∀ j, k ≤ j → j < n.links.length → 0 ≤ cmpL (lnk n j) (a, b, c)) :
    YF n a b = if k < n.links.length ∧ cmpL (lnk n k) (a, b, c) = 0 then (k : Int) else -1 := by
  unfold YF
  have hlow : ∀ j l, j < k → n.links[j]? = some l → WV a b l = false := fun j l hj hl => by
    have := h1 j hj
    rw [Jv hl, Z5] at this
    simp only [WV, Bool.and_eq_false_iff, decide_eq_false_iff_not]
    simp only at this
    omega
  by_cases hc : k < n.links.length ∧ cmpL (lnk n k) (a, b, c) = 0
  · rw [if_pos hc, Qk (YcI n hc.1) (by have := JF.1 hc.2; simp only at this; simp [WV, this]) hlow]
    omega
  · rw [if_neg hc]
    refine UN fun l hl => ?_
    obtain ⟨j, hj, rfl⟩ := List.mem_iff_getElem.1 hl
    by_cases hjk : j < k
    · exact hlow j _ hjk (List.getElem?_eq_getElem hj)
    · have e : lnk n j = n.links[j] := Jv (List.getElem?_eq_getElem hj)
      have h3 : cmpL (lnk n j) (a, b, c) ≠ 0 := by
        by_cases ejk : j = k
        · subst ejk; exact fun e => hc ⟨hj, e⟩
        · intro e0
          have h4 := QL h k j (by omega) hj
          have h5 := h2 k (Nat.le_refl _) (by omega)
          rw [JF] at e0
          rw [Z5] at h4
          have h6 : ¬ cmpL (lnk n k) (a, b, c) < 0 := by omega
          rw [Z5] at h6
          simp only at *
          omega
      rw [e, Ne, JF] at h3
      simp only at h3
      simp only [WV, Bool.and_eq_false_iff, decide_eq_false_iff_not]
      omega
def ZD (n : Net) (s d : Int) : Bool := decide (n.thr * (n.noise + d) ≤ s * 1000)
def U6 (n : Net) (i : Nat) : Bool := decide (0 ≤ YF n (lnk n i).2.1 (lnk n i).1) && (ZD n (mar n i) 0 && ZD n (mar n (YF n (lnk n i).2.1 (lnk n i).1).toNat) 0)
theorem Yhk {n : Net} (h : Ok n) {d : Int} (h0 : 0 ≤ d) (h1 : d ≤ 8796093022208) : -9223372036854775808 ≤ n.thr * (n.noise + d) ∧ n.thr * (n.noise + d) ≤ 9223372036854775807 := by
  have h2 := h.t0; have h3 := h.t1; have h4 := h.z0; have h5 := h.z1
  have h6 : 0 ≤ n.thr * (n.noise + d) := Int.mul_nonneg (by omega) (by omega)
  have h7 : n.thr * (n.noise + d) ≤ 100000 * (n.noise + d) := Int.mul_le_mul_of_nonneg_right h3 (by omega)
  omega
theorem Ygn {n : Net} (h : Ok n) {i : Nat} (hi : i < n.links.length) : 0 ≤ mar n i ∧ mar n i ≤ 68719476736 := by
  have hl := h.lk i hi
  refine ⟨hl.m0, Int.le_trans hl.m1 ?_⟩
  unfold powr
  have e1 : (lnk n i).1.toNat < n.power.length := by have := h.p0; have := hl.f1; have := hl.f0; omega
  rw [show n.power.getD (lnk n i).1.toNat [] = n.power[(lnk n i).1.toNat] by simp [List.getD, e1]]
  have hm := List.getElem_mem e1
  have e2 : (lnk n i).2.1.toNat < (n.power[(lnk n i).1.toNat]).length := by have := h.p1 _ hm; have := hl.t1; have := hl.t0; omega
  rw [show (n.power[(lnk n i).1.toNat]).getD (lnk n i).2.1.toNat 0 = (n.power[(lnk n i).1.toNat])[(lnk n i).2.1.toNat] by simp [List.getD, e2]]
  exact (h.p2 _ hm _ (List.getElem_mem e2)).2
theorem Js {n : Net} {a b : Int} (h : 0 ≤ YF n a b) : (YF n a b).toNat < n.links.length := by
  rcases @Um _ (WV a b) n.links 0 (by omega) with h1 | h1 <;> unfold YF at h ⊢ <;> omega
theorem UJ {n : Net} {a b : Int} (h : 0 ≤ YF n a b) : (lnk n (YF n a b).toNat).1 = a ∧ (lnk n (YF n a b).toNat).2.1 = b := by
  obtain ⟨l, h1, h2⟩ := @UO _ (WV a b) n.links 0 (YF n a b).toNat (by omega) (by unfold YF at *; omega)
  rw [Jv h1]
  simpa [WV] using h2
end Go.Nw
namespace Go.Proofs.YtmalhidldgfeoaaGreatDoor
open Go.RowKit Go.Eng Go.Nw
abbrev netB (g : Nat) (n : NetM) : HP := blk g (.cells #[.int .i64 n.nodes, .slice n.pA n.rows.length n.pcap, .int .i64 n.noise, .int .i64 n.thr, .slice n.lA n.links.length n.lcap, .slice n.mA n.margin.length n.mcap] 26 (0, 0))
def ZO : List Int → Int
  | [] => 0
  | a :: l => if a ≠ 0 then a else ZO l
theorem Ybt (l : List Int) {k : Nat} {a : Int} (h : l[k]? = some a) : ZO (l.drop k) = if a ≠ 0 then a else ZO (l.drop (k + 1)) := by
  obtain ⟨hk, rfl⟩ := List.getElem?_eq_some_iff.1 h
  rw [List.drop_eq_getElem_cons hk, ZO]
theorem Yhp (l : List Int) (hlen : l.length ≤ 1000) {A : Option Addr} {cap B : Nat} {w0 : World} {H : List HP} {w : World} (hr : Rd B w0 H A (l.flatMap numF)) (hw : St B w0 H w) :
    Calls Tryz.prog 98 [.slice A l.length cap].toArray w (Post B w0 fun v K => v = .int .i64 (ZO l) ∧ K = H) := by
  refine Yd Tryz.func98 Tryz.ntmps98 rfl rfl hw ?_
  repeat' (first | apply (zs1 ?_) | apply (zs2 ?_) | (apply zg4; refine zs9 ?_) | apply (zs65 ?_) | apply (zs68 ?_) | apply (zs69 ?_) | apply (zs70 ?_) | apply (zs73 ?_) | fail)
  refine Yk (fun (k : Nat) => [(8, .int .i64 k), (7, .int .i64 l.length), (6, .slice A l.length cap), (3, .int .i64 0)]) (fun _ => H) (fun k => k ≤ l.length ∧ ZO l = ZO (l.drop k)) (fun k => l.length - k) 0 ⟨Nat.zero_le _, by simp⟩ ?_ (fun w hw => hw) ?_
  · exact zu
  rintro k ⟨hk, hi⟩ K hK
  by_cases hlt : k < l.length
  · obtain ⟨a, ha⟩ : ∃ a, l[k]? = some a := ⟨_, List.getElem?_eq_getElem hlt⟩
    rw [Ybt l ha] at hi
    repeat' (first | apply (zs1 ?_) | apply (zs2 ?_) | (apply zg3; refine zs60 ?_) | (apply zg5; refine zs57 ?_) | (apply zg8; (refine zs16 ?_ ?_ <;> intro _ <;> try (exfalso; omega))) | (apply (zs17 ?_ ?_) <;> intro _ <;> try (exfalso; omega)) | (apply zg13; refine zs30 ?_) | apply (zs65 ?_) | apply (zs68 ?_) | apply (zs69 ?_) | apply (zs70 ?_) | (apply zg27; first | refine zs71 ?_ | refine zs72 ?_) | apply (zs73 ?_) | apply (zs74 ?_) | apply (zs76 ?_) | apply (zs77 ?_) | apply (zs78 ?_) | apply (zs79 ?_) | fail)
    · rename_i h
      rw [if_pos h] at hi
      ((repeat apply Yq); apply Yc; exact rfl; exact rfl; refine ⟨congrArg _ ?_, rfl⟩)
      rw [hi]
    · rename_i h
      rw [if_neg (by omega)] at hi
      repeat' (first | fail)
      apply hK (k + 1)
      · exact ⟨by omega, hi⟩
      · omega
      · exact zu
      · exact fun w hw => hw
  · repeat' (first | apply (zs1 ?_) | apply (zs2 ?_) | (apply (zs17 ?_ ?_) <;> intro _ <;> try (exfalso; omega)) | apply (zs65 ?_) | apply (zs68 ?_) | apply (zs69 ?_) | apply (zs70 ?_) | (apply zg27; refine zs72 ?_) | apply (zs74 ?_) | apply (zs75 ?_) | apply (zs80 ?_) | apply (zs81 ?_) | fail)
    ((repeat apply Yq); apply Yc; exact rfl; exact rfl; refine ⟨congrArg _ ?_, rfl⟩)
    rw [hi, List.drop_eq_nil_of_le (by omega)]; rfl
theorem Yij (x y : Int) : ZO [x, y] = if x = 0 then y else x := by
  simp only [ZO]
  by_cases h : x = 0
  · by_cases h2 : y = 0 <;> simp [h, h2]
  · simp [h]
theorem ZN (a b : Lk) {B : Nat} {w0 : World} {H : List HP} {w : World} (hw : St B w0 H w) : Calls Tryz.prog 166 [lkV a, lkV b].toArray w (Post B w0 fun v K => v = .int .i64 (cmpL a b) ∧ K = H) := by
  refine Yd Tryz.func166 Tryz.ntmps166 rfl rfl hw ?_
  repeat' (first | apply (zs2 ?_) | (apply zg23; (refine zs52 ?_; intro _)) | apply (zs65 ?_) | apply (zs68 ?_) | apply (zs69 ?_) | apply (zs70 ?_) | fail)
  apply ZL [0, 1, 2, 3, 5, 6, 7, 8, 4, 9, 10, 11, 12] [] [true, true]
  kernel_rfl
  kernel_rfl
  exact zy
  (simp only [Yj, nthO]; rfl)
  exact rfl
  repeat' (first | ((first | apply Ya en99 | apply Yb en99); exact za; exact rfl; exact fun _ hw => (WG _ _ hw)) | (apply zg2; refine zs6 ?_) | (apply zg3; refine zs7 ?_) | (apply zg26; (refine zs56 ?_; intro _)) | apply (zs65 ?_) | apply (zs87 ?_) | (apply Yl; (repeat (first | with_reducible exact Yh | (with_reducible apply Yg; (repeat (first | with_reducible exact Yf | with_reducible apply Ye)))))) | fail)
  rename_i g
  first | apply Ya en98 | apply Yb en98
  exact za
  exact rfl
  exact fun _ hw => (Yhp [cmpI a.1 b.1, cmpI a.2.1 b.2.1] (by simp) (Rd.blk (g := g) (cs := #[.int .i64 (cmpI a.1 b.1), .int .i64 (cmpI a.2.1 b.2.1)]) zm) hw)
  repeat' (first | apply (zs2 ?_) | apply (zs65 ?_) | (apply Yn; exact zp) | apply (zs68 ?_) | apply (zs74 ?_) | (apply Yl; (repeat (first | with_reducible exact Yh | (with_reducible apply Yg; (repeat (first | with_reducible exact Yf | with_reducible apply Ye)))))) | apply (zs93 ?_) | apply (zs94 ?_) | fail)
  ((repeat apply Yq); apply Yc; exact rfl; exact rfl; refine ⟨congrArg _ ?_, rfl⟩)
  rw [Yij]; rfl
theorem UE (n : NetM) (g : Nat) (a : Int) {B : Nat} {w0 : World} {H : List HP} {w : World} (hm : netB g n ∈ H) (hw : St B w0 H w) :
    Calls Tryz.prog 165 [.int .i64 a, .pointer (some ⟨g, 0, none⟩)].toArray w (Post B w0 fun v K => v = .bool (decide (0 ≤ a ∧ a < n.nodes)) ∧ K = H) := by
  refine Yd Tryz.func165 Tryz.ntmps165 rfl rfl hw ?_
  repeat' (first | apply (zs1 ?_) | apply (zs2 ?_) | (apply zg1; first | refine zs3 ?_ | refine zs4 ?_) | (apply zg2; refine zs6 ?_) | (apply zg3; refine zs7 ?_) | (apply zg6; first | refine zs11 ?_ | refine zs12 ?_) | (apply (zs17 ?_ ?_) <;> intro _ <;> try (exfalso; omega)) | (apply (zs20 ?_ ?_) <;> intro _ <;> try (exfalso; omega)) | apply (zs65 ?_) | apply (zs68 ?_) | apply (zs69 ?_) | apply (zs70 ?_) | apply (zs74 ?_) | fail)
  · apply Yc; exact rfl; exact rfl
    exact ⟨by rw [decide_eq_true (by omega)], rfl⟩
  · apply Yc; exact rfl; exact rfl
    exact ⟨by rw [decide_eq_false (by omega)], rfl⟩
  · apply Yc; exact rfl; exact rfl
    exact ⟨by rw [decide_eq_false (by omega)], rfl⟩
open Go.RowKit Go.Eng Go.Nw
theorem YcS {n : Net} {a b : Int} {r : List Int} {p : Int} (h1 : n.power[a.toNat]? = some r) (h2 : r[b.toNat]? = some p) : powr n a b = p := by simp [powr, List.getD, h1, h2]
theorem OY (n : NetM) (i : Nat) {B : Nat} {w0 : World} {H : List HP} {w : World} (hin : n.In B w0 H) (hi : i < n.links.length) (hml : n.margin.length = n.links.length) (ht : J8 n.net = 0) (hw : St B w0 H w) :
    Calls Tryz.prog 109 [n.val, .int .i64 i].toArray w (Post B w0 fun v K => v = .int .i64 (Uf n.net i) ∧ K = H) := by
  refine Yd Tryz.func109 Tryz.ntmps109 rfl rfl hw ?_
  obtain ⟨hpw, hrw, hlk, hmg, hs1, hs2, hs3, hs4⟩ := hin
  obtain ⟨t1, t2, t3⟩ := Yc3 ht
  obtain ⟨l, hl⟩ : ∃ l, n.links[i]? = some l := ⟨_, List.getElem?_eq_getElem hi⟩
  obtain ⟨z, hz⟩ : ∃ z, n.margin[i]? = some z := ⟨_, List.getElem?_eq_getElem (by omega)⟩
  have e1 : lnk n.net i = l := Jv hl
  have e2 : mar n.net i = z := Ybv hz
  have e3 : n.net.nodes = n.nodes := rfl
  have e4 : n.net.power.length = n.rows.length := by simp [NetM.net]
  rw [e4, e3] at t1
  unfold Uf
  rw [e1, e2, e3]
  by_cases h1 : 0 ≤ l.1 ∧ l.1 < n.nodes
  rotate_left
  · skip
    repeat' (first | ((first | apply Z0 (cs := [_]) | apply ZZ (cs := [_])); exact rfl; exact Yea; exact za; exact rfl; exact fun _ hw => (UE n _ _ zm hw); all_goals (intro hB; (try simp only [decide_eq_true_eq, decide_eq_false_iff_not] at hB); try (exfalso; omega))) | apply (zs1 ?_) | apply (zs2 ?_) | (apply zg1; refine zs3 ?_) | (apply zg2; refine zs6 ?_) | (apply zg3; first | refine zs7 ?_ | refine zs61 ?_) | (apply zg5; refine zs57 ?_) | (apply zg6; refine zs11 ?_) | (apply zg20; refine zs48 ?_) | (apply zg22; refine zs51 ?_) | (apply zg23; (refine zs52 ?_; intro _)) | (apply zg24; (refine zs54 ?_; intro _)) | apply (zs65 ?_) | apply (zs68 ?_) | apply (zs69 ?_) | apply (zs70 ?_) | (apply zg27; refine zs71 ?_) | apply (zs73 ?_) | apply (zs74 ?_) | apply (zs77 ?_) | apply (zs78 ?_) | (apply zg29; (apply Yr; exact za ; exact rfl)) | fail)
    all_goals (((repeat apply Yq); apply Yc; exact rfl; exact rfl; refine ⟨congrArg _ ?_, rfl⟩); (repeat (first | refine Y3 (by omega) ?_ | refine Y4 (by omega) ?_)); rfl)
  by_cases h2 : 0 ≤ l.2.1 ∧ l.2.1 < n.nodes
  rotate_left
  · skip
    repeat' (first | ((first | apply Z0 (cs := [_]) | apply ZZ (cs := [_])); exact rfl; exact Yea; exact za; exact rfl; exact fun _ hw => (UE n _ _ zm hw); all_goals (intro hB; (try simp only [decide_eq_true_eq, decide_eq_false_iff_not] at hB); try (exfalso; omega))) | apply (zs1 ?_) | apply (zs2 ?_) | (apply zg1; first | refine zs3 ?_ | refine zs4 ?_) | (apply zg2; refine zs6 ?_) | (apply zg3; first | refine zs7 ?_ | refine zs61 ?_) | (apply zg5; refine zs57 ?_) | (apply zg6; first | refine zs11 ?_ | refine zs12 ?_) | (apply zg20; first | refine zs47 ?_ | refine zs48 ?_) | (apply zg22; refine zs51 ?_) | (apply zg23; (refine zs52 ?_; intro _)) | (apply zg24; (refine zs54 ?_; intro _)) | apply (zs65 ?_) | apply (zs68 ?_) | apply (zs69 ?_) | apply (zs70 ?_) | (apply zg27; refine zs71 ?_) | apply (zs73 ?_) | apply (zs74 ?_) | apply (zs77 ?_) | apply (zs78 ?_) | (apply zg29; (apply Yr; exact za ; exact rfl)) | fail)
    all_goals (((repeat apply Yq); apply Yc; exact rfl; exact rfl; refine ⟨congrArg _ ?_, rfl⟩); (repeat (first | refine Y3 (by omega) ?_ | refine Y4 (by omega) ?_)); rfl)
  obtain ⟨r, hr⟩ : ∃ r, n.rows[l.1.toNat]? = some r := ⟨_, List.getElem?_eq_getElem (by omega)⟩
  have hrm : r ∈ n.rows := List.mem_of_getElem? hr
  have hrr := hrw r hrm
  have hrs := hs2 r hrm
  have hrl : (r.xs.length : Int) = n.nodes := t2 r.xs (List.mem_map.2 ⟨r, hrm, rfl⟩)
  obtain ⟨p, hp⟩ : ∃ p, r.xs[l.2.1.toNat]? = some p := ⟨_, List.getElem?_eq_getElem (by omega)⟩
  rw [YcS (n := n.net) (r := r.xs) (by simp [NetM.net, hr]) hp]
  by_cases h0 : 0 < i
  · obtain ⟨q, hq⟩ : ∃ q, n.links[((i : Int) - 1).toNat]? = some q := ⟨_, List.getElem?_eq_getElem (by omega)⟩
    rw [show lnk n.net (i - 1) = q from Jv (by rw [show i - 1 = ((i : Int) - 1).toNat by omega]; exact hq)]
    repeat' (first | ((first | apply Z0 (cs := [_]) | apply ZZ (cs := [_])); exact rfl; exact Yea; exact za; exact rfl; exact fun _ hw => (UE n _ _ zm hw); all_goals (intro hB; (try simp only [decide_eq_true_eq, decide_eq_false_iff_not] at hB); try (exfalso; omega))) | ((first | apply Ya Yav | apply Yb Yav); exact za; exact rfl; exact fun _ hw => (ZN q l hw)) | apply (zs1 ?_) | apply (zs2 ?_) | (apply zg1; first | refine zs3 ?_ | refine zs4 ?_) | (apply zg2; refine zs6 ?_) | (apply zg3; first | refine zs7 ?_ | refine zs8 ?_ | refine zs60 ?_ | refine zs61 ?_) | (apply zg5; refine zs57 ?_) | (apply zg6; first | refine zs11 ?_ | refine zs12 ?_) | (apply zg7; (refine zs15 ?_ ?_ <;> intro _ <;> try (exfalso; omega))) | (apply (zs17 ?_ ?_) <;> intro _ <;> try (exfalso; omega)) | (apply (zs19 ?_ ?_) <;> intro _ <;> try (exfalso; omega)) | (apply (zs20 ?_ ?_) <;> intro _ <;> try (exfalso; omega)) | (apply zg14; refine zs31 ?_) | (apply zg20; refine zs47 ?_) | (apply zg22; refine zs51 ?_) | (apply zg23; (refine zs52 ?_; intro _)) | (apply zg24; (refine zs54 ?_; intro _)) | apply (zs65 ?_) | apply (zs66 ?_) | apply (zs68 ?_) | apply (zs69 ?_) | apply (zs70 ?_) | (apply zg27; first | refine zs71 ?_ | refine zs72 ?_) | apply (zs73 ?_) | apply (zs74 ?_) | apply (zs76 ?_) | apply (zs77 ?_) | apply (zs78 ?_) | apply (zs79 ?_) | (apply zg28; first | refine zs83 ?_ | refine zs84 ?_) | (apply zg29; (apply Yr; exact za ; exact rfl)) | fail)
    all_goals (((repeat apply Yq); apply Yc; exact rfl; exact rfl; refine ⟨congrArg _ ?_, rfl⟩); (repeat (first | refine Y3 (by omega) ?_ | refine Y4 (by omega) ?_)); rfl)
  · skip
    repeat' (first | ((first | apply Z0 (cs := [_]) | apply ZZ (cs := [_])); exact rfl; exact Yea; exact za; exact rfl; exact fun _ hw => (UE n _ _ zm hw); all_goals (intro hB; (try simp only [decide_eq_true_eq, decide_eq_false_iff_not] at hB); try (exfalso; omega))) | ((first | apply Ya Yav | apply Yb Yav); exact za; exact rfl; exact fun _ hw => (ZN _ _ hw)) | apply (zs1 ?_) | apply (zs2 ?_) | (apply zg1; first | refine zs3 ?_ | refine zs4 ?_) | (apply zg2; refine zs6 ?_) | (apply zg3; first | refine zs7 ?_ | refine zs60 ?_ | refine zs61 ?_) | (apply zg5; refine zs57 ?_) | (apply zg6; first | refine zs11 ?_ | refine zs12 ?_) | (apply zg7; (refine zs15 ?_ ?_ <;> intro _ <;> try (exfalso; omega))) | (apply (zs17 ?_ ?_) <;> intro _ <;> try (exfalso; omega)) | (apply (zs19 ?_ ?_) <;> intro _ <;> try (exfalso; omega)) | (apply zg20; refine zs47 ?_) | (apply zg22; refine zs51 ?_) | (apply zg23; (refine zs52 ?_; intro _)) | (apply zg24; (refine zs54 ?_; intro _)) | apply (zs65 ?_) | apply (zs66 ?_) | apply (zs68 ?_) | apply (zs69 ?_) | apply (zs70 ?_) | (apply zg27; first | refine zs71 ?_ | refine zs72 ?_) | apply (zs73 ?_) | apply (zs74 ?_) | apply (zs76 ?_) | apply (zs77 ?_) | apply (zs78 ?_) | apply (zs79 ?_) | (apply zg28; first | refine zs83 ?_ | refine zs84 ?_) | (apply zg29; (apply Yr; exact za ; exact rfl)) | fail)
    all_goals (((repeat apply Yq); apply Yc; exact rfl; exact rfl; refine ⟨congrArg _ ?_, rfl⟩); (repeat (first | refine Y3 (by omega) ?_ | refine Y4 (by omega) ?_)); rfl)
theorem YK (n : NetM) {B : Nat} {w0 : World} {H : List HP} {w : World} (hin : n.In B w0 H) (hw : St B w0 H w) :
    Calls Tryz.prog 50 [n.val].toArray w (Post B w0 fun v K => v = .int .i64 (YA n.net) ∧ K = H) := by
  refine Yd Tryz.func50 Tryz.ntmps50 rfl rfl hw ?_
  have e3 : n.net.nodes = n.nodes := rfl
  have e5 : n.net.noise = n.noise := rfl
  have e6 : n.net.thr = n.thr := rfl
  have e7 : n.net.links = n.links := rfl
  have e8 : n.net.margin = n.margin := rfl
  have hs1 := hin.s1
  have hs3 := hin.s3
  have hs4 := hin.s4
  unfold YA
  rw [e3, e5, e6, e7, e8]
  (apply JT; apply ZR; apply Zi; exact rfl; exact rfl; intro g)
  repeat' (first | ((first | apply Ya YhE | apply Yb YhE); exact za; exact rfl; exact fun _ hw => (Of n hin.cons hw)) | apply (zs1 ?_) | apply (zs2 ?_) | (apply zg1; first | refine zs3 ?_ | refine zs4 ?_) | (apply zg2; refine zs6 ?_) | (apply zg3; first | refine zs7 ?_ | refine zs8 ?_) | (apply zg4; refine zs9 ?_) | (apply zg6; first | refine zs11 ?_ | refine zs12 ?_) | (apply zg8; (refine zs16 ?_ ?_ <;> intro _ <;> try (exfalso; omega))) | (apply (zs17 ?_ ?_) <;> intro _ <;> try (exfalso; omega)) | (apply (zs19 ?_ ?_) <;> intro _ <;> try (exfalso; omega)) | apply (zs65 ?_) | apply (zs68 ?_) | apply (zs69 ?_) | apply (zs70 ?_) | (apply zg27; first | refine zs71 ?_ | refine zs72 ?_) | apply (zs73 ?_) | apply (zs74 ?_) | apply (zs76 ?_) | apply (zs77 ?_) | apply (zs78 ?_) | apply (zs79 ?_) | fail)
  any_goals (((repeat apply Yq); apply Yc; exact rfl; exact rfl; refine ⟨congrArg _ ?_, rfl⟩); (repeat (first | refine Y3 (by omega) ?_ | refine Y4 (by omega) ?_)); rfl)
  have ht : J8 n.net = 0 := by assumption
  refine Yk (fun (k : Nat) => [(54, .int .i64 k), (53, .int .i64 n.links.length), (1, .pointer (some ⟨g, 0, none⟩))]) (fun _ => netB g n :: H) (fun k => k ≤ n.links.length ∧ Jc n.net n.links.length 0 = Jc n.net (n.links.length - k) k) (fun k => n.links.length - k) 0 ⟨Nat.zero_le _, rfl⟩ ?_ (fun w hw => hw) ?_
  · exact zu
  rintro k ⟨hk, hi⟩ K hK
  by_cases hlt : k < n.links.length
  · skip
    repeat' (first | ((first | apply Ya YhF | apply Yb YhF); exact za; exact rfl; exact fun _ hw => (OY n k hin.cons hlt (by omega) ht hw)) | apply (zs1 ?_) | apply (zs2 ?_) | (apply zg3; refine zs8 ?_) | (apply zg8; (refine zs16 ?_ ?_ <;> intro _ <;> try (exfalso; omega))) | (apply (zs17 ?_ ?_) <;> intro _ <;> try (exfalso; omega)) | (apply zg13; refine zs30 ?_) | apply (zs65 ?_) | apply (zs68 ?_) | apply (zs69 ?_) | apply (zs70 ?_) | (apply zg27; first | refine zs71 ?_ | refine zs72 ?_) | apply (zs73 ?_) | apply (zs74 ?_) | apply (zs76 ?_) | apply (zs77 ?_) | apply (zs78 ?_) | apply (zs79 ?_) | fail)
    · ((repeat apply Yq); apply Yc; exact rfl; exact rfl; refine ⟨congrArg _ ?_, rfl⟩)
      (repeat (first | refine Y3 (by omega) ?_ | refine Y4 (by omega) ?_))
      rw [hi]; exact (YcG n.net hlt (by assumption)).symm
    · apply hK (k + 1)
      · exact ⟨by omega, by rw [hi]; exact YcF n.net hlt (by assumption)⟩
      · omega
      · exact zu
      · exact fun w hw => hw
  · repeat' (first | apply (zs2 ?_) | (apply (zs17 ?_ ?_) <;> intro _ <;> try (exfalso; omega)) | apply (zs65 ?_) | apply (zs68 ?_) | apply (zs69 ?_) | apply (zs70 ?_) | (apply zg27; refine zs72 ?_) | apply (zs74 ?_) | apply (zs75 ?_) | apply (zs80 ?_) | apply (zs81 ?_) | fail)
    ((repeat apply Yq); apply Yc; exact rfl; exact rfl; refine ⟨congrArg _ ?_, rfl⟩)
    (repeat (first | refine Y3 (by omega) ?_ | refine Y4 (by omega) ?_))
    rw [hi, show n.links.length - k = 0 by omega]; rfl
open Go.RowKit Go.Eng Go.Nw
theorem Yc0 (n : NetM) (t : Lk) {B : Nat} {w0 : World} {H : List HP} {w : World} (hin : n.In B w0 H) (hok : Ok n.net) (hw : St B w0 H w) :
    Calls Tryz.prog 214 [.slice n.lA n.links.length n.lcap, lkV t, .func (.func 166) #[] #[]].toArray w (Post B w0 fun v K => ∃ k : Nat,
      v = .tuple #[.int .i64 k, .bool (decide (k < n.links.length ∧ cmpL (lnk n.net k) t = 0))] ∧ k ≤ n.links.length ∧ (∀ j, j < k → cmpL (lnk n.net j) t < 0) ∧ (∀ j, k ≤ j → j < n.links.length → 0 ≤ cmpL (lnk n.net j) t) ∧ K = H) := by
  refine Yd Tryz.func214 Tryz.ntmps214 rfl rfl hw ?_
  obtain ⟨hpw, hrw, hlk, hmg, hs1, hs2, hs3, hs4⟩ := hin
  have hl8 : n.links.length ≤ 128 := hok.k0
  (apply JT; apply ZR; apply Zi; exact rfl; exact rfl; intro g)
  repeat' (first | apply (zs1 ?_) | apply (zs2 ?_) | (apply zg4; refine zs9 ?_) | apply (zs65 ?_) | apply (zs68 ?_) | apply (zs69 ?_) | apply (zs70 ?_) | apply (zs73 ?_) | fail)
  refine YfD (fun (lo hi : Nat) => [(9, .int .i64 lo), (10, .int .i64 hi), (8, .int .i64 n.links.length), (0, .slice n.lA n.links.length n.lcap), (2, .func (.func 166) #[] #[]), (4, .pointer (some ⟨g, 0, none⟩))]) (fun _ _ => blk g (.cells #[.int .i64 t.1, .int .i64 t.2.1, .int .i64 t.2.2] 172 (0, 0)) :: H)
    (fun lo hi => lo ≤ hi ∧ hi ≤ n.links.length ∧ (∀ j, j < lo → cmpL (lnk n.net j) t < 0) ∧ (∀ j, hi ≤ j → j < n.links.length → 0 ≤ cmpL (lnk n.net j) t)) (fun lo hi => hi - lo) 0 n.links.length ⟨by omega, by omega, fun j hj => by omega, fun j h1 h2 => by omega⟩ ?_ (fun w hw => hw) ?_
  · exact zu
  rintro lo hi ⟨h1, h2, h3, h4⟩ K hK
  by_cases hlt : lo < hi
  · obtain ⟨b, hb⟩ : ∃ b, n.links[(((lo : Int) + hi) / 2).toNat]? = some b := ⟨_, List.getElem?_eq_getElem (by omega)⟩
    have hm : (((lo : Int) + hi) / 2).toNat = (lo + hi) / 2 := by omega
    have eb : lnk n.net ((lo + hi) / 2) = b := by rw [← hm]; exact Jv hb
    repeat' (first | ((first | apply YG (cs := []) | apply Y9 (cs := [])); exact rfl; exact Yav; exact za; exact rfl; exact fun _ hw => (ZN b t hw)) | apply (zs1 ?_) | apply (zs2 ?_) | (apply zg3; first | refine zs8 ?_ | refine zs61 ?_) | (apply zg5; refine zs57 ?_) | (apply (zs17 ?_ ?_) <;> intro _ <;> try (exfalso; omega)) | (apply zg13; refine zs30 ?_) | (apply zg18; refine zs38 ?_) | (apply zg19; first | refine zs44 ?_ | refine zs45 ?_) | apply (zs65 ?_) | apply (zs66 ?_) | apply (zs68 ?_) | apply (zs69 ?_) | apply (zs70 ?_) | (apply zg27; first | refine zs71 ?_ | refine zs72 ?_) | apply (zs73 ?_) | apply (zs76 ?_) | apply (zs79 ?_) | (apply zg28; refine zs84 ?_) | fail)
    · rename_i hc
      apply hK ((lo + hi) / 2 + 1) hi
      · refine ⟨by omega, by omega, fun j hj => ?_, h4⟩
        by_cases e : j = (lo + hi) / 2
        · rw [e, eb]; exact hc
        · have h5 := QL hok j ((lo + hi) / 2) (by omega) (by show _ < n.links.length; omega)
          rw [eb] at h5
          rw [Z5] at *
          omega
      · omega
      · exact zu
      · exact fun w hw => hw
    · rename_i hc
      apply hK lo ((lo + hi) / 2)
      · refine ⟨by omega, by omega, h3, fun j hj hjl => ?_⟩
        by_cases e : j = (lo + hi) / 2
        · rw [e, eb]; exact hc
        · have h5 := QL hok ((lo + hi) / 2) j (by omega) hjl
          rw [eb] at h5
          have h6 : ¬ cmpL b t < 0 := by omega
          have h7 : ¬ cmpL (lnk n.net j) t < 0 := by
            rw [Z5] at *
            omega
          omega
      · omega
      · exact zu
      · exact fun w hw => hw
  · obtain rfl : lo = hi := by omega
    by_cases hl : lo < n.links.length
    · obtain ⟨b, hb⟩ : ∃ b, n.links[lo]? = some b := ⟨_, List.getElem?_eq_getElem hl⟩
      have eb : lnk n.net lo = b := Jv hb
      repeat' (first | ((first | apply YG (cs := []) | apply Y9 (cs := [])); exact rfl; exact Yav; exact za; exact rfl; exact fun _ hw => (ZN b t hw)) | apply (zs1 ?_) | apply (zs2 ?_) | (apply zg1; refine zs4 ?_) | (apply zg3; first | refine zs8 ?_ | refine zs61 ?_) | (apply zg5; refine zs57 ?_) | (apply zg6; refine zs11 ?_) | (apply zg7; (refine zs15 ?_ ?_ <;> intro _ <;> try (exfalso; omega))) | (apply (zs17 ?_ ?_) <;> intro _ <;> try (exfalso; omega)) | apply (zs65 ?_) | apply (zs66 ?_) | apply (zs68 ?_) | apply (zs69 ?_) | apply (zs70 ?_) | (apply zg27; refine zs72 ?_) | apply (zs74 ?_) | apply (zs75 ?_) | apply (zs80 ?_) | apply (zs81 ?_) | (apply zg28; refine zs84 ?_) | fail)
      all_goals (apply Yq; apply Yp; exact rfl; exact rfl; exact rfl; refine ⟨lo, ?_, h2, h3, h4, rfl⟩; rw [eb])
      · rw [decide_eq_true ⟨hl, by assumption⟩]
      · rw [decide_eq_false fun hc => absurd hc.2 (by assumption)]
    · repeat' (first | apply (zs1 ?_) | apply (zs2 ?_) | (apply zg1; refine zs3 ?_) | (apply zg6; refine zs12 ?_) | (apply (zs17 ?_ ?_) <;> intro _ <;> try (exfalso; omega)) | apply (zs65 ?_) | apply (zs66 ?_) | apply (zs68 ?_) | apply (zs69 ?_) | apply (zs70 ?_) | (apply zg27; refine zs72 ?_) | apply (zs74 ?_) | apply (zs75 ?_) | apply (zs80 ?_) | apply (zs81 ?_) | (apply zg28; refine zs84 ?_) | fail)
      apply Yq; apply Yp; exact rfl; exact rfl; exact rfl
      refine ⟨lo, ?_, h2, h3, h4, rfl⟩
      rw [decide_eq_false fun hc => hl hc.1]
theorem Wi (n : NetM) (a b : Int) {B : Nat} {w0 : World} {H : List HP} {w : World} (hin : n.In B w0 H) (hok : Ok n.net) (hw : St B w0 H w) :
    Calls Tryz.prog 155 [n.val, .int .i64 a, .int .i64 b].toArray w (Post B w0 fun v K => v = .int .i64 (YF n.net a b) ∧ K = H) := by
  refine Yd Tryz.func155 Tryz.ntmps155 rfl rfl hw ?_
  (apply JT; apply ZR; apply Zi; exact rfl; exact rfl; intro g)
  repeat' (first | apply (zs1 ?_) | apply (zs2 ?_) | (apply zg2; refine zs6 ?_) | (apply zg3; refine zs7 ?_) | (apply zg25; refine zs55 ?_) | apply (zs65 ?_) | apply (zs68 ?_) | apply (zs69 ?_) | apply (zs70 ?_) | fail)
  apply Yo _ YiS
  exact za
  exact rfl
  exact fun _ hw => (Yc0 n (a, b, 0) hin.cons hok (hw))
  rintro _ _ ⟨k, rfl, hk, h1, h2, rfl⟩
  have hf := Ycs hok hk h1 h2
  rw [hf]
  by_cases hc : k < n.links.length ∧ cmpL (lnk n.net k) (a, b, 0) = 0
  · rw [decide_eq_true hc]
    repeat' (first | apply (zs1 ?_) | apply (zs2 ?_) | apply (zs13 ?_) | (apply zg20; refine zs47 ?_) | apply (zs65 ?_) | apply (zs68 ?_) | apply (zs69 ?_) | apply (zs70 ?_) | (apply zg27; refine zs72 ?_) | apply (zs74 ?_) | apply (zs76 ?_) | fail)
    ((repeat apply Yq); apply Yc; exact rfl; exact rfl; refine ⟨congrArg _ ?_, rfl⟩)
    exact (if_pos hc).symm
  · rw [decide_eq_false hc]
    repeat' (first | apply (zs1 ?_) | apply (zs2 ?_) | apply (zs13 ?_) | (apply zg20; refine zs48 ?_) | apply (zs65 ?_) | apply (zs68 ?_) | apply (zs69 ?_) | apply (zs70 ?_) | (apply zg27; refine zs71 ?_) | apply (zs74 ?_) | apply (zs77 ?_) | fail)
    ((repeat apply Yq); apply Yc; exact rfl; exact rfl; refine ⟨congrArg _ ?_, rfl⟩)
    exact (if_neg hc).symm
def ZE (n : Net) (a b : Int) : Int := if YA n ≠ 0 then -1 else YF n a b
theorem Zk (n : NetM) (a b : Int) {B : Nat} {w0 : World} {H : List HP} {w : World} (hin : n.In B w0 H) (hw : St B w0 H w) :
    Calls Tryz.prog 95 [n.val, .int .i64 a, .int .i64 b].toArray w (Post B w0 fun v K => v = .int .i64 (ZE n.net a b) ∧ K = H) := by
  refine Yd Tryz.func95 Tryz.ntmps95 rfl rfl hw ?_
  unfold ZE
  repeat' (first | ((first | apply Ya en50 | apply Yb en50); exact za; exact rfl; exact fun _ hw => (YK n hin.cons hw)) | ((first | apply Ya Yau | apply Yb Yau); exact za; exact rfl; exact fun _ hw => (Wi n _ _ hin.cons (Xa (by assumption)) hw)) | apply (zs1 ?_) | apply (zs2 ?_) | (apply zg3; refine zs8 ?_) | (apply zg8; (refine zs16 ?_ ?_ <;> intro _ <;> try (exfalso; omega))) | (apply zg23; (refine zs52 ?_; intro _)) | apply (zs65 ?_) | apply (zs68 ?_) | apply (zs69 ?_) | apply (zs70 ?_) | (apply zg27; first | refine zs71 ?_ | refine zs72 ?_) | apply (zs74 ?_) | apply (zs76 ?_) | apply (zs77 ?_) | fail)
  all_goals (((repeat apply Yq); apply Yc; exact rfl; exact rfl; refine ⟨congrArg _ ?_, rfl⟩); (repeat (first | refine Y3 (by omega) ?_ | refine Y4 (by omega) ?_)); rfl)
theorem Qi (n : NetM) (s d : Int) {B : Nat} {w0 : World} {H : List HP} {w : World} (hok : Ok n.net) (hs : 0 ≤ s ∧ s ≤ 8796093022208) (hd : 0 ≤ d ∧ d ≤ 8796093022208) (hw : St B w0 H w) :
    Calls Tryz.prog 171 [n.val, .int .i64 s, .int .i64 d].toArray w (Post B w0 fun v K => v = .bool (ZD n.net s d) ∧ K = H) := by
  refine Yd Tryz.func171 Tryz.ntmps171 rfl rfl hw ?_
  have hb : -9223372036854775808 ≤ n.thr * (n.noise + d) ∧ n.thr * (n.noise + d) ≤ 9223372036854775807 := Yhk hok hd.1 hd.2
  have hz0 : 0 ≤ n.noise := hok.z0
  have hz1 : n.noise ≤ 68719476736 := hok.z1
  unfold ZD
  show VC Tryz.prog _ B w0 _ (bodyPost Tryz.prog _ (Post B w0 fun v K => v = .bool (decide (n.thr * (n.noise + d) ≤ s * 1000)) ∧ K = H)) _ _
  repeat' (first | apply (zs1 ?_) | apply (zs2 ?_) | (apply zg2; refine zs6 ?_) | (apply zg3; refine zs7 ?_) | (apply (zs20 ?_ ?_) <;> intro _ <;> try (exfalso; omega)) | (apply zg13; refine zs30 ?_) | (apply zg15; refine zs32 ?_) | (apply zg23; (refine zs52 ?_; intro _)) | apply (zs65 ?_) | apply (zs68 ?_) | apply (zs69 ?_) | apply (zs70 ?_) | apply (zs74 ?_) | fail)
  · (repeat apply Yq); apply Yc; exact rfl; exact rfl
    exact ⟨by rw [decide_eq_true (by assumption)], rfl⟩
  · (repeat apply Yq); apply Yc; exact rfl; exact rfl
    exact ⟨by rw [decide_eq_false (by omega)], rfl⟩
def Vw (n : Net) (s d : Int) : Bool := decide (YA n = 0) && (decide (0 ≤ s ∧ 0 ≤ d ∧ s ≤ 8796093022208 ∧ d ≤ 8796093022208) && ZD n s d)
theorem OD (n : NetM) (s d : Int) {B : Nat} {w0 : World} {H : List HP} {w : World} (hin : n.In B w0 H) (hw : St B w0 H w) :
    Calls Tryz.prog 115 [n.val, .int .i64 s, .int .i64 d].toArray w (Post B w0 fun v K => v = .bool (Vw n.net s d) ∧ K = H) := by
  refine Yd Tryz.func115 Tryz.ntmps115 rfl rfl hw ?_
  unfold Vw
  by_cases h0 : YA n.net = 0
  rotate_left
  · rw [decide_eq_false h0]
    repeat' (first | ((first | apply Ya en50 | apply Yb en50); exact za; exact rfl; exact fun _ hw => (YK n hin.cons hw)) | apply (zs1 ?_) | apply (zs2 ?_) | (apply zg1; refine zs3 ?_) | (apply zg3; refine zs8 ?_) | (apply zg6; refine zs11 ?_) | (apply zg8; (refine zs16 ?_ ?_ <;> intro _ <;> try (exfalso; omega))) | (apply zg23; (refine zs52 ?_; intro _)) | apply (zs65 ?_) | apply (zs68 ?_) | apply (zs69 ?_) | apply (zs70 ?_) | (apply zg27; refine zs71 ?_) | apply (zs74 ?_) | apply (zs77 ?_) | fail)
    (repeat apply Yq); apply Yc; exact rfl; exact rfl
    exact ⟨rfl, rfl⟩
  rw [decide_eq_true h0]
  by_cases h1 : 0 ≤ s ∧ 0 ≤ d ∧ s ≤ 8796093022208 ∧ d ≤ 8796093022208
  rotate_left
  · rw [decide_eq_false h1]
    repeat' (first | ((first | apply Ya en50 | apply Yb en50); exact za; exact rfl; exact fun _ hw => (YK n hin.cons hw)) | apply (zs1 ?_) | apply (zs2 ?_) | (apply zg1; first | refine zs3 ?_ | refine zs4 ?_) | (apply zg3; refine zs8 ?_) | (apply zg6; first | refine zs11 ?_ | refine zs12 ?_) | (apply zg8; (refine zs16 ?_ ?_ <;> intro _ <;> try (exfalso; omega))) | (apply (zs17 ?_ ?_) <;> intro _ <;> try (exfalso; omega)) | (apply (zs19 ?_ ?_) <;> intro _ <;> try (exfalso; omega)) | (apply (zs25 ?_ ?_) <;> intro _ <;> try (exfalso; omega)) | (apply zg23; (refine zs52 ?_; intro _)) | (apply (zs62 ?_ ?_) <;> intro _ <;> try (exfalso; omega)) | apply (zs65 ?_) | apply (zs68 ?_) | apply (zs69 ?_) | apply (zs70 ?_) | (apply zg27; refine zs71 ?_) | apply (zs74 ?_) | apply (zs77 ?_) | fail)
    all_goals ((repeat apply Yq); apply Yc; exact rfl; exact rfl; exact ⟨rfl, rfl⟩)
  rw [decide_eq_true h1]
  repeat' (first | ((first | apply Ya en50 | apply Yb en50); exact za; exact rfl; exact fun _ hw => (YK n hin.cons hw)) | ((first | apply Ya Yec | apply Yb Yec); exact za; exact rfl; exact fun _ hw => (Qi n _ _ (Xa h0) (by omega) (by omega) hw)) | apply (zs1 ?_) | apply (zs2 ?_) | (apply zg1; refine zs4 ?_) | (apply zg3; refine zs8 ?_) | (apply zg6; refine zs12 ?_) | (apply zg8; (refine zs16 ?_ ?_ <;> intro _ <;> try (exfalso; omega))) | (apply (zs17 ?_ ?_) <;> intro _ <;> try (exfalso; omega)) | (apply (zs19 ?_ ?_) <;> intro _ <;> try (exfalso; omega)) | (apply (zs25 ?_ ?_) <;> intro _ <;> try (exfalso; omega)) | (apply zg23; (refine zs52 ?_; intro _)) | (apply (zs62 ?_ ?_) <;> intro _ <;> try (exfalso; omega)) | apply (zs65 ?_) | apply (zs68 ?_) | apply (zs69 ?_) | apply (zs70 ?_) | (apply zg27; refine zs72 ?_) | apply (zs74 ?_) | apply (zs76 ?_) | fail)
  all_goals ((repeat apply Yq); apply Yc; exact rfl; exact rfl; exact ⟨rfl, rfl⟩)
theorem Yc8 (n : NetM) (i : Nat) {B : Nat} {w0 : World} {H : List HP} {w : World} (hin : n.In B w0 H) (hok : Ok n.net) (hi : i < n.links.length) (hw : St B w0 H w) :
    Calls Tryz.prog 169 [n.val, .int .i64 i].toArray w (Post B w0 fun v K => v = .bool (U6 n.net i) ∧ K = H) := by
  refine Yd Tryz.func169 Tryz.ntmps169 rfl rfl hw ?_
  obtain ⟨hpw, hrw, hlk, hmg, hs1, hs2, hs3, hs4⟩ := id hin
  have hml : n.margin.length = n.links.length := hok.k1
  obtain ⟨l, hl⟩ : ∃ l, n.links[i]? = some l := ⟨_, List.getElem?_eq_getElem hi⟩
  obtain ⟨z, hz⟩ : ∃ z, n.margin[i]? = some z := ⟨_, List.getElem?_eq_getElem (by omega)⟩
  have e1 : lnk n.net i = l := Jv hl
  have e2 : mar n.net i = z := Ybv hz
  have hzb := Ygn hok hi
  unfold U6
  rw [e2] at hzb
  rw [e1, e2]
  by_cases hb : 0 ≤ YF n.net l.2.1 l.1
  · have hlt : (YF n.net l.2.1 l.1).toNat < n.links.length := Js hb
    obtain ⟨y, hy⟩ : ∃ y, n.margin[(YF n.net l.2.1 l.1).toNat]? = some y := ⟨_, List.getElem?_eq_getElem (by omega)⟩
    have e3 : mar n.net (YF n.net l.2.1 l.1).toNat = y := Ybv hy
    have hyb := Ygn hok hlt
    rw [e3] at hyb
    rw [e3, decide_eq_true hb]
    repeat' (first | ((first | apply Ya Yau | apply Yb Yau); exact za; exact rfl; exact fun _ hw => (Wi n _ _ hin.cons hok hw)) | ((first | apply XJ Yec | apply XI Yec); exact za; exact rfl; exact fun _ hw => (Qi n _ _ hok (by omega) (by omega) hw); all_goals (intro hB; (try simp only [decide_eq_true_eq, decide_eq_false_iff_not] at hB); try (exfalso; omega))) | apply (zs1 ?_) | apply (zs2 ?_) | (apply zg1; first | refine zs3 ?_ | refine zs4 ?_) | (apply zg2; first | refine zs6 ?_ | refine zs58 ?_) | (apply zg3; first | refine zs7 ?_ | refine zs8 ?_ | refine zs59 ?_ | refine zs60 ?_) | (apply zg5; refine zs57 ?_) | (apply zg6; first | refine zs11 ?_ | refine zs12 ?_) | (apply (zs20 ?_ ?_) <;> intro _ <;> try (exfalso; omega)) | (apply zg23; (refine zs52 ?_; intro _)) | apply (zs65 ?_) | apply (zs66 ?_) | apply (zs68 ?_) | apply (zs69 ?_) | apply (zs70 ?_) | apply (zs74 ?_) | (apply zg28; refine zs84 ?_) | fail)
    all_goals ((repeat apply Yq); apply Yc; exact rfl; exact rfl; refine ⟨?_, rfl⟩; simp_all)
  · rw [decide_eq_false hb]
    repeat' (first | ((first | apply Ya Yau | apply Yb Yau); exact za; exact rfl; exact fun _ hw => (Wi n _ _ hin.cons hok hw)) | apply (zs1 ?_) | apply (zs2 ?_) | (apply zg1; refine zs3 ?_) | (apply zg2; first | refine zs6 ?_ | refine zs58 ?_) | (apply zg3; first | refine zs7 ?_ | refine zs8 ?_ | refine zs59 ?_) | (apply zg5; refine zs57 ?_) | (apply zg6; refine zs12 ?_) | (apply (zs20 ?_ ?_) <;> intro _ <;> try (exfalso; omega)) | (apply zg23; (refine zs52 ?_; intro _)) | apply (zs65 ?_) | apply (zs66 ?_) | apply (zs68 ?_) | apply (zs69 ?_) | apply (zs70 ?_) | apply (zs74 ?_) | (apply zg28; refine zs84 ?_) | fail)
    all_goals ((repeat apply Yq); apply Yc; exact rfl; exact rfl; exact ⟨rfl, rfl⟩)
def VR (n : Net) (i : Int) : Bool := decide (YA n = 0) && (decide (0 ≤ i ∧ i < n.links.length) && U6 n i.toNat)
theorem Wz (n : NetM) (i : Int) {B : Nat} {w0 : World} {H : List HP} {w : World} (hin : n.In B w0 H) (hw : St B w0 H w) :
    Calls Tryz.prog 113 [n.val, .int .i64 i].toArray w (Post B w0 fun v K => v = .bool (VR n.net i) ∧ K = H) := by
  refine Yd Tryz.func113 Tryz.ntmps113 rfl rfl hw ?_
  have hs3 := hin.s3
  have e7 : n.net.links = n.links := rfl
  unfold VR
  rw [e7]
  by_cases h0 : YA n.net = 0
  rotate_left
  · rw [decide_eq_false h0]
    repeat' (first | ((first | apply Ya en50 | apply Yb en50); exact za; exact rfl; exact fun _ hw => (YK n hin.cons hw)) | apply (zs1 ?_) | apply (zs2 ?_) | (apply zg1; refine zs3 ?_) | (apply zg3; refine zs8 ?_) | (apply zg6; refine zs12 ?_) | (apply zg7; (refine zs15 ?_ ?_ <;> intro _ <;> try (exfalso; omega))) | (apply zg23; (refine zs52 ?_; intro _)) | apply (zs65 ?_) | apply (zs68 ?_) | apply (zs69 ?_) | apply (zs70 ?_) | apply (zs74 ?_) | fail)
    all_goals ((repeat apply Yq); apply Yc; exact rfl; exact rfl; exact ⟨rfl, rfl⟩)
  rw [decide_eq_true h0]
  by_cases h1 : 0 ≤ i ∧ i < n.links.length
  rotate_left
  · rw [decide_eq_false h1]
    repeat' (first | ((first | apply Ya en50 | apply Yb en50); exact za; exact rfl; exact fun _ hw => (YK n hin.cons hw)) | apply (zs1 ?_) | apply (zs2 ?_) | (apply zg1; first | refine zs3 ?_ | refine zs4 ?_) | (apply zg2; refine zs6 ?_) | (apply zg3; first | refine zs7 ?_ | refine zs8 ?_) | (apply zg4; refine zs9 ?_) | (apply zg6; first | refine zs11 ?_ | refine zs12 ?_) | (apply zg7; (refine zs15 ?_ ?_ <;> intro _ <;> try (exfalso; omega))) | (apply (zs17 ?_ ?_) <;> intro _ <;> try (exfalso; omega)) | (apply (zs20 ?_ ?_) <;> intro _ <;> try (exfalso; omega)) | (apply zg23; (refine zs52 ?_; intro _)) | apply (zs65 ?_) | apply (zs68 ?_) | apply (zs69 ?_) | apply (zs70 ?_) | apply (zs74 ?_) | fail)
    all_goals ((repeat apply Yq); apply Yc; exact rfl; exact rfl; exact ⟨rfl, rfl⟩)
  rw [decide_eq_true h1]
  obtain ⟨k, rfl⟩ : ∃ k : Nat, i = k := ⟨i.toNat, by omega⟩
  repeat' (first | ((first | apply Ya en50 | apply Yb en50); exact za; exact rfl; exact fun _ hw => (YK n hin.cons hw)) | ((first | apply Ya YhO | apply Yb YhO); exact za; exact rfl; exact fun _ hw => (Yc8 n _ hin.cons (Xa h0) (by omega) hw)) | apply (zs1 ?_) | apply (zs2 ?_) | (apply zg1; refine zs4 ?_) | (apply zg2; refine zs6 ?_) | (apply zg3; first | refine zs7 ?_ | refine zs8 ?_) | (apply zg4; refine zs9 ?_) | (apply zg6; refine zs11 ?_) | (apply zg7; (refine zs15 ?_ ?_ <;> intro _ <;> try (exfalso; omega))) | (apply (zs17 ?_ ?_) <;> intro _ <;> try (exfalso; omega)) | (apply (zs20 ?_ ?_) <;> intro _ <;> try (exfalso; omega)) | (apply zg23; (refine zs52 ?_; intro _)) | apply (zs65 ?_) | apply (zs68 ?_) | apply (zs69 ?_) | apply (zs70 ?_) | apply (zs74 ?_) | fail)
  all_goals ((repeat apply Yq); apply Yc; exact rfl; exact rfl; exact ⟨rfl, rfl⟩)
open Go.RowKit Go.Eng Go.Nw
def YY (n : Net) (a b : Int) : Bool := decide (0 ≤ YF n a b) && (decide (0 ≤ YF n b a) && (ZD n (mar n (YF n a b).toNat) 0 && ZD n (mar n (YF n b a).toNat) 0))
theorem YeI {n : Net} (h : Ok n) {i : Nat} (hi : i < n.links.length) : YF n (lnk n i).1 (lnk n i).2.1 = i := by
  have h1 : ∀ j, j < i → cmpL (lnk n j) ((lnk n i).1, (lnk n i).2.1, (lnk n i).2.2) < 0 := fun j hj => QL h j i hj hi
  have h2 : ∀ j, i ≤ j → j < n.links.length → 0 ≤ cmpL (lnk n j) ((lnk n i).1, (lnk n i).2.1, (lnk n i).2.2) := fun j hj hl => by
    by_cases e : i = j
    · subst e
      have : cmpL (lnk n i) ((lnk n i).1, (lnk n i).2.1, (lnk n i).2.2) = 0 := JF.2 ⟨rfl, rfl⟩
      omega
    · have h3 := QL h i j (by omega) hl
      have h4 : ¬ cmpL (lnk n j) ((lnk n i).1, (lnk n i).2.1, (lnk n i).2.2) < 0 := by
        rw [Z5] at *
        simp only
        omega
      omega
  rw [Ycs h (Nat.le_of_lt hi) h1 h2, if_pos ⟨hi, JF.2 ⟨rfl, rfl⟩⟩]
theorem W9 {n : Net} (h : Ok n) {i : Nat} (hi : i < n.links.length) : U6 n i = YY n (lnk n i).1 (lnk n i).2.1 := by
  unfold U6 YY
  rw [YeI h hi]
  simp
open Go.RowKit Go.Eng Go.Nw
def YR (c : Cel) : Int := c.2.2.1
def toC (c : Cel) : Int := c.2.2.2.1
def UL (c : Cel) : Int := c.2.2.2.2
def VN (a b : Cel) : Bool := decide (YR a = YR b ∨ YR a = toC b ∨ toC a = YR b ∨ toC a = toC b)
def Vd (n : Net) (l : List Flw) (s : Sch) (i : Nat) : Int :=
  if X8 s (Ym s i) = false then 2
  else if YY n (YR (Ym s i)) (toC (Ym s i)) = false ∨ JJ l (UL (Ym s i)) < 0 then 7
  else if 0 < i ∧ ZG (Ym s (i - 1)) (Ym s i) = false then 5 else 0
def Jk (s : Sch) (i : Nat) : Bool := (List.range i).any fun k => decide ((Ym s k).1 = (Ym s i).1) && VN (Ym s i) (Ym s k)
def Xc (c d : Cel) : Bool := decide (d.1 = c.1 ∧ d.2.1 = c.2.1)
def Wt (s : Sch) (i : Nat) : List Cel := s.cells.filter (Xc (Ym s i))
def Y1 (s : Sch) (i : Nat) : Nat := ((s.cells.take i).filter (Xc (Ym s i))).length
def celL (l : List Cel) (i : Nat) : Cel := l.getD i (0, 0, 0, 0, 0)
def powN (n : Net) (a b : Int) : Int := if insE a n.nodes = true ∧ insE b n.nodes = true then powr n a b else 0
def XD (n : Net) (l : List Cel) (j : Nat) (node : Int) : Nat → Int
  | 0 => 0
  | k + 1 => XD n l j node k + if k = j then 0 else powN n (YR (celL l k)) node + powN n (toC (celL l k)) node
def VB (n : Net) (c : Cel) : Bool := !(insE (YR c) n.nodes) || !(insE (toC c) n.nodes)
def Vr (n : Net) (l : List Cel) (i node : Int) : Int :=
  if YA n ≠ 0 ∨ i < 0 ∨ l.length ≤ i ∨ insE node n.nodes = false ∨ l.any (VB n) = true then 0 else XD n l i.toNat node l.length
def Z6 (n : Net) (s : Sch) (i : Nat) : Bool :=
  !(Vw n (mar n (YF n (YR (Ym s i)) (toC (Ym s i))).toNat) (Vr n (Wt s i) (Y1 s i) (toC (Ym s i)))) || !(Vw n (mar n (YF n (toC (Ym s i)) (YR (Ym s i))).toNat) (Vr n (Wt s i) (Y1 s i) (YR (Ym s i))))
def Zr (n : Net) (l : List Flw) (s : Sch) : Int :=
  if YA n ≠ 0 then 1 else if (YV n.nodes l).2 ≠ 0 then 1 else if Jg s = false then 2
  else if (l.any fun f => decide (s.len.tmod f.2.2.2.1 ≠ 0)) = true then 11 else if 512 < s.cells.length then 8 else 0
def JB (n : Net) (l : List Flw) (s : Sch) : Int × Int := Yx (Vd n l s) s.cells.length 0
def VO (s : Sch) : Int × Int := Yx (fun i => if Jk s i = true then 6 else 0) s.cells.length 0
def Yar (n : Net) (s : Sch) : Int × Int := Yx (fun i => if Z6 n s i = true then 16 else 0) s.cells.length 0
def schE (n : Net) (l : List Flw) (s : Sch) : Int × Int :=
  if Zr n l s ≠ 0 then (-1, Zr n l s) else if (JB n l s).2 ≠ 0 then JB n l s else if (VO s).2 ≠ 0 then VO s else Yar n s
theorem Ul {n : Net} (h : Ok n) {u v : Int} (hg : YY n u v = true) : (0 ≤ u ∧ u < n.nodes) ∧ (0 ≤ v ∧ v < n.nodes) ∧ u ≠ v ∧ 0 ≤ YF n u v ∧ 0 ≤ YF n v u := by
  unfold YY at hg
  simp only [Bool.and_eq_true, decide_eq_true_eq] at hg
  obtain ⟨h1, h2, _⟩ := hg
  obtain ⟨k1, k2⟩ := UJ h1
  have := h.lk _ (Js h1)
  have a1 := this.f0; have a2 := this.f1; have a3 := this.t0; have a4 := this.t1; have a5 := this.ne
  rw [k1] at a1 a2 a5
  rw [k2] at a3 a4 a5
  exact ⟨⟨a1, a2⟩, ⟨a3, a4⟩, a5, h1, h2⟩
theorem YgP {n : Net} (h : YA n = 0) (a b : Int) : VR n (ZE n a b) = YY n a b := by
  have hok := Xa h
  unfold VR ZE
  rw [if_neg (by omega), decide_eq_true h, Bool.true_and]
  by_cases h0 : 0 ≤ YF n a b
  · have hl := Js h0
    rw [W9 hok hl, (UJ h0).1, (UJ h0).2, decide_eq_true (by omega), Bool.true_and]
  · rw [decide_eq_false (by omega), Bool.false_and]
    unfold YY
    rw [decide_eq_false h0, Bool.false_and]
theorem YgH {s : Sch} {i : Nat} (h : i < s.cells.length) : (Wt s i)[Y1 s i]? = some (Ym s i) := by
  have h1 := YD h
  obtain ⟨h2, h3⟩ := List.getElem?_eq_some_iff.1 h1
  have hsp : s.cells = s.cells.take i ++ Ym s i :: s.cells.drop (i + 1) := by
    rw [← h3, List.getElem_cons_drop, List.take_append_drop]
  unfold Wt Y1
  have hp : Xc (Ym s i) (Ym s i) = true := by unfold Xc; simp
  have hf : s.cells.filter (Xc (Ym s i)) = (s.cells.take i).filter (Xc (Ym s i)) ++ Ym s i :: (s.cells.drop (i + 1)).filter (Xc (Ym s i)) := by
    conv => lhs; rw [hsp]
    rw [List.filter_append, List.filter_cons, if_pos hp]
  rw [hf, List.getElem?_append_right (Nat.le_refl _), Nat.sub_self]
  rfl
theorem Yik {n : Net} (h : Ok n) {a b : Int} (ha : 0 ≤ a ∧ a < n.nodes) (hb : 0 ≤ b ∧ b < n.nodes) : 0 ≤ powr n a b ∧ powr n a b ≤ 68719476736 := by
  have hp := h.p0
  obtain ⟨r, hr⟩ : ∃ r, n.power[a.toNat]? = some r := ⟨_, List.getElem?_eq_getElem (by omega)⟩
  have hrm := List.mem_of_getElem? hr
  have hl := h.p1 r hrm
  obtain ⟨p, hpe⟩ : ∃ p, r[b.toNat]? = some p := ⟨_, List.getElem?_eq_getElem (by omega)⟩
  have := h.p2 r hrm p (List.mem_of_getElem? hpe)
  have e1 : n.power.getD a.toNat [] = r := by rw [List.getD_eq_getElem?_getD, hr]; rfl
  have e2 : r.getD b.toNat 0 = p := by rw [List.getD_eq_getElem?_getD, hpe]; rfl
  unfold powr
  rw [e1, e2]
  exact this
theorem J6 {n : Net} (h : Ok n) (a b : Int) : 0 ≤ powN n a b ∧ powN n a b ≤ 68719476736 := by
  unfold powN
  split
  · rename_i hc
    unfold insE at hc
    simp only [decide_eq_true_eq] at hc
    exact Yik h hc.1 hc.2
  · omega
theorem Yd2 {n : Net} (h : Ok n) (l : List Cel) (j : Nat) (node : Int) : ∀ k : Nat, 0 ≤ XD n l j node k ∧ XD n l j node k ≤ (k : Int) * 137438953472
  | 0 => by simp [XD]
  | k + 1 => by
    have h1 := Yd2 h l j node k
    have h2 := J6 h (YR (celL l k)) node
    have h3 := J6 h (toC (celL l k)) node
    unfold XD
    split <;> omega
open Go.RowKit Go.Eng Go.Nw
def movC (d : Int) (c : Cel) : Cel := (c.1 + d, c.2)
def repC (s : Sch) (k : Nat) : List Cel := (List.range k).flatMap fun i : Nat => s.cells.map (movC ((i : Int) * s.len))
open Go.RowKit Go.Eng Go.Nw
def celF (c : Cel) : List Value := [.int .i64 c.1, .int .i64 c.2.1, .int .i64 c.2.2.1, .int .i64 c.2.2.2.1, .int .i64 c.2.2.2.2]
def celV (c : Cel) : Value := .agg #[.int .i64 c.1, .int .i64 c.2.1, .int .i64 c.2.2.1, .int .i64 c.2.2.2.1, .int .i64 c.2.2.2.2]
structure SchM where
  len : Int
  off : Int
  A : Option Addr
  cap : Nat
  cells : List Cel
def SchM.sch (s : SchM) : Sch := ⟨s.len, s.off, s.cells⟩
def SchM.val (s : SchM) : Value := .agg #[.int .i64 s.len, .int .i64 s.off, .slice s.A s.cells.length s.cap]
theorem Ydo (a b : Cel) : cmpV (nums a) (nums b) < 0 ↔ ZG a b = true := by
  unfold cmpV ZG
  by_cases h1 : Jb (nums a) (nums b) = true
  · rw [if_pos h1]; simp [h1]
  · rw [if_neg h1]
    split <;> simp [h1]
theorem UU (c : Cel) {B : Nat} {w0 : World} {H : List HP} {w : World} (hw : St B w0 H w) :
    Calls Tryz.prog 105 [celV c].toArray w (Post B w0 fun v K => v = celV c ∧ K = H) := by
  refine Yd Tryz.func105 Tryz.ntmps105 rfl rfl hw ?_
  repeat' (first | (apply zg2; refine zs6 ?_) | (apply zg3; refine zs7 ?_) | (apply zg22; refine zs51 ?_) | (apply zg23; (refine zs52 ?_; intro _)) | (apply zg24; (refine zs54 ?_; intro _)) | (apply zg25; refine zs55 ?_) | apply (zs65 ?_) | apply (zs68 ?_) | apply (zs69 ?_) | apply (zs70 ?_) | apply (zs74 ?_) | fail)
  (apply Yb4 T (H2 := H); exact rfl; exact rfl; exact zm; exact rfl; exact rfl; exact zk; exact ⟨rfl, rfl⟩)
set_option maxRecDepth 10000 in
set_option maxHeartbeats 2000000 in
theorem YdC (a b : Cel) {B : Nat} {w0 : World} {H : List HP} {w : World} (hw : St B w0 H w) :
    Calls Tryz.prog 120 [celV a, celV b, .func (.func 105) #[] #[]].toArray w (Post B w0 fun v K => v = .int .i64 (cmpV (nums a) (nums b)) ∧ K = H) := by
  refine Yd Tryz.func120 Tryz.ntmps120 rfl rfl hw ?_
  apply JT
  iterate 5 (first | apply (zs2 ?_) | (apply zg23; (refine zs52 ?_; intro _)) | apply (zs65 ?_) | apply (zs70 ?_) | fail)
  apply Ybf
  apply JT
  refine Om (fun (z : Nat × Nat) => [(7, .pointer (some ⟨z.1, 0, none⟩)), (8, .pointer (some ⟨z.2, 0, none⟩))]) (fun z => blk z.1 (.cells (celF a).toArray 183 (0, 0)) :: blk z.2 (.cells (celF b).toArray 183 (0, 0)) :: H) ?_ ?_
  · intro K hK
    apply OF (.n1 0 (.n1 1 (.n1 3 (.n1 4 (.n3 2 (.n3 5 (.n2 6 (.n1 7 .done) 7 (.n1 6 .done)) 6 (.n2 5 (.n1 7 .done) 7 (.n1 5 .done)) 7 (.n2 5 (.n1 6 .done) 6 (.n1 5 .done))) 6 (.n2 2 (.n2 5 (.n1 7 .done) 7 (.n1 5 .done)) 7 (.n1 2 (.n1 5 .done))) 7 (.n2 2 (.n2 5 (.n1 6 .done) 6 (.n1 5 .done)) 6 (.n1 2 (.n1 5 .done)))))))) [8, 9] [true, true]
    kernel_rfl
    kernel_rfl
    exact zy
    (simp only [Yj, nthO]; rfl)
    repeat' (first | ((first | apply YG (cs := []) | apply Y9 (cs := [])); exact rfl; exact Yf9; exact za; exact rfl; exact fun _ hw => (UU _ hw)) | (apply YiA; (simp only [nthO]; rfl); (simp only [nthO]; rfl); (simp only [nthO]; rfl)) | (apply YfY; (simp only [nthO]; rfl); (simp only [nthO]; rfl)) | (apply YfX; (simp only [nthO]; rfl)) | (apply OL; (repeat (first | with_reducible exact Yh | (with_reducible apply Yg; (repeat (first | with_reducible exact Yf | with_reducible apply Ye)))))) | (apply Ybh; exact zp) | apply (zs1 ?_) | (apply zg3; refine zs8 ?_) | (apply zg22; refine zs51 ?_) | (apply zg24; (refine zs54 ?_; intro _)) | apply (zs65 ?_) | (apply Yn; exact zp) | apply (zs87 ?_) | (apply Yl; (repeat (first | with_reducible exact Yh | (with_reducible apply Yg; (repeat (first | with_reducible exact Yf | with_reducible apply Ye)))))) | apply (zs93 ?_) | apply (zs94 ?_) | fail)
    all_goals (
      rename_i ga gb
      first
        | (refine hK (ga, gb) _ _ zu ?_; dsimp only [celF]; exact zk; done)
        | (refine hK (gb, ga) _ _ zu ?_; dsimp only [celF]; exact zk; done))
  rintro ⟨g1, g2⟩
  dsimp only
  have hA : Rd B w0 (blk g1 (.cells (celF a).toArray 183 (0, 0)) :: blk g2 (.cells (celF b).toArray 183 (0, 0)) :: H) (some ⟨g1, 0, none⟩) ((nums a).flatMap numF) := Rd.blk (cs := (celF a).toArray) (.head _)
  have hB : Rd B w0 (blk g1 (.cells (celF a).toArray 183 (0, 0)) :: blk g2 (.cells (celF b).toArray 183 (0, 0)) :: H) (some ⟨g2, 0, none⟩) ((nums b).flatMap numF) := Rd.blk (cs := (celF b).toArray) (.tail _ (.head _))
  repeat' (first | (apply Uu T (e := 3); exact rfl; exact rfl; exact rfl) | ((first | apply Ya YhR | apply Yb YhR); exact za; exact rfl; exact fun _ hw => (Q6 (nums a) (nums b) (by simp [nums]) (by simp [nums]) hA hB hw)) | apply (zs2 ?_) | apply (zs66 ?_) | apply (zs68 ?_) | apply (zs69 ?_) | apply (zs74 ?_) | (apply zg28; refine zs84 ?_) | fail)
  apply Yi H
  · exact zk
  apply Yc; exact rfl; exact rfl
  exact ⟨rfl, rfl⟩
theorem V8 (a b : Cel) {B : Nat} {w0 : World} {H : List HP} {w : World} (hw : St B w0 H w) :
    Calls Tryz.prog 62 [celV a, celV b].toArray w (Post B w0 fun v K => v = .int .i64 (cmpV (nums a) (nums b)) ∧ K = H) := by
  refine Yd Tryz.func62 Tryz.ntmps62 rfl rfl hw ?_
  repeat' (first | ((first | apply Ya YhH | apply Yb YhH); exact za; exact rfl; exact fun _ hw => (YdC a b hw)) | apply (zs2 ?_) | (apply zg3; refine zs8 ?_) | (apply zg23; (refine zs52 ?_; intro _)) | apply (zs65 ?_) | apply (zs68 ?_) | apply (zs69 ?_) | apply (zs70 ?_) | apply (zs74 ?_) | fail)
  apply Yi H
  · exact zk
  apply Yc; exact rfl; exact rfl
  exact ⟨rfl, rfl⟩
theorem WU (x n : Int) {B : Nat} {w0 : World} {H : List HP} {w : World} (hw : St B w0 H w) :
    Calls Tryz.prog 168 [.int .i64 x, .int .i64 n].toArray w (Post B w0 fun v K => v = .bool (insE x n) ∧ K = H) := by
  refine Yd Tryz.func168 Tryz.ntmps168 rfl rfl hw ?_
  repeat' (first | apply (zs1 ?_) | apply (zs2 ?_) | (apply zg1; first | refine zs3 ?_ | refine zs4 ?_) | (apply zg6; first | refine zs11 ?_ | refine zs12 ?_) | (apply (zs17 ?_ ?_) <;> intro _ <;> try (exfalso; omega)) | (apply (zs20 ?_ ?_) <;> intro _ <;> try (exfalso; omega)) | apply (zs65 ?_) | apply (zs68 ?_) | apply (zs69 ?_) | apply (zs70 ?_) | apply (zs74 ?_) | fail)
  all_goals (
    apply Yc; exact rfl; exact rfl
    first
      | exact ⟨by rw [show insE x n = true from decide_eq_true (by omega)], rfl⟩
      | exact ⟨by rw [show insE x n = false from decide_eq_false (by omega)], rfl⟩)
theorem WY (s : SchM) (c : Cel) {B : Nat} {w0 : World} {H : List HP} {w : World} (hw : St B w0 H w) :
    Calls Tryz.prog 112 [s.val, celV c].toArray w (Post B w0 fun v K => v = .bool (X8 s.sch c) ∧ K = H) := by
  refine Yd Tryz.func112 Tryz.ntmps112 rfl rfl hw ?_
  repeat' (first | ((first | apply XJ Yeb | apply XI Yeb); exact za; exact rfl; exact fun _ hw => (WU _ _ hw); all_goals (intro hB; (try simp only [decide_eq_true_eq, decide_eq_false_iff_not] at hB); try (exfalso; omega))) | apply (zs1 ?_) | apply (zs2 ?_) | (apply zg1; first | refine zs3 ?_ | refine zs4 ?_) | (apply zg2; refine zs6 ?_) | (apply zg3; refine zs7 ?_) | (apply zg6; first | refine zs11 ?_ | refine zs12 ?_) | (apply zg23; (refine zs52 ?_; intro _)) | apply (zs65 ?_) | apply (zs68 ?_) | apply (zs69 ?_) | apply (zs70 ?_) | apply (zs74 ?_) | fail)
  all_goals (
    apply Yi H
    · exact zk
    apply Yc; exact rfl; exact rfl
    exact ⟨by simp [X8, SchM.sch, *], rfl⟩)
theorem WT (s : SchM) (c : Cel) {B : Nat} {w0 : World} {H : List HP} {w : World} (hw : St B w0 H w) :
    Calls Tryz.prog 117 [s.val, celV c].toArray w (Post B w0 fun v K => v = .bool (Jt s.sch c) ∧ K = H) := by
  refine Yd Tryz.func117 Tryz.ntmps117 rfl rfl hw ?_
  repeat' (first | ((first | apply XJ Jq | apply XI Jq); exact za; exact rfl; exact fun _ hw => (WY s c hw); all_goals (intro hB; (try simp only [decide_eq_true_eq, decide_eq_false_iff_not] at hB); try (exfalso; omega))) | ((first | apply XJ Yeb | apply XI Yeb); exact za; exact rfl; exact fun _ hw => (WU _ _ hw); all_goals (intro hB; (try simp only [decide_eq_true_eq, decide_eq_false_iff_not] at hB); try (exfalso; omega))) | apply (zs1 ?_) | apply (zs2 ?_) | (apply zg1; first | refine zs3 ?_ | refine zs4 ?_) | (apply zg2; refine zs6 ?_) | (apply zg3; first | refine zs7 ?_ | refine zs8 ?_) | (apply zg6; first | refine zs11 ?_ | refine zs12 ?_) | (apply zg23; (refine zs52 ?_; intro _)) | apply (zs65 ?_) | apply (zs68 ?_) | apply (zs69 ?_) | apply (zs70 ?_) | apply (zs74 ?_) | fail)
  all_goals (
    apply Yi H
    · exact zk
    apply Yc; exact rfl; exact rfl
    exact ⟨by simp [Jt, *], rfl⟩)
theorem QI (s : SchM) {B : Nat} {w0 : World} {H : List HP} {w : World} (hw : St B w0 H w) :
    Calls Tryz.prog 52 [s.val].toArray w (Post B w0 fun v K => v = .bool (Jg s.sch) ∧ K = H) := by
  refine Yd Tryz.func52 Tryz.ntmps52 rfl rfl hw ?_
  have e1 : s.sch.len = s.len := rfl
  have e2 : s.sch.off = s.off := rfl
  repeat' (first | apply (zs1 ?_) | apply (zs2 ?_) | (apply zg1; first | refine zs3 ?_ | refine zs4 ?_) | (apply zg2; refine zs6 ?_) | (apply zg3; refine zs7 ?_) | (apply zg6; first | refine zs11 ?_ | refine zs12 ?_) | (apply (zs18 ?_ ?_) <;> intro _ <;> try (exfalso; omega)) | (apply (zs20 ?_ ?_) <;> intro _ <;> try (exfalso; omega)) | (apply zg23; (refine zs52 ?_; intro _)) | apply (zs65 ?_) | apply (zs68 ?_) | apply (zs69 ?_) | apply (zs70 ?_) | apply (zs74 ?_) | fail)
  all_goals (
    apply Yi H
    · exact zk
    apply Yc; exact rfl; exact rfl
    first
      | exact ⟨by rw [show Jg s.sch = true from decide_eq_true (by omega)], rfl⟩
      | exact ⟨by rw [show Jg s.sch = false from decide_eq_false (by omega)], rfl⟩)
open Go.ChangeShapes Go.WideShapes Go.ChangeAt Go.RowKit
section
variable {H : Type} {enc : TypeId × Value → H} {P : Program}
theorem U5 (hl : laidOutB P = true) {W W' : World} {sp : Nat → Bool} : ∀ {ts : List TypeId} {vs : List Value} {ds : List (DataW H)} {ps : List MemPlace}, (ts.all fun t => P.readableRec t && decide (t < P.types.size)) = true →
    DataW.TrodAll enc P W 0 (fun _ => true) true ts vs ds ps → (∀ p ∈ ps, W.sameAt W' p) → (∀ p ∈ ps, sp p.block = true) → DataW.TrodAll enc P W' 0 sp true ts vs ds ps
  | [], [], [], _, _, h, _, _ => h
  | [], [], _ :: _, _, _, h, _, _ => h.elim
  | [], _ :: _, _, _, _, h, _, _ => h.elim
  | _ :: _, [], _, _, _, h, _, _ => h.elim
  | _ :: _, _ :: _, [], _, _, h, _, _ => h.elim
  | t :: ts, v :: vs, d :: ds, ps, hr, h, hs, hp => by
    obtain ⟨p, q, h1, h2, rfl⟩ := h
    simp only [List.all_cons, Bool.and_eq_true, decide_eq_true_eq] at hr
    exact ⟨p, q, WideElems.Trod_stays hl hr.1.1 hr.1.2 h1 (fun x hx => hs x (by simp [hx])) (fun x hx => hp x (by simp [hx])), U5 hl hr.2 h2 (fun x hx => hs x (by simp [hx])) (fun x hx => hp x (by simp [hx])), rfl⟩
theorem Yix {f : Func} {s : ChangeSpec} {apart fresh handsOn again : Bool} {W W' : World} {args : Array Value} {ds gs : List (DataW H)} {before : List MemPlace} {tb : TypeId} (hl : laidOutB P = true)
    (hrd : (f.params.toList.all fun t => P.readableRec t && decide (t < P.types.size)) = true) (hv : s.vars = []) (hrt : f.resultTypes = #[tb]) (htb : P.underlying tb = some .bool)
    (hW : DataW.Whole enc P f.params.toList s.vars apart W args.toList ds gs before) (hb : Below W.heap.size W W')
    (hres : (s.fn H (ds ++ gs)).results = [.lit (.bool true)]) (hargs : (s.fn H (ds ++ gs)).args = ds) (hvars : (s.fn H (ds ++ gs)).vars = []) :
    s.post enc P f apart fresh handsOn again W args (.bool true) W' := by
  have hlt : ∀ p ∈ before, p.block < W.heap.size := fun p hp => hW.lt p hp
  have hW0 := hW
  obtain ⟨p, q, hA, hV, rfl, hz, hn⟩ := hW
  rw [hv] at hV
  have hq : gs = [] ∧ q = [] := by
    cases gs with
    | nil => exact ⟨rfl, hV⟩
    | cons _ _ => exact hV.elim
  obtain ⟨rfl, rfl⟩ := hq
  have hkeep : ∀ sp : Nat → Bool, (∀ x ∈ p ++ [], sp x.block = true) → DataW.TrodAll enc P W' 0 sp true f.params.toList args.toList ds p := fun sp hsp =>
    U5 hl hrd hA (fun x hx => hb.same (hlt x (by simpa using hx))) (fun x hx => hsp x (by simpa using hx))
  have hR : ∀ (b : Nat) (sp : Nat → Bool) (hd : Bool), DataW.TrodAll enc P W' b sp hd f.resultTypes.toList ((Value.bool true).resultList f.resultTypes.size) (s.fn H (ds ++ [])).results [] := by
    intro b sp hd
    rw [hres, hrt]
    exact trodAll_mk1 (shut_bool htb true)
  have hok := ok_one (P := P) (W' := W') (f := f) (v := .bool true) hrt rfl (okWide_bool_mk htb true)
  have hold : ∀ x ∈ p ++ [], (fun b => decide (b < W.heap.size)) x.block = true := fun x hx => by simpa using hlt x hx
  refine ⟨ds, [], p ++ [], [], p, [], hW0, hR _ _ _, by rw [hargs]; exact hkeep _ hold, by rw [hvars, hv]; rfl, World.keptBut_mono (fun x hx => ⟨hx, Or.inr (by simpa using hx)⟩) (hb.frame (· ∈ p ++ [])), fun _ => ?_⟩
  refine ⟨hok, _, _, ([] ++ p) ++ [], ⟨[] ++ p, [], trodAll_append (hkeep _ (fun _ _ => rfl)) (hR _ _ _), (show DataW.TrodVars enc P W' (fun _ => true) s.vars [] [] by rw [hv]; rfl), rfl, ?_, ?_⟩, ?_⟩
  · intro b off hp
    have hin : MemPlace.cell b off ∈ p ++ [] := by simpa using hp
    rw [hb.frozen (hlt _ hin)]
    exact hz b off hin
  · intro ha
    simpa using hn ha
  · intro x hx _
    simpa using hx
end
open Go.ChangeShapes Go.WideShapes Go.ChangeAt Go.RowKit Go.Eng Go.Nw
open Go.ChangeMaps (open_string)
def flwF (f : Flw) : List Value := [.int .i64 f.1, .int .i64 f.2.1, .int .i64 f.2.2.1, .int .i64 f.2.2.2.1, .int .i64 f.2.2.2.2.1, .int .i64 f.2.2.2.2.2]
section
variable {H : Type} {enc : TypeId × Value → H} {W : World} {spare : Nat → Bool} {held : Bool}
theorem Yi2 (s : ByteArray) : ∃ l : List UInt8, s = ⟨l.toArray⟩ := ⟨s.data.toList, by cases s; simp⟩
end
end Go.Proofs.YtmalhidldgfeoaaGreatDoor
namespace Go.Eng
open Go.RowKit
theorem Q0 {P : Program} (w : World) (t u ty e : TypeId) (i : TypeInfo) (ht : P.underlying t = some (.slice e)) (hu : P.underlying u = some .string) (hi : P.info? e = some i) (hz : i.zero = some (.int .u8 0))
    (hsize : i.size = 1) (hby : i.bytes = 1) (v : Value) (n : Nat) (xs : List Value) (hown : w.ownsRow 0 e 1 v n xs) (s : ByteArray) (hb : n + s.size ≤ 1000000000) :
    ∃ v' w', (Builtin.append_ #[t, u] ty #[v, .string s]).run P w = .ok v' w' ∧ w'.ownsRow 0 e 1 v' (n + s.size) (xs ++ Lib.strCells s) ∧ w.grownBy w' v.ownBlock ∧ ∀ b, v'.ownBlock = some b → v.ownBlock = some b ∨ w.heap.size ≤ b := by
  have hm : n + s.size ≤ maxLen := by simp only [maxLen]; omega
  obtain ⟨v', w', h1, h2, h3, _⟩ := Lib.run_append_own_string (P := P) w 0 t u ty e i ht hu hi hz hsize hby v n xs hown s hm (by omega) (Nat.zero_le _)
  refine ⟨v', w', h1, h2, h3, fun b hbb => ?_⟩
  rcases hown.2 with ⟨rfl, rfl⟩ | ⟨g, cap, cur, rfl, hbg, hg, hnc, hcm, hcs, htake⟩
  · right
    obtain ⟨v2, w2, k1, k2, _⟩ := Lib.run_append_own_string (P := P) w w.heap.size t u ty e i ht hu hi hz hsize hby (.slice none 0 0) 0 xs ⟨hown.1, .inl ⟨rfl, rfl⟩⟩ s hm (by omega) (Nat.le_refl _)
    rw [h1] at k1
    obtain ⟨rfl, rfl⟩ : v' = v2 ∧ w' = w2 := by simpa using k1
    rcases k2.2 with ⟨e1, _⟩ | ⟨g', _, _, e1, e2, _⟩
    · rw [e1] at hbb; cases hbb
    · rw [e1] at hbb
      simp only [Value.ownBlock, Option.some.injEq] at hbb
      omega
  · have hcs' : cur.size = cap := by simpa using hcs
    have hxl : xs.length = n := by simpa using hown.1
    by_cases hroom : n + s.size ≤ cap
    · have k1 := Lib.run_append_room_string (P := P) w t u ty e i ht hu hi hsize g n cap cur hg s hroom (by omega)
      rw [h1] at k1
      obtain ⟨rfl, _⟩ := (Result.ok.injEq _ _ _ _).mp k1
      exact .inl hbb
    · have holds : ∀ j u, xs[j]? = some u → w.cell? ((⟨g, 0, none⟩ : Addr).add j) = some u := hown.cells (g := g) rfl
      have k1 := Lib.run_append_grow_string (P := P) w t u ty e i (.int .u8 0) ht hu hi hz ⟨g, 0, none⟩ n cap xs (by rw [hsize]; simpa using hxl) holds s (by omega) (by omega) (by rw [hby]; exact growslice_fits (by omega) (by omega))
      rw [h1] at k1
      obtain ⟨rfl, _⟩ := (Result.ok.injEq _ _ _ _).mp k1
      right
      simp only [Value.ownBlock, Option.some.injEq] at hbb
      omega
section
variable {P : Program} {m : Mode} {n : Shp} {B d : Nat} {w0 : World} {ops : Array Oper} {Q : Exit → Act → World → Prop} {rest : List Oper} {env : Env} {H : List HP} {ty : TypeId} {pos : String} {after : Array Edge} {x y : Operand}
def OQ (P : Program) (e : TypeId) : Bool := match P.info? e with | some i => (match i.zero with | some (.int .u8 0) => true | _ => false) && i.size == 1 && i.bytes == 1 | none => false
theorem Q3 {e : TypeId} (h : OQ P e = true) : ∃ i, P.info? e = some i ∧ i.zero = some (.int .u8 0) ∧ i.size = 1 ∧ i.bytes = 1 := by
  unfold OQ at h
  split at h
  · rename_i i hi
    simp only [Bool.and_eq_true, beq_iff_eq] at h
    refine ⟨i, hi, ?_, h.1.2, h.2⟩
    have h1 := h.1.1
    split at h1
    · assumption
    · cases h1
  · cases h
theorem Ya4 (T : Tab P) {t tt k cap e bytes : Nat} {A : Option Addr} {s : ByteArray} {xs : List Value} {K : Option Addr → Nat → List HP} (hx : evo env x = some (.slice A k cap)) (hy : evo env y = some (.string s)) (ht : look T.sl t = some (e, 1, bytes)) (hbi : OQ P e = true) (htt : look T.st tt = some ())
    (hn : Nat.ble (d + 1) n.k = true) (hu : ∀ A' cap', Upd (sl e 1 A k cap xs) (sl e 1 A' (k + s.size) cap' (xs ++ Lib.strCells s)) H (K A' cap')) (hb : k + s.size ≤ 1000000000)
    (h : ∀ A' cap', VL P none n B w0 ops Q rest ((d, .slice A' (k + s.size) cap') :: env) (K A' cap')) :
    VL P none n B w0 ops Q (⟨some d, .call ⟨.builtin .append, #[x, y], #[t, tt]⟩, ty, pos, after, none⟩ :: rest) env H := by
  obtain ⟨hut, _⟩ := YP (T.slic ht)
  obtain ⟨i, hi, hz, hs1, hb1⟩ := Q3 hbi
  have hst : P.underlying tt = some .string := T.strs htt
  refine Z1 (fun v K' => ∃ A' cap', v = .slice A' (k + s.size) cap' ∧ K' = K A' cap') rfl rfl hn (fun a w ha hw => ?_) (by rintro _ _ ⟨A', cap', rfl, rfl⟩; exact h A' cap')
  have hmem : sl e 1 A k cap xs ∈ H := by
    obtain ⟨L1, L2, rfl, _⟩ := hu none 0
    simp
  have hown := hw.sl hmem
  obtain ⟨v', w', hrun, hown', hgrow, hat⟩ := Q0 (P := P) w t tt ty e i hut hst hi hz hs1 hb1 (.slice A k cap) k xs hown s hb
  have hshape : ∃ A' cap', v' = .slice A' (k + s.size) cap' := by
    rcases hown'.2 with ⟨e1, e2⟩ | ⟨g', c', _, e1, _⟩
    · exact ⟨none, 0, by rw [e1, e2]⟩
    · exact ⟨_, _, e1⟩
  obtain ⟨A', cap', rfl⟩ := hshape
  refine ⟨_, K A' cap', w', by simp [execOp, resolve, invoke, builtin, ha.eval hx, ha.eval hy, hrun], ?_, A', cap', rfl, rfl⟩
  refine hw.updN (hu A' cap') hgrow.os hgrow.tape hgrow.output hgrow.size fun S1 ⟨_, hS⟩ => ⟨⟨fun b => Value.ownBlock (.slice A' (k + s.size) cap') = some b, ⟨hown', ?_⟩, fun b hb => ?_⟩, fun b hb hlt => hgrow.block b hlt (fun e => hb ?_)⟩
  · rintro a rfl; rfl
  · rcases hat b hb with e | e
    · cases A with
      | none => cases e
      | some a => left; simp only [Value.ownBlock, Option.some.injEq] at e; rw [← e]; exact hS a rfl
    · right
      refine ⟨e, ?_⟩
      rcases hown'.2 with ⟨e1, _⟩ | ⟨g', _, _, e1, _, e3, _⟩
      · rw [e1] at hb; cases hb
      · rw [e1] at hb
        simp only [Value.ownBlock, Option.some.injEq] at hb
        subst hb
        exact (Array.getElem?_eq_some_iff.1 e3).1
  · cases A with
    | none => cases e
    | some a => simp only [Value.ownBlock, Option.some.injEq] at e; rw [e]; exact hS a rfl
end
open Go.RowKit
inductive OV where
  | done
  | p1 (i : Nat) (t : OV)
  | d1 (i : Nat) (t : OV)
  | d2 (i : Nat) (t : OV) (j : Nat) (u : OV)
section
variable {P : Program} {n : Shp} {B : Nat} {w0 : World} {Q : Exit → Act → World → Prop} {env : Env} {H : List HP} {ops : Array Oper}
def wpD (P : Program) (ops : Array Oper) (K : Act → World → Prop) (o : Oper) (a : Act) (w : World) : Prop :=
  if Region.wanted o (yielded ops a.tmps) then o.wp P a w K (fun _ _ _ => False) else K (a.put o.dst undef) w
def Xk (P : Program) (ops : Array Oper) (l : List Oper) (Q : Exit → Act → World → Prop) (S : World → Prop) : OV → Act → World → Prop
  | .done, a, w => Q .normal a w
  | .p1 i t, a, w => Ys P ops (fun e a w => match e with | .normal => S w ∧ Xk P ops l Q S t a w | _ => False) S [nthO l i] a w
  | .d1 i t, a, w => wpD P ops (fun a w => S w ∧ Xk P ops l Q S t a w) (nthO l i) a w
  | .d2 i t j u, a, w => wpD P ops (fun a w => S w ∧ Xk P ops l Q S t a w) (nthO l i) a w ∧ wpD P ops (fun a w => S w ∧ Xk P ops l Q S u a w) (nthO l j) a w
def Va (ops : Array Oper) (last : List Nat) : OV → Array Bool → Nat → Bool
  | .done, listed, 0 => Zp ops last listed
  | .done, _, _ + 1 => false
  | .p1 i t, listed, k + 1 => !last.contains i && (match ops[i]? with
      | some o => !eff o && ((Region.ready .any ops listed).contains i && Region.free .any ops listed i)
      | none => false) && Va ops last t (listed.setIfInBounds i true) k
  | .d1 i t, listed, k + 1 => !last.contains i && (ops[i]?).isSome && decide (Region.ready .any ops listed = [i]) && Va ops last t (listed.setIfInBounds i true) k
  | .d2 i t j u, listed, k + 1 => !last.contains i && !last.contains j && (ops[i]?).isSome && (ops[j]?).isSome && ((Region.ready .any ops listed).all fun x => x == i || x == j) && !(Region.ready .any ops listed).isEmpty && Va ops last t (listed.setIfInBounds i true) k && Va ops last u (listed.setIfInBounds j true) k
  | .p1 _ _, _, 0 => false
  | .d1 _ _, _, 0 => false
  | .d2 _ _ _ _, _, 0 => false
theorem O5 {S : World → Prop} {K : Act → World → Prop} {last : List Nat} {i k : Nat} {o : Oper} {listed : Array Bool} {a : Act} {w : World} (ho : ops[i]? = some o)
    (h : wpD P ops K o a w) (hk : ∀ a w, K a w → S w ∧ XF P ops Q S last k (listed.setIfInBounds i true) a w) :
    wpOp P ops Q i (fun a' w' => (last.contains i = false → S w') ∧ XF P ops Q S last k (listed.setIfInBounds i true) a' w') a w := by
  unfold wpD at h
  unfold wpOp
  simp only [ho]
  by_cases hw : Region.wanted o (yielded ops a.tmps) = true
  · rw [if_pos hw] at h ⊢
    exact .inl (Oper.wp_mono_noQ (fun _ _ _ h => h) (by rintro ⟨_, _, h⟩; exact h) (Oper.wp_mono (fun a' w' h' => ⟨fun _ => (hk a' w' h').1, (hk a' w' h').2⟩) h))
  · rw [if_neg hw] at h ⊢
    exact ⟨fun _ => (hk _ w h).1, (hk _ w h).2⟩
theorem ZA {S : World → Prop} {last : List Nat} (hs : Region.noSelect ops = true) (hQ : ∀ c (a : Act) (w : World), ¬ Q (.panic c) a w) (hlo : ¬ LetsOut Q) (l : List Oper) (hl : ops = l.toArray) (hlast : Qq ops last = true) :
    ∀ (t : OV) (k : Nat) (listed : Array Bool) (a : Act) (w : World), Closed ops listed → Va ops last t listed k = true → S w → Xk P ops l (XH P ops Q (Yj l last)) S t a w →
      XF P ops Q S last (k + last.length) listed a w
  | .done, 0, listed, a, w, _, hB, _, h => by
    have := Zz (S := S) l hl (Zl hlast).1 hlo last listed a w (fun j hj => by simpa using hj) hB h
    rw [Nat.zero_add]
    exact this
  | .done, _ + 1, _, _, _, _, hB, _, _ => by cases hB
  | .p1 _ _, 0, _, _, _, _, hB, _, _ => by cases hB
  | .d1 _ _, 0, _, _, _, _, hB, _, _ => by cases hB
  | .d2 _ _ _ _, 0, _, _, _, _, hB, _, _ => by cases hB
  | .p1 i t, k + 1, listed, a, w, hcl, hB, hS, h => by
    simp only [Va, Bool.and_eq_true] at hB
    obtain ⟨⟨h0, h1⟩, h2⟩ := hB
    have hno : last.contains i = false := by simpa using h0
    cases ho : ops[i]? with
    | none => rw [ho] at h1; cases h1
    | some o =>
      rw [ho] at h1
      have hget := YC hl ho
      unfold Xk at h
      rw [hget] at h
      rw [Nat.add_right_comm]
      simp only [Bool.and_eq_true, Bool.not_eq_true'] at h1
      obtain ⟨he, h3, h4⟩ := h1
      unfold Ys at h
      rw [if_neg (by rw [he]; simp)] at h
      obtain ⟨v, hy, h5⟩ := h
      have hr : i ∈ Region.ready .any ops listed := by simpa using h3
      exact Zd ho (Region.noSelect_spec hs) hQ ((Zl hlast).2 i o ho he hno) hno _ listed a w hcl (Region.free_spec ho h4) hr hy hS (ZA hs hQ hlo l hl hlast t k _ _ w (hcl.set hr) h2 hS h5.2)
  | .d1 i t, k + 1, listed, a, w, hcl, hB, hS, h => by
    simp only [Va, Bool.and_eq_true, decide_eq_true_eq] at hB
    obtain ⟨⟨⟨h0, h1⟩, h3⟩, h2⟩ := hB
    obtain ⟨o, ho⟩ := Option.isSome_iff_exists.1 h1
    unfold Xk at h
    rw [YC hl ho] at h
    rw [Nat.add_right_comm]
    refine ⟨fun h0 => (by rw [h3] at h0; cases h0), fun j hj => ?_⟩
    have hj' := hj
    rw [h3] at hj
    obtain rfl : j = i := by simpa using hj
    exact O5 ho h fun a w ⟨hS', h'⟩ => ⟨hS', ZA hs hQ hlo l hl hlast t k _ a w (hcl.set hj') h2 hS' h'⟩
  | .d2 i t j u, k + 1, listed, a, w, hcl, hB, hS, h => by
    simp only [Va, Bool.and_eq_true] at hB
    obtain ⟨⟨⟨⟨⟨⟨⟨b1, b2⟩, b3⟩, b4⟩, b5⟩, b6⟩, b7⟩, b8⟩ := hB
    obtain ⟨o, ho⟩ := Option.isSome_iff_exists.1 b3
    obtain ⟨o', ho'⟩ := Option.isSome_iff_exists.1 b4
    unfold Xk at h
    rw [YC hl ho, YC hl ho'] at h
    rw [Nat.add_right_comm]
    refine ⟨fun h0 => (by rw [h0] at b6; cases b6), fun x hx => ?_⟩
    have h5 := List.all_eq_true.1 b5 x hx
    simp only [Bool.or_eq_true, beq_iff_eq] at h5
    rcases h5 with rfl | rfl
    · exact O5 ho h.1 fun a w ⟨hS', h'⟩ => ⟨hS', ZA hs hQ hlo l hl hlast t k _ a w (hcl.set hx) b7 hS' h'⟩
    · exact O5 ho' h.2 fun a w ⟨hS', h'⟩ => ⟨hS', ZA hs hQ hlo l hl hlast u k _ a w (hcl.set hx) b8 hS' h'⟩
structure VV (P : Program) (n : Shp) (B : Nat) (w0 : World) (ops : Array Oper) (l : List Oper) (Q : Exit → Act → World → Prop) (t : OV) (env : Env) (H F : List HP) : Prop where
  run : ∀ a, Fits n a env → ∀ w, St B w0 (H ++ F) w → Xk P ops l Q (St B w0 H) t a w
def JS (P : Program) (B : Nat) (w0 : World) (ops : Array Oper) (l : List Oper) (Q : Exit → Act → World → Prop) (Hc : List HP) (t : OV) : Exit → Act → World → Prop
  | .normal, a, w => St B w0 Hc w ∧ Xk P ops l Q (St B w0 Hc) t a w
  | _, _, _ => False
theorem Yft {l : List Oper} {t : OV} : JS P B w0 ops l Q H t = fun e a w => match e with | .normal => St B w0 H w ∧ Xk P ops l Q (St B w0 H) t a w | _ => False := by
  funext e a w
  cases e <;> rfl
theorem YdP {l : List Oper} {t : OV} {o : Oper} {a : Act} {w : World} (h : wpList P ops (JS P B w0 ops l Q H t) [o] a w) : wpD P ops (fun a w => St B w0 H w ∧ Xk P ops l Q (St B w0 H) t a w) o a w := by
  have hno : ¬ LetsOut (JS P B w0 ops l Q H t) := by rintro ⟨_, _, h⟩; exact h
  unfold wpList at h
  unfold wpD
  by_cases hw : Region.wanted o (yielded ops a.tmps) = true
  · rw [if_pos hw] at h ⊢
    rcases h with h | ⟨_, h⟩
    · exact Oper.wp_mono_noQ (fun _ _ _ h => h) hno (Oper.wp_mono (fun a' w' h' => h') h)
    · exact (hno h).elim
  · rw [if_neg hw] at h ⊢
    exact h
theorem Yhd {l : List Oper} {F HF : List HP} (happ : App H F HF) (h : VQ n B w0 Q .normal env HF) : VV P n B w0 ops l Q .done env H F :=
  ⟨fun a ha w hw => by rw [← JA happ] at hw; exact h.run a w ha hw⟩
theorem YiD {l : List Oper} {F : List HP} {i : Nat} {t : OV} {o : Oper} (ho : nthO l i = o) (h : VL P (some (some F)) n B w0 ops (JS P B w0 ops l Q H t) [o] env H) : VV P n B w0 ops l Q (.p1 i t) env H F := by
  refine ⟨fun a ha w hw => ?_⟩
  have h1 : Ys P ops (JS P B w0 ops l Q H t) (St B w0 H) [o] a w := h.run a ha w hw
  unfold Xk
  rw [ho, ← Yft]
  exact h1
theorem YiB {l : List Oper} {F HF : List HP} {i : Nat} {t : OV} {o : Oper} (ho : nthO l i = o) (happ : App H F HF) (h : VL P none n B w0 ops (JS P B w0 ops l Q H t) [o] env HF) : VV P n B w0 ops l Q (.d1 i t) env H F := by
  refine ⟨fun a ha w hw => ?_⟩
  unfold Xk
  rw [ho]
  rw [← JA happ] at hw
  exact YdP (h.run a ha w hw)
theorem YiC {l : List Oper} {F HF : List HP} {i j : Nat} {t u : OV} {o o' : Oper} (ho : nthO l i = o) (ho' : nthO l j = o') (happ : App H F HF) (h : VL P none n B w0 ops (JS P B w0 ops l Q H t) [o] env HF)
    (h' : VL P none n B w0 ops (JS P B w0 ops l Q H u) [o'] env HF) : VV P n B w0 ops l Q (.d2 i t j u) env H F := by
  refine ⟨fun a ha w hw => ?_⟩
  unfold Xk
  rw [ho, ho']
  rw [← JA happ] at hw
  exact ⟨YdP (h.run a ha w hw), YdP (h'.run a ha w hw)⟩
theorem YfV {l : List Oper} {F H' Hc : List HP} {t : OV} (hp : Pull Hc H' F) (h : VV P n B w0 ops l Q t env Hc F) : VQ n B w0 (JS P B w0 ops l Q Hc t) .normal env H' :=
  ⟨fun a w ha hw => ⟨(hw.perm hp).prefix_, h.run a ha w (hw.perm hp)⟩⟩
theorem YfE {id : Nat} {l : List Oper} (t : OV) (last : List Nat) (mask : List Bool) {Hc F : List HP} (hm : P.follows .mixedOrders = true)
    (hB : (Region.noSelect l.toArray && decide (last.length ≤ l.toArray.size) && Qq l.toArray last && Va l.toArray last t (Array.replicate l.toArray.size false) (l.toArray.size - last.length)) = true)
    (hsp : Split mask H Hc F) {l2 : List Oper} (hl2 : Yj l last = l2) (h : VV P n B w0 l.toArray l (XH P l.toArray (Only Q) l2) t env Hc F) : VC P n B w0 (.region id l.toArray true) Q env H := by
  simp only [Bool.and_eq_true, decide_eq_true_eq] at hB
  obtain ⟨⟨⟨h1, h2⟩, h3⟩, h5⟩ := hB
  refine ⟨fun a w ha hw => Ze (Q := Only Q) ?_ fun e a w h => by cases e <;> first | exact h | cases h⟩
  have hst : St B w0 (Hc ++ F) w.drew := (hw.perm (Y5 hsp)).drew
  have hr := h.run a ha w.drew hst
  rw [← hl2] at hr
  have := ZA (S := St B w0 Hc) h1 (fun c a w h => h) (by rintro ⟨_, _, h⟩; exact h) l rfl h3 t _ _ a w.drew (Xq _ _) h5 hst.prefix_ hr
  rw [Nat.sub_add_cancel h2] at this
  exact Jz hm (XG _ _ _ _ this)
end
open Go.RowKit
section
variable {P : Program} {B : Nat} {w0 : World} {Q : Exit → Act → World → Prop} {env : Env} {H : List HP} {k : Nat}
def YQr (P : Program) (r : Nat) (ops : Array Oper) (Q : Exit → Act → World → Prop) (l : List Oper) : Exit → Act → World → Prop
  | .normal, a, w => wpListIn (Fence.wide.inRound r) 0 P ops Q l a w
  | e, a, w => Q e a w
theorem Wo {r : Nat} {ops : Array Oper} {l : List Oper} (hlo : ¬ LetsOut Q) : ∀ (os : List Oper) (a : Act) (w : World), os.all Zv = true → wpList P ops (YQr P r ops Q l) os a w → wpListIn (Fence.wide.inRound r) 0 P ops Q (os ++ l) a w
  | [], _, _, _, h => h
  | o :: os, a, w, hc, h => by
    simp only [List.all_cons, Bool.and_eq_true] at hc
    unfold wpList at h
    rw [List.cons_append]
    unfold wpListIn
    split
    · rename_i hw
      rw [if_pos hw] at h
      rcases h with h | ⟨_, h⟩
      · have h2 := Oper.wp_mono (fun a w h => Wo hlo os a w hc.2 h) h
        have hs : Oper.semAt (some r) a.eval o = execOp a.eval o := Oper.semAt_some r _ o fun c e => by
          have hp := hc.1
          unfold Zv at hp
          rw [e] at hp
          cases hp
        refine ⟨fun f _ => trivial, ?_⟩
        rw [Fence.inRound_round, hs]
        unfold Oper.wp at h2
        generalize (execOp a.eval o).run P w = res at h2 ⊢
        cases res with
        | ok x w' =>
          cases x <;> simp only [Oper.upon, Oper.uponIn] at h2 ⊢ <;> first
            | exact h2
            | (refine ⟨fun hd => by simp [Fence.wide] at hd, ?_⟩
               refine CallsIn.mono (CallsIn.inRound r (callsIn_wide.2 h2)) fun e w'' he => ?_
               cases e <;> exact he)
            | exact ⟨fun hd => by simp [Fence.wide] at hd, W0 h2⟩
            | exact h2.elim
        | halt x w' => cases x <;> simp only [Oper.upon, Oper.uponIn] at h2 ⊢ <;> first | exact h2 | exact h2.elim
      · exact (hlo h).elim
    · rename_i hw
      rw [if_neg hw] at h
      exact ⟨fun f _ => trivial, Wo hlo os _ w hc.2 h⟩
theorem YbO {n r : Nat} {ds : List Deferred} {id : Nat} {l : List Oper} (k : Nat) {l1 l2 : List Oper} (h1 : l.take k = l1) (h2 : l.drop k = l2) (h : VL P none ⟨n, ds, some r⟩ B w0 l.toArray (YQr P r l.toArray Q l2) l1 env H) :
    VC P ⟨n, ds, some r⟩ B w0 (.region id l.toArray false) Q env H := by
  refine ⟨fun a w ha hw => ?_⟩
  intro hlo hc
  refine wpIn_region_lit ?_
  have hc2 : l.all Zv = true := by simpa [calm] using hc
  have := Wo hlo _ _ _ (by rw [← h1]; exact List.all_eq_true.2 fun x hx => List.all_eq_true.1 hc2 x (List.mem_of_mem_take hx)) (h.run a ha w hw)
  rw [← h1, ← h2, List.take_append_drop] at this
  exact this
theorem YeA {n r : Nat} {ds : List Deferred} {ops : Array Oper} {d l : Nat} {x : Operand} {args : List Operand} {tys : Array TypeId} {ty : TypeId} {pos : String} {after : Array Edge} {gd : Option (Nat × Bool)} {vs : List Value} {rest : List Oper} (Φt Φf : List HP → Prop)
    (hgd : ∀ a : Act, Fits ⟨n, ds, none⟩ a env → Region.wanted ⟨some d, .call ⟨.value x, args.toArray, tys⟩, ty, pos, after, gd⟩ (yielded ops a.tmps) = true)
    (hx : evo env x = some (.func (.yield l) #[] #[])) (hargs : Args env args vs) (hn : Nat.ble (d + 1) n = true) (hlo : ¬ LetsOut Q) (hpl : rest.all Zv = true) (hy : OM P l vs B w0 H Φt Φf)
    (ht : ∀ K, Φt K → VL P none ⟨n, ds, some r⟩ B w0 ops Q rest ((d, .bool true) :: env) K)
    (hf : ∀ K, Φf K → VL P none ⟨n, ds, some r⟩ B w0 ops Q rest ((d, .bool false) :: env) K) :
    VQ ⟨n, ds, some r⟩ B w0 (YQr P r ops Q (⟨some d, .call ⟨.value x, args.toArray, tys⟩, ty, pos, after, gd⟩ :: rest)) .normal env H := by
  refine ⟨fun a w ha hw => ?_⟩
  show wpListIn (Fence.wide.inRound r) 0 P ops Q _ a w
  unfold wpListIn
  rw [if_pos (hgd a ⟨ha.defers, ha.size, ha.slot⟩)]
  refine ⟨fun f _ => trivial, ?_⟩
  obtain ⟨fn, tmps, assign, body, hrun, hround⟩ := hy w hw
  have hmap : args.toArray.map a.eval = vs.toArray := by rw [List.map_toArray, J3 ha _ _ hargs]
  have hs : Oper.semAt (some r) a.eval ⟨some d, .call ⟨.value x, args.toArray, tys⟩, ty, pos, after, gd⟩ = execOp a.eval ⟨some d, .call ⟨.value x, args.toArray, tys⟩, ty, pos, after, gd⟩ := Oper.semAt_some r _ _ fun c e => by cases e
  rw [Fence.inRound_round, hs]
  have hex : (execOp a.eval ⟨some d, .call ⟨.value x, args.toArray, tys⟩, ty, pos, after, gd⟩).run P w = .ok (.round l fn tmps assign body) w := by
    simp only [execOp, resolve, ha.eval hx, hmap, Deferred.ofValue, Sem.run_bind, Sem.run_pure, Result.andThen_ok, invoke]
    simpa using hrun
  rw [hex, Oper.uponIn_round]
  refine ⟨fun hd => by simp [Fence.wide] at hd, ?_⟩
  have hround2 : RoundIn (Fence.wide.inRound r) 0 P l fn tmps assign body w _ := hround
  refine RoundIn.mono hround2 ?_
  rintro e w' (⟨rfl, K', hΦ, hst⟩ | ⟨rfl, K', hΦ, hst⟩)
  · exact JO hlo _ _ _ hpl ((ht K' hΦ).run _ (ha.put (Nat.le_of_ble_eq_true hn) _) _ hst)
  · exact JO hlo _ _ _ hpl ((hf K' hΦ).run _ (ha.put (Nat.le_of_ble_eq_true hn) _) _ hst)
end
theorem St.inM {B : Nat} {w0 w : World} {H K : List HP} (hw : St B w0 K w) (hm : Eng.many H ∈ K) : St B w0 H w := by
  obtain ⟨S, h1, h2⟩ := hw.at_ hm
  exact ⟨hw.below, hw.le, JQ h2 h1⟩
theorem Rd.inM {B : Nat} {w0 : World} {H K : List HP} {A : Option Addr} {xs : List Value} (h : Rd B w0 H A xs) (hm : Eng.many H ∈ K) : Rd B w0 K A xs := h.mono fun _ hw => hw.inM hm
theorem Rd.many {B : Nat} {w0 : World} {H L : List HP} {A : Option Addr} {xs : List Value} {e size k cap : Nat} (hX : many L ∈ H) (hm : Eng.sl e size A k cap xs ∈ L) : Rd B w0 H A xs := fun w hw j v hv => by
  obtain ⟨S, _, h2⟩ := hw.at_ hX
  obtain ⟨S', _, h3, _⟩ := Yep hm h2
  obtain ⟨g, e1, hc, _⟩ := OB h3 hv
  exact ⟨g, 0, e1, by rw [Nat.zero_add]; exact hc⟩
open Go.RowKit
def subL (i k : Nat) (l : List Value) : List Value := (l.drop i).take k
section
variable {P : Program} {B : Nat} {w0 : World} {Q : Exit → Act → World → Prop} {env : Env} {H : List HP} {m : Mode} {n : Shp} {ops : Array Oper} {rest : List Oper} {d : Nat} {ty : TypeId} {pos : String} {after : Array Edge}
theorem Xd (T : Tab P) {t g i k : Nat} {cs : Array Value} {vs : List Value} {tt : TypeId} {fr : Nat × Nat} {x : Operand} (hx : evo env x = some (.pointer (some ⟨g, i, none⟩))) (hm : blk g (.cells cs tt fr) ∈ H)
    (ht : look T.ag t = some k) (hv : subL i k cs.toList = vs) (hk : Nat.beq vs.length k = true) (hn : Nat.ble (d + 1) n.k = true) (h : VL P m n B w0 ops Q rest ((d, .agg vs.toArray) :: env) H) :
    VL P m n B w0 ops Q (⟨some d, .load t x, ty, pos, after, none⟩ :: rest) env H := by
  refine YbX T hx hm ht (Nat.eq_of_beq_eq_true hk) (fun j v hj => ?_) hn h
  rw [← hv, subL, List.getElem?_take] at hj
  split at hj
  · rw [List.getElem?_drop] at hj
    simpa using hj
  · cases hj
end
def Ycg (l : List Oper) (k s : Nat) : Bool := match l[k]? with
  | some o => match o.op with
    | .call c => match c.callee with
      | .value (.tmp t) => Nat.beq t s
      | _ => false
    | _ => false
  | none => false
section
variable {P : Program} {B : Nat} {w0 : World} {Q : Exit → Act → World → Prop} {env : Env} {H : List HP}
theorem YbP {n : Nat} {ds : List Deferred} {id : Nat} {l : List Oper} (k s : Nat) {l1 l2 : List Oper} (_ho : Ycg l k s = true) (h1 : l.take k = l1) (h2 : l.drop k = l2) (hlo : ¬ LetsOut Q) (h : VL P none ⟨n, ds, none⟩ B w0 l.toArray (YQ P l.toArray Q l2) l1 env H) :
    VC P ⟨n, ds, none⟩ B w0 (.region id l.toArray false) Q env H := OE k h1 h2 hlo h
theorem Ya2 {n r : Nat} {ds : List Deferred} {id : Nat} {l : List Oper} (k s : Nat) {l1 l2 : List Oper} (_ho : Ycg l k s = true) (h1 : l.take k = l1) (h2 : l.drop k = l2) (h : VL P none ⟨n, ds, some r⟩ B w0 l.toArray (YQr P r l.toArray Q l2) l1 env H) :
    VC P ⟨n, ds, some r⟩ B w0 (.region id l.toArray false) Q env H := YbO k h1 h2 h
end
section
variable {P : Program} {B : Nat} {w0 : World} {env : Env} {H : List HP}
theorem Yet {n gf : Nat} {fn : Func} {c : Code} {lb : List Value} {xs : List (List Value)} {HI : List HP} (hf : P.funcs[gf]? = some fn) (hn : fn.ntmps = n) (hb : fn.body = some c) (hle : Nat.ble (lb.length + 1) n = true)
    (h : ∀ (l : Nat) (S : Nat → List HP → Prop) (X : List HP → Prop),
      (∀ (i : Nat) (args : List Value), xs[i]? = some args → ∀ (Y L : List HP), S i L →
        OM P l args B w0 (Y ++ many L :: HI) (fun K => ∃ L', S (i + 1) L' ∧ K = Y ++ many L' :: HI) (fun K => ∃ L', X L' ∧ K = Y ++ many L' :: HI)) →
      ∀ L0, S 0 L0 → VC P ⟨n, [], none⟩ B w0 c (bodyPostM Fence.wide 0 P fn (Post B w0 fun _ K => (∃ L, S xs.length L ∧ K = many L :: HI) ∨ ∃ L, X L ∧ K = many L :: HI)) (Vm 0 (.func (.yield l) #[] #[] :: lb)) (many L0 :: HI)) : Yaj P gf lb xs B w0 HI := by
  intro l S X hy L0 h0 w hw
  exact callsIn_wide.2 (XR (args := .func (.yield l) #[] #[] :: lb) hf hn hb hle hw (h l S X hy L0 h0))
theorem Yhb {n : Nat} {ds : List Deferred} {fn : Func} {R : Ending → World → Prop} (h : VQ ⟨n, ds, none⟩ B w0 (bodyPostM Fence.wide 0 P fn R) .ret env H) : VQ ⟨n, ds, none⟩ B w0 (bodyPostM Fence.wide 0 P fn R) .normal env H :=
  ⟨fun a w ha hw => h.run a w ha hw⟩
end
theorem Uy {P : Program} {B : Nat} {w0 : World} {env : Env} {H : List HP} {n : Nat} {fn : Func} {Φ : Value → List HP → Prop} {t u s r : Nat} {v x y z : Value} (hr : fn.results = #[.tmp t, .tmp u, .tmp s, .tmp r]) (hv : get env t = some v) (hx : get env u = some x) (hy : get env s = some y) (hz : get env r = some z) (h : Φ (.tuple #[v, x, y, z]) H) :
    VQ ⟨n, [], none⟩ B w0 (bodyPost P fn (Post B w0 Φ)) .ret env H :=
  ⟨fun a w ha hw => bodyPost_ret (v := .tuple #[v, x, y, z]) (by simp [results, hr, Array.getD_eq_getD_getElem?, ha.slot t v hv, ha.slot u x hx, ha.slot s y hy, ha.slot r z hz]) ha.defers ⟨_, H, rfl, hw, h⟩⟩
theorem Yfo {X : HP} {H : List HP} (h : X ∈ H) : ∃ R, Perm H [X, many R] ∧ Perm [X, many R] H := by
  obtain ⟨s, t, rfl⟩ := List.append_of_mem h
  exact ⟨s ++ t, (Perm.closeT _).trans (Perm.pull X s t []), (Perm.push X s t []).trans (Perm.openT _)⟩
end Go.Eng
namespace Go.Proofs.YtmalhidldgfeoaaGreatDoor
open Go.RowKit Go.Eng Go.Nw
theorem Ygf {l : List Flw} {id : Int} (h : 0 ≤ JJ l id) : ∃ f ∈ l, f.1 = id := by
  unfold JJ at h
  have := (JZ (fun f : Flw => decide (f.1 = id)) l 0 (Int.le_refl _)).1 h
  obtain ⟨f, hf, hp⟩ := List.any_eq_true.1 this
  exact ⟨f, hf, of_decide_eq_true hp⟩
theorem YaD {nodes : Int} {l : List Flw} (h : (YV nodes l).2 = 0) : ∀ f ∈ l, 0 ≤ f.1 ∧ f.1 ≤ 255 ∧ 1 ≤ f.2.2.2.1 ∧ f.2.2.2.1 ≤ 512 := by
  intro f hf
  obtain ⟨i, hi⟩ := List.mem_iff_getElem?.1 hf
  have hl := (List.getElem?_eq_some_iff.1 hi).1
  unfold YV at h
  split at h
  · cases h
  split at h
  · cases h
  have := XM.1 h i (Nat.zero_le _) (by omega)
  unfold YS at this
  have e : ZJ l i = f := by unfold ZJ; rw [List.getD_eq_getElem?_getD, hi]; rfl
  rw [e] at this
  split at this
  · rename_i h1; exact absurd this h1
  · rename_i h1
    have h2 : XW nodes f = 0 := Decidable.not_not.1 h1
    unfold XW at h2
    split at h2
    · cases h2
    split at h2
    · cases h2
    omega
structure Val (n : Net) (l : List Flw) (s : Sch) : Prop where
  whole : Zr n l s = 0
  cells : (JB n l s).2 = 0
  twice : (VO s).2 = 0
  dist : (Yar n s).2 = 0
theorem YgR {n : Net} {l : List Flw} {s : Sch} (h : Zr n l s = 0) : YA n = 0 ∧ (YV n.nodes l).2 = 0 ∧ Jg s = true ∧ (∀ f ∈ l, s.len.tmod f.2.2.2.1 = 0) ∧ s.cells.length ≤ 512 := by
  unfold Zr at h
  by_cases h1 : YA n = 0
  rotate_left
  · rw [if_pos h1] at h; cases h
  rw [if_neg (fun e => e h1)] at h
  by_cases h2 : (YV n.nodes l).2 = 0
  rotate_left
  · rw [if_pos h2] at h; cases h
  rw [if_neg (fun e => e h2)] at h
  cases h3 : Jg s with
  | false => rw [h3, if_pos rfl] at h; cases h
  | true =>
    rw [h3, if_neg (by decide)] at h
    split at h
    · cases h
    rename_i h4
    split at h
    · cases h
    refine ⟨h1, h2, rfl, fun f hf => ?_, by omega⟩
    have := List.any_eq_false.1 (Bool.eq_false_iff.2 h4) f hf
    simpa using this
theorem Val.frm {n : Net} {l : List Flw} {s : Sch} (h : Val n l s) : Frm s := by
  obtain ⟨h1, h2, h3, h4, h5⟩ := YgR h.whole
  have hok := Xa h1
  have k1 := XM.1 h.cells
  have hids := YaD h2
  have hn := hok.n1
  have hcell : ∀ i, i < s.cells.length → X8 s (Ym s i) = true ∧ YY n (YR (Ym s i)) (toC (Ym s i)) = true ∧ 0 ≤ JJ l (UL (Ym s i)) ∧ (0 < i → ZG (Ym s (i - 1)) (Ym s i) = true) := fun i hi => by
    have := k1 i (Nat.zero_le _) (by omega)
    unfold Vd at this
    cases hp : X8 s (Ym s i) with
    | false => rw [hp, if_pos rfl] at this; cases this
    | true =>
      rw [hp, if_neg (by decide)] at this
      split at this
      · cases this
      rename_i h6
      split at this
      · cases this
      rename_i h7
      refine ⟨rfl, ?_, ?_, fun h0 => ?_⟩
      · cases hg : YY n (YR (Ym s i)) (toC (Ym s i)) with
        | true => rfl
        | false => exact absurd (.inl hg) h6
      · exact Int.not_lt.1 fun hlt => h6 (.inr hlt)
      · cases hc : ZG (Ym s (i - 1)) (Ym s i) with
        | true => rfl
        | false => exact absurd ⟨h0, hc⟩ h7
  refine ⟨h3, h5, fun c hc => ?_, ?_⟩
  · obtain ⟨i, hi⟩ := List.mem_iff_getElem?.1 hc
    obtain ⟨a1, a2, a3, _⟩ := hcell i (List.getElem?_eq_some_iff.1 hi).1
    rw [Zj hi] at a1 a2 a3
    have hg := Ul hok a2
    obtain ⟨f, hf, hfe⟩ := Ygf a3
    have hid := hids f hf
    unfold YR toC UL at *
    unfold Jt insE
    rw [a1, decide_eq_true (by omega), decide_eq_true (by omega), decide_eq_true (by omega)]
    rfl
  · refine UV (lt := ZG) (fun h1 h2 => Yap h1 h2) fun i a b ha hb => ?_
    have := (hcell (i + 1) (List.getElem?_eq_some_iff.1 hb).1).2.2.2 (by omega)
    rw [Nat.add_sub_cancel, Zj ha, Zj hb] at this
    exact this
open Go.RowKit Go.Eng Go.Nw
def cpN (n : Net) (node : Int) (d : Cel) : Int := powN n (YR d) node + powN n (toC d) node
def sumC (n : Net) (node : Int) (l : List Cel) : Int := (l.map (cpN n node)).sum
theorem Wv (n : Net) (node : Int) (d : Cel) (l : List Cel) : sumC n node (d :: l) = cpN n node d + sumC n node l := by unfold sumC; rw [List.map_cons, List.sum_cons]
theorem YgK {n : Net} (h : Ok n) (node : Int) {l m : List Cel} (hs : l.Sublist m) : sumC n node l ≤ sumC n node m := by
  induction hs with
  | slnil => exact Int.le_refl _
  | @cons l m d _ ih =>
    rw [Wv]
    have h1 := J6 h (YR d) node
    have h2 := J6 h (toC d) node
    unfold cpN
    omega
  | cons_cons d _ ih => rw [Wv, Wv]; omega
def O6 (n : Net) (l : List Cel) (c : Cel) (node : Int) : Int := sumC n node (l.filter fun d => Xc c d && decide (d ≠ c))
def We (n : Net) (l : List Cel) (c : Cel) : Bool := ZD n (mar n (YF n (YR c) (toC c)).toNat) (O6 n l c (toC c)) && ZD n (mar n (YF n (toC c) (YR c)).toNat) (O6 n l c (YR c))
structure Sem (n : Net) (l : List Flw) (s : Sch) : Prop where
  ck : YA n = 0
  fl : (YV n.nodes l).2 = 0
  per : ∀ f ∈ l, s.len.tmod f.2.2.2.1 = 0
  frm : Frm s
  good : ∀ c ∈ s.cells, YY n (YR c) (toC c) = true ∧ 0 ≤ JJ l (UL c)
  once : s.cells.Pairwise fun a b => a.1 = b.1 → VN a b = false
  clear : ∀ c ∈ s.cells, We n s.cells c = true
theorem Qh {n : Net} (h : Ok n) {s d e : Int} (he : e ≤ d) (hd : ZD n s d = true) : ZD n s e = true := by
  unfold ZD at hd ⊢
  have h1 := of_decide_eq_true hd
  have h2 := h.t0
  have h3 : n.thr * (n.noise + e) ≤ n.thr * (n.noise + d) := Int.mul_le_mul_of_nonneg_left (by omega) (by omega)
  exact decide_eq_true (by omega)
theorem Sem.sub {n : Net} {l : List Flw} {s t : Sch} (h : Sem n l s) (h1 : t.len = s.len) (h2 : t.off = s.off) (hs : t.cells.Sublist s.cells) : Sem n l t := by
  have hok := Xa h.ck
  have hlen := hs.length_le
  have hfew := h.frm.few
  refine ⟨h.ck, h.fl, by rw [h1]; exact h.per, ⟨?_, by omega, fun c hc => ?_, h.frm.ord.sublist hs⟩, fun c hc => h.good c (hs.subset hc), h.once.sublist hs, fun c hc => ?_⟩
  · have := h.frm.sized
    unfold Jg at this ⊢
    rw [h1, h2]; exact this
  · have := h.frm.formed c (hs.subset hc)
    unfold Jt X8 at this ⊢
    rw [h1, h2]; exact this
  · have := h.clear c (hs.subset hc)
    unfold We at this ⊢
    simp only [Bool.and_eq_true] at this ⊢
    have hd : ∀ node, O6 n t.cells c node ≤ O6 n s.cells c node := fun node => YgK hok node (hs.filter _)
    exact ⟨Qh hok (hd _) this.1, Qh hok (hd _) this.2⟩
open Go.RowKit Go.Eng Go.Nw
def Yfy (n : Net) (l : List Flw) (s : Sch) : Prop := ∀ c ∈ s.cells, YY n (YR c) (toC c) = true ∧ 0 ≤ JJ l (UL c)
def Yfz (s : Sch) : Prop := s.cells.Pairwise fun a b => a.1 = b.1 → VN a b = false
def Yde (n : Net) (s : Sch) : Prop := ∀ c ∈ s.cells, We n s.cells c = true
theorem YgA (s : Sch) (k : Nat) : repC s (k + 1) = repC s k ++ s.cells.map (movC ((k : Int) * s.len)) := by
  unfold repC
  rw [List.range_succ, List.flatMap_append]
  simp
theorem Oy {s : Sch} {k : Nat} {x : Cel} : x ∈ repC s k ↔ ∃ i, i < k ∧ ∃ c ∈ s.cells, x = movC ((i : Int) * s.len) c := by
  unfold repC
  simp only [List.mem_flatMap, List.mem_range, List.mem_map]
  constructor
  · rintro ⟨i, hi, c, hc, rfl⟩; exact ⟨i, hi, c, hc, rfl⟩
  · rintro ⟨i, hi, c, hc, rfl⟩; exact ⟨i, hi, c, hc, rfl⟩
theorem YcK {i j : Nat} {L : Int} (hL : 0 ≤ L) (h : i < j) : (i : Int) * L + L ≤ (j : Int) * L := by
  have h1 : ((i : Int) + 1) * L ≤ (j : Int) * L := Int.mul_le_mul_of_nonneg_right (by omega) hL
  rw [Int.add_mul] at h1
  omega
theorem Yeq {s : Sch} (hf : Frm s) {c : Cel} (hc : c ∈ s.cells) : 0 ≤ c.1 ∧ c.1 < s.len := by
  have := hf.formed c hc
  unfold Jt X8 insE at this
  simp only [Bool.and_eq_true, decide_eq_true_eq] at this
  exact this.1.1.1.1
theorem YaY {s : Sch} (hf : Frm s) {c d : Cel} (hc : c ∈ s.cells) (hd : d ∈ s.cells) {i j : Nat} (h : c.1 + (i : Int) * s.len = d.1 + (j : Int) * s.len) : i = j ∧ c.1 = d.1 := by
  have h1 := Yeq hf hc
  have h2 := Yeq hf hd
  rcases Nat.lt_trichotomy i j with h3 | h3 | h3
  · have := YcK (L := s.len) (by omega) h3; omega
  · subst h3; exact ⟨rfl, by omega⟩
  · have := YcK (L := s.len) (by omega) h3; omega
structure Rep (s t : Sch) (k : Nat) : Prop where
  k1 : 1 ≤ k
  frm : Frm s
  len : t.len = s.len * k
  off : t.off = s.off
  cells : t.cells = repC s k
  l512 : s.len * k ≤ 512
  c512 : s.cells.length * k ≤ 512
theorem QA {s : Sch} {p q : Cel → Bool} {j0 : Nat} (hq : ∀ d ∈ s.cells, p (movC ((j0 : Int) * s.len) d) = q d) : ∀ {m : Nat}, (∀ j, j < m → j ≠ j0 → ∀ d ∈ s.cells, p (movC ((j : Int) * s.len) d) = false) → (repC s m).filter p = if j0 < m then (s.cells.filter q).map (movC ((j0 : Int) * s.len)) else []
  | 0, _ => by simp [repC]
  | m + 1, h => by
    rw [YgA, List.filter_append, QA hq fun j hj => h j (by omega), List.filter_map]
    by_cases e : m = j0
    · subst e
      rw [if_neg (by omega), if_pos (by omega), List.nil_append]
      congr 1
      exact List.filter_congr fun d hd => hq d hd
    · have hz : s.cells.filter (p ∘ movC ((m : Int) * s.len)) = [] := by
        rw [List.filter_eq_nil_iff]
        intro d hd
        show ¬ p (movC ((m : Int) * s.len) d) = true
        rw [h m (by omega) e d hd]; simp
      rw [hz, List.map_nil, List.append_nil]
      by_cases h2 : j0 < m
      · rw [if_pos h2, if_pos (by omega)]
      · rw [if_neg h2, if_neg (by omega)]
theorem Yhw (n : Net) (node d : Int) (l : List Cel) : sumC n node (l.map (movC d)) = sumC n node l := by
  unfold sumC
  rw [List.map_map]
  rfl
theorem Rep.dist {s t : Sch} {k : Nat} (h : Rep s t k) (n : Net) {i : Nat} (hi : i < k) {c : Cel} (hc : c ∈ s.cells) (node : Int) : O6 n t.cells (movC ((i : Int) * s.len) c) node = O6 n s.cells c node := by
  unfold O6
  rw [h.cells, QA (j0 := i) (q := fun d => Xc c d && decide (d ≠ c)), if_pos hi, Yhw]
  · intro d hd
    have h2 : (movC ((i : Int) * s.len) d ≠ movC ((i : Int) * s.len) c) ↔ d ≠ c := by
      constructor
      · intro h3 e; subst e; exact h3 rfl
      · intro h3 e
        apply h3
        obtain ⟨d1, d2⟩ := d
        obtain ⟨c1, c2⟩ := c
        unfold movC at e
        injection e with e1 e2
        simp only at e1 e2
        subst e2
        have : d1 = c1 := by omega
        rw [this]
    show (Xc _ _ && decide _) = (Xc _ _ && decide _)
    rw [decide_eq_decide.2 h2]
    congr 1
    unfold Xc movC
    rw [decide_eq_decide]
    simp only
    omega
  · intro j hj hne d hd
    have : Xc (movC ((i : Int) * s.len) c) (movC ((j : Int) * s.len) d) = false := by
      unfold Xc movC
      refine decide_eq_false ?_
      rintro ⟨h3, _⟩
      exact hne (YaY h.frm hd hc h3).1
    rw [this]; rfl
theorem Rep.good {s t : Sch} {k : Nat} (h : Rep s t k) (n : Net) (l : List Flw) : Yfy n l t ↔ Yfy n l s := by
  unfold Yfy
  rw [h.cells]
  constructor
  · intro hg c hc
    exact hg (movC (((0 : Nat) : Int) * s.len) c) (Oy.2 ⟨0, h.k1, c, hc, rfl⟩)
  · intro hg x hx
    obtain ⟨i, _, c, hc, rfl⟩ := Oy.1 hx
    exact hg c hc
theorem Rep.once {s t : Sch} {k : Nat} (h : Rep s t k) : Yfz t ↔ Yfz s := by
  unfold Yfz
  rw [h.cells]
  unfold repC
  rw [List.pairwise_flatMap]
  constructor
  · rintro ⟨h1, _⟩
    have := h1 0 (List.mem_range.2 h.k1)
    rw [List.pairwise_map] at this
    exact this.imp fun {a b} hab e => hab (by simp only [movC]; omega)
  · intro ho
    refine ⟨fun i _ => ?_, ?_⟩
    · rw [List.pairwise_map]
      exact ho.imp fun {a b} hab e => hab (by simp only [movC] at e; omega)
    · refine List.pairwise_lt_range.imp fun {i j} hij x hx y hy e => ?_
      obtain ⟨a, ha, rfl⟩ := List.mem_map.1 hx
      obtain ⟨b, hb, rfl⟩ := List.mem_map.1 hy
      have := (YaY h.frm ha hb e).1
      omega
theorem Rep.clear {s t : Sch} {k : Nat} (h : Rep s t k) (n : Net) : Yde n t ↔ Yde n s := by
  have hc : ∀ i, i < k → ∀ c ∈ s.cells, We n t.cells (movC ((i : Int) * s.len) c) = We n s.cells c := fun i hi c hc => by
    unfold We
    have e1 : YR (movC ((i : Int) * s.len) c) = YR c := rfl
    have e2 : toC (movC ((i : Int) * s.len) c) = toC c := rfl
    rw [e1, e2, h.dist n hi hc, h.dist n hi hc]
  unfold Yde
  constructor
  · intro hg c hcm
    rw [← hc 0 h.k1 c hcm]
    exact hg _ (by rw [h.cells]; exact Oy.2 ⟨0, h.k1, c, hcm, rfl⟩)
  · intro hg x hx
    rw [h.cells] at hx
    obtain ⟨i, hi, c, hcm, rfl⟩ := Oy.1 hx
    rw [hc i hi c hcm]
    exact hg c hcm
end Go.Proofs.YtmalhidldgfeoaaGreatDoor
namespace Go.Proofs
open Go.Shelf
def Tryz.lays169_ren : Go.Shelf.Ren := ⟨fun | 169 => 78 | n => n, fun | 70 => 129 | 9 => 9 | 0 => 0 | 72 => 132 | 37 => 130 | 127 => 207 | 3 => 3 | 5 => 5 | n => n, fun | n => n⟩
theorem Tryz.lays169 : Go.Proofs.Lays.n169 Tryz.prog Tryz.lays169_ren := {
  mixed := by kernel_rfl
  f169 := Tryz.func78.trans (congrArg some (by kernel_rfl))
  t0 := Tryz.underlying0
  a0 := Tryz.isAgg0
  z0 := Tryz.sizeOf0
  v0 := Tryz.zeroValue0
  t3 := Tryz.underlying3
  a3 := Tryz.isAgg3
  z3 := Tryz.sizeOf3
  v3 := Tryz.zeroValue3
  t9 := Tryz.underlying9
  a9 := Tryz.isAgg9
  z9 := Tryz.sizeOf9
  v9 := Tryz.zeroValue9
  t37 := Tryz.underlying130
  a37 := Tryz.isAgg130
  z37 := Tryz.sizeOf130
  v37 := Tryz.zeroValue130
  t70 := Tryz.underlying129
  a70 := Tryz.isAgg129
  z70 := Tryz.sizeOf129
  v70 := Tryz.zeroValue129
  t72 := Tryz.underlying132
  a72 := Tryz.isAgg132
  z72 := Tryz.sizeOf132
  v72 := Tryz.zeroValue132
  t127 := Tryz.underlying207
  a127 := Tryz.isAgg207
  z127 := Tryz.sizeOf207
  v127 := Tryz.zeroValue207 }
theorem Tryz.Builder_Extra_169 : Builder.Extra Tryz.prog Tryz.lays169_ren := {
  sizeBuilder := by kernel_rfl
  liesBuilder := by kernel_rfl
  t5 := Tryz.underlying5
  a5 := Tryz.isAgg5
  z5 := Tryz.sizeOf5
  v5 := Tryz.zeroValue5
  infoByte := by kernel_rfl
  cellsByte := by kernel_rfl
  sizeByte := by kernel_rfl
  neB5 := by decide }
open Go.RowKit in
theorem Tryz.Builder_String_any (B b : Nat) (l : List UInt8) (w : World) (h : Lib.IsBuilder 132 5 B b (Lib.byteCells l) w) (hBw : B ≤ w.heap.size) :
    Calls Tryz.prog 78 #[.pointer (some ⟨b, 0, none⟩)] w fun e w' => e = .returned (.string ⟨l.toArray⟩) ∧ Below B w w' := Any.Builder_String_any Tryz.lays169 Tryz.Builder_Extra_169 B b l w h hBw
def Tryz.laysM171_ren : Go.Shelf.Ren := ⟨fun | 171 => 137 | 243 => 197 | 246 => 239 | 283 => 275 | 284 => 276 | 285 => 277 | 286 => 278 | 129 => 224 | 317 => 295 | 318 => 296 | 319 => 297 | 320 => 298 | 337 => 304 | 338 => 305 | n => n, fun | 3 => 3 | 9 => 9 | 2 => 2 | 4 => 4 | 171 => 315 | 0 => 0 | 53 => 277 | 37 => 130 | 5 => 5 | 173 => 317 | 212 => 334 | 51 => 275 | 20 => 20 | 213 => 335 | 46 => 197 | 232 => 347 | 233 => 348 | n => n, fun | 17 => 3 | 18 => 6 | 19 => 7 | n => n⟩
theorem Tryz.laysM171 : Go.Proofs.LaysM.n171 Tryz.prog Tryz.laysM171_ren := {
  mixed := by kernel_rfl
  f129 := Tryz.func224.trans (congrArg some (by kernel_rfl))
  f171 := Tryz.func137.trans (congrArg some (by kernel_rfl))
  f243 := Tryz.func197.trans (congrArg some (by kernel_rfl))
  f246 := Tryz.func239.trans (congrArg some (by kernel_rfl))
  f283 := Tryz.func275.trans (congrArg some (by kernel_rfl))
  f284 := Tryz.func276.trans (congrArg some (by kernel_rfl))
  f285 := Tryz.func277.trans (congrArg some (by kernel_rfl))
  f286 := Tryz.func278.trans (congrArg some (by kernel_rfl))
  f317 := Tryz.func295.trans (congrArg some (by kernel_rfl))
  f318 := Tryz.func296.trans (congrArg some (by kernel_rfl))
  f319 := Tryz.func297.trans (congrArg some (by kernel_rfl))
  f320 := Tryz.func298.trans (congrArg some (by kernel_rfl))
  f337 := Tryz.func304.trans (congrArg some (by kernel_rfl))
  f338 := Tryz.func305.trans (congrArg some (by kernel_rfl))
  t0 := Tryz.underlying0
  a0 := Tryz.isAgg0
  z0 := Tryz.sizeOf0
  v0 := Tryz.zeroValue0
  t2 := Tryz.underlying2
  a2 := Tryz.isAgg2
  z2 := Tryz.sizeOf2
  v2 := Tryz.zeroValue2
  t3 := Tryz.underlying3
  a3 := Tryz.isAgg3
  z3 := Tryz.sizeOf3
  v3 := Tryz.zeroValue3
  t4 := Tryz.underlying4
  a4 := Tryz.isAgg4
  z4 := Tryz.sizeOf4
  v4 := Tryz.zeroValue4
  t5 := Tryz.underlying5
  a5 := Tryz.isAgg5
  z5 := Tryz.sizeOf5
  v5 := Tryz.zeroValue5
  t9 := Tryz.underlying9
  a9 := Tryz.isAgg9
  z9 := Tryz.sizeOf9
  v9 := Tryz.zeroValue9
  t20 := Tryz.underlying20
  a20 := Tryz.isAgg20
  z20 := Tryz.sizeOf20
  v20 := Tryz.zeroValue20
  t37 := Tryz.underlying130
  a37 := Tryz.isAgg130
  z37 := Tryz.sizeOf130
  v37 := Tryz.zeroValue130
  t46 := Tryz.underlying197
  a46 := Tryz.isAgg197
  z46 := Tryz.sizeOf197
  v46 := Tryz.zeroValue197
  t51 := Tryz.underlying275
  a51 := Tryz.isAgg275
  z51 := Tryz.sizeOf275
  v51 := Tryz.zeroValue275
  t53 := Tryz.underlying277
  a53 := Tryz.isAgg277
  z53 := Tryz.sizeOf277
  v53 := Tryz.zeroValue277
  t171 := Tryz.underlying315
  a171 := Tryz.isAgg315
  z171 := Tryz.sizeOf315
  v171 := Tryz.zeroValue315
  t173 := Tryz.underlying317
  a173 := Tryz.isAgg317
  z173 := Tryz.sizeOf317
  v173 := Tryz.zeroValue317
  t212 := Tryz.underlying334
  a212 := Tryz.isAgg334
  z212 := Tryz.sizeOf334
  v212 := Tryz.zeroValue334
  t213 := Tryz.underlying335
  a213 := Tryz.isAgg335
  z213 := Tryz.sizeOf335
  t232 := Tryz.underlying347
  a232 := Tryz.isAgg347
  z232 := Tryz.sizeOf347
  v232 := Tryz.zeroValue347
  t233 := Tryz.underlying348
  a233 := Tryz.isAgg348
  z233 := Tryz.sizeOf348
  v233 := Tryz.zeroValue348
  g17 := by kernel_rfl
  g18 := by kernel_rfl
  g19 := by kernel_rfl
  i0 := by kernel_rfl
  i2 := by kernel_rfl
  i3 := by kernel_rfl
  i4 := by kernel_rfl
  i5 := by kernel_rfl
  i9 := by kernel_rfl
  i20 := by kernel_rfl
  i37 := by kernel_rfl
  i46 := by kernel_rfl
  i51 := by kernel_rfl
  i53 := by kernel_rfl
  i171 := by kernel_rfl
  i173 := by kernel_rfl
  i212 := by kernel_rfl
  i232 := by kernel_rfl
  i233 := by kernel_rfl
  m17 := by kernel_rfl
  m18 := by kernel_rfl
  m19 := by kernel_rfl }
open Go.RowKit Go.Sort Go.Lib in
theorem Tryz.strconv_Itoa (n : Int) (h0 : -9223372036854775808 ≤ n) (h1 : n ≤ 9223372036854775807) (w : World) (htab : Lib.TabIs Tryz.prog w "internal/strconv.uint64pow10" .u64 Lib.pow10Tab) :
    Calls Tryz.prog 137 #[.int .i64 n] w fun e w' => e = .returned (.string ⟨(Lib.itoa n).toArray⟩) ∧ ∃ k os, w' = grow (w.drewN k) os := Any.strconv_Itoa Tryz.laysM171 n h0 h1 w htab
def Tryz.laysC172_ren : Go.Shelf.Ren := ⟨fun | 172 => 159 | 244 => 225 | 245 => 226 | 247 => 266 | 279 => 267 | 280 => 268 | 281 => 269 | 282 => 270 | 287 => 292 | 316 => 293 | 171 => 137 | 205 => 294 | 321 => 302 | 322 => 303 | 243 => 197 | 246 => 239 | 283 => 275 | 284 => 276 | 285 => 277 | 286 => 278 | 129 => 224 | 317 => 295 | 318 => 296 | 319 => 297 | 320 => 298 | 337 => 304 | 338 => 305 | n => n, fun | 9 => 9 | 3 => 3 | 75 => 134 | 76 => 135 | 4 => 4 | 5 => 5 | 167 => 308 | 37 => 130 | 0 => 0 | 85 => 309 | 2 => 2 | 168 => 311 | 53 => 277 | 175 => 327 | 46 => 197 | 210 => 331 | 127 => 207 | 145 => 346 | 143 => 344 | 21 => 21 | 171 => 315 | 173 => 317 | 212 => 334 | 51 => 275 | 20 => 20 | 213 => 335 | 232 => 347 | 233 => 348 | 80 => 138 | n => n, fun | 15 => 1 | 16 => 2 | 17 => 3 | 18 => 6 | 19 => 7 | n => n⟩
theorem Tryz.laysC172 : Go.Proofs.LaysC.n172 Tryz.prog Tryz.laysC172_ren := {
  mixed := by kernel_rfl
  f129 := Tryz.func224.trans (congrArg some (by kernel_rfl))
  f171 := Tryz.func137.trans (congrArg some (by kernel_rfl))
  f172 := Tryz.func159.trans (congrArg some (by kernel_rfl))
  f205 := Tryz.func294.trans (congrArg some (by kernel_rfl))
  f243 := Tryz.func197.trans (congrArg some (by kernel_rfl))
  f244 := Tryz.func225.trans (congrArg some (by kernel_rfl))
  f245 := Tryz.func226.trans (congrArg some (by kernel_rfl))
  f246 := Tryz.func239.trans (congrArg some (by kernel_rfl))
  f247 := Tryz.func266.trans (congrArg some (by kernel_rfl))
  f279 := Tryz.func267.trans (congrArg some (by kernel_rfl))
  f280 := Tryz.func268.trans (congrArg some (by kernel_rfl))
  f281 := Tryz.func269.trans (congrArg some (by kernel_rfl))
  f282 := Tryz.func270.trans (congrArg some (by kernel_rfl))
  f283 := Tryz.func275.trans (congrArg some (by kernel_rfl))
  f284 := Tryz.func276.trans (congrArg some (by kernel_rfl))
  f285 := Tryz.func277.trans (congrArg some (by kernel_rfl))
  f286 := Tryz.func278.trans (congrArg some (by kernel_rfl))
  f287 := Tryz.func292.trans (congrArg some (by kernel_rfl))
  f316 := Tryz.func293.trans (congrArg some (by kernel_rfl))
  f317 := Tryz.func295.trans (congrArg some (by kernel_rfl))
  f318 := Tryz.func296.trans (congrArg some (by kernel_rfl))
  f319 := Tryz.func297.trans (congrArg some (by kernel_rfl))
  f320 := Tryz.func298.trans (congrArg some (by kernel_rfl))
  f321 := Tryz.func302.trans (congrArg some (by kernel_rfl))
  f322 := Tryz.func303.trans (congrArg some (by kernel_rfl))
  f337 := Tryz.func304.trans (congrArg some (by kernel_rfl))
  f338 := Tryz.func305.trans (congrArg some (by kernel_rfl))
  t0 := Tryz.underlying0
  a0 := Tryz.isAgg0
  z0 := Tryz.sizeOf0
  v0 := Tryz.zeroValue0
  t2 := Tryz.underlying2
  a2 := Tryz.isAgg2
  z2 := Tryz.sizeOf2
  v2 := Tryz.zeroValue2
  t3 := Tryz.underlying3
  a3 := Tryz.isAgg3
  z3 := Tryz.sizeOf3
  v3 := Tryz.zeroValue3
  t4 := Tryz.underlying4
  a4 := Tryz.isAgg4
  z4 := Tryz.sizeOf4
  v4 := Tryz.zeroValue4
  t5 := Tryz.underlying5
  a5 := Tryz.isAgg5
  z5 := Tryz.sizeOf5
  v5 := Tryz.zeroValue5
  t9 := Tryz.underlying9
  a9 := Tryz.isAgg9
  z9 := Tryz.sizeOf9
  v9 := Tryz.zeroValue9
  t20 := Tryz.underlying20
  a20 := Tryz.isAgg20
  z20 := Tryz.sizeOf20
  v20 := Tryz.zeroValue20
  t21 := Tryz.underlying21
  a21 := Tryz.isAgg21
  z21 := Tryz.sizeOf21
  v21 := Tryz.zeroValue21
  t37 := Tryz.underlying130
  a37 := Tryz.isAgg130
  z37 := Tryz.sizeOf130
  v37 := Tryz.zeroValue130
  t46 := Tryz.underlying197
  a46 := Tryz.isAgg197
  z46 := Tryz.sizeOf197
  v46 := Tryz.zeroValue197
  t51 := Tryz.underlying275
  a51 := Tryz.isAgg275
  z51 := Tryz.sizeOf275
  v51 := Tryz.zeroValue275
  t53 := Tryz.underlying277
  a53 := Tryz.isAgg277
  z53 := Tryz.sizeOf277
  v53 := Tryz.zeroValue277
  t75 := Tryz.underlying134
  a75 := Tryz.isAgg134
  z75 := Tryz.sizeOf134
  v75 := Tryz.zeroValue134
  t76 := Tryz.underlying135
  a76 := Tryz.isAgg135
  z76 := Tryz.sizeOf135
  v76 := Tryz.zeroValue135
  t85 := Tryz.underlying309
  a85 := Tryz.isAgg309
  z85 := Tryz.sizeOf309
  v85 := Tryz.zeroValue309
  t127 := Tryz.underlying207
  a127 := Tryz.isAgg207
  z127 := Tryz.sizeOf207
  v127 := Tryz.zeroValue207
  t143 := Tryz.underlying344
  a143 := Tryz.isAgg344
  z143 := Tryz.sizeOf344
  v143 := Tryz.zeroValue344
  t145 := Tryz.underlying346
  a145 := Tryz.isAgg346
  z145 := Tryz.sizeOf346
  v145 := Tryz.zeroValue346
  t167 := Tryz.underlying308
  a167 := Tryz.isAgg308
  z167 := Tryz.sizeOf308
  v167 := Tryz.zeroValue308
  t168 := Tryz.underlying311
  a168 := Tryz.isAgg311
  z168 := Tryz.sizeOf311
  v168 := Tryz.zeroValue311
  t171 := Tryz.underlying315
  a171 := Tryz.isAgg315
  z171 := Tryz.sizeOf315
  v171 := Tryz.zeroValue315
  t173 := Tryz.underlying317
  a173 := Tryz.isAgg317
  z173 := Tryz.sizeOf317
  v173 := Tryz.zeroValue317
  t175 := Tryz.underlying327
  a175 := Tryz.isAgg327
  z175 := Tryz.sizeOf327
  v175 := Tryz.zeroValue327
  t210 := Tryz.underlying331
  a210 := Tryz.isAgg331
  z210 := Tryz.sizeOf331
  v210 := Tryz.zeroValue331
  t212 := Tryz.underlying334
  a212 := Tryz.isAgg334
  z212 := Tryz.sizeOf334
  v212 := Tryz.zeroValue334
  t213 := Tryz.underlying335
  a213 := Tryz.isAgg335
  z213 := Tryz.sizeOf335
  t232 := Tryz.underlying347
  a232 := Tryz.isAgg347
  z232 := Tryz.sizeOf347
  v232 := Tryz.zeroValue347
  t233 := Tryz.underlying348
  a233 := Tryz.isAgg348
  z233 := Tryz.sizeOf348
  v233 := Tryz.zeroValue348
  g15 := by kernel_rfl
  g16 := by kernel_rfl
  g17 := by kernel_rfl
  g18 := by kernel_rfl
  g19 := by kernel_rfl
  t80 := Tryz.underlying138
  a80 := Tryz.isAgg138
  z80 := Tryz.sizeOf138
  v80 := Tryz.zeroValue138
  i0 := by kernel_rfl
  i2 := by kernel_rfl
  i3 := by kernel_rfl
  i4 := by kernel_rfl
  i5 := by kernel_rfl
  i9 := by kernel_rfl
  i20 := by kernel_rfl
  i21 := by kernel_rfl
  i37 := by kernel_rfl
  i46 := by kernel_rfl
  i51 := by kernel_rfl
  i53 := by kernel_rfl
  i75 := by kernel_rfl
  i76 := by kernel_rfl
  i80 := by kernel_rfl
  i85 := by kernel_rfl
  i127 := by kernel_rfl
  i143 := by kernel_rfl
  i145 := by kernel_rfl
  i167 := by kernel_rfl
  i168 := by kernel_rfl
  i171 := by kernel_rfl
  i173 := by kernel_rfl
  i175 := by kernel_rfl
  i210 := by kernel_rfl
  i212 := by kernel_rfl
  i232 := by kernel_rfl
  i233 := by kernel_rfl
  m15 := by kernel_rfl
  m16 := by kernel_rfl
  m17 := by kernel_rfl
  m18 := by kernel_rfl
  m19 := by kernel_rfl
  c0 := by kernel_rfl
  c2 := by kernel_rfl
  c3 := by kernel_rfl
  c4 := by kernel_rfl
  c5 := by kernel_rfl
  c9 := by kernel_rfl
  c20 := by kernel_rfl
  c21 := by kernel_rfl
  c37 := by kernel_rfl
  c46 := by kernel_rfl
  c51 := by kernel_rfl
  c53 := by kernel_rfl
  c75 := by kernel_rfl
  c76 := by kernel_rfl
  c80 := by kernel_rfl
  c85 := by kernel_rfl
  c127 := by kernel_rfl
  c143 := by kernel_rfl
  c145 := by kernel_rfl
  c167 := by kernel_rfl
  c168 := by kernel_rfl
  c171 := by kernel_rfl
  c173 := by kernel_rfl
  c175 := by kernel_rfl
  c210 := by kernel_rfl
  c212 := by kernel_rfl
  c213 := by kernel_rfl
  c232 := by kernel_rfl
  c233 := by kernel_rfl }
open Go.RowKit in
theorem Tryz.strconv_Atoi_ok (s : ByteArray) (hmax : s.size ≤ 9223372036854775806) (v : Int) (h : Lib.atoiAll s.data.toList = .ok v) (w : World) :
    Calls Tryz.prog 159 #[.string s] w fun e w' => e = .returned (.tuple #[.int .i64 v, .nilIface]) ∧ (w' = w ∨ ∃ t, w' = Lib.bytesWorld w 5 t) := Any.strconv_Atoi_ok Tryz.laysC172 s hmax v h w
open Go.RowKit in
theorem Tryz.strconv_Atoi_range_var (s : ByteArray) (hlim : s.size ≤ 281474976710656) (h : Lib.atoiAll s.data.toList = .range) (tp : TypeId) (p : Value) (w : World) (hvar : w.var? Tryz.prog "strconv.ErrRange" = some #[.iface tp p]) :
    Calls Tryz.prog 159 #[.string s] w fun e w' => ∃ N, e = .returned (.tuple #[.int .i64 (Lib.atoiSat s.data.toList), .iface 311 (.pointer (some ⟨N, 0, none⟩))]) ∧ w.heap.size ≤ N ∧ w'.heap[N]? = some (.cells #[.string ⟨#[65, 116, 111, 105]⟩, .string s, .iface tp p] 331 (0, 0)) ∧ Below w.heap.size w w' := Any.strconv_Atoi_range_var Tryz.laysC172 s hlim h tp p w hvar
def Tryz.lays146_ren : Go.Shelf.Ren := ⟨fun | 146 => 81 | 221 => 141 | 268 => 198 | 138 => 199 | 143 => 200 | 195 => 240 | 197 => 241 | 218 => 242 | 219 => 243 | 260 => 279 | 217 => 280 | 225 => 281 | 224 => 282 | 267 => 283 | 266 => 299 | 314 => 300 | n => n, fun | 9 => 9 | 31 => 140 | 3 => 3 | 4 => 4 | 0 => 0 | 105 => 286 | 21 => 21 | 5 => 5 | 46 => 197 | 119 => 336 | 139 => 339 | 138 => 338 | 146 => 340 | 51 => 275 | n => n, fun | 1 => 0 | 3 => 4 | 4 => 5 | n => n⟩
theorem Tryz.lays146 : Go.Proofs.Lays.n146 Tryz.prog Tryz.lays146_ren := {
  mixed := by kernel_rfl
  f138 := Tryz.func199.trans (congrArg some (by kernel_rfl))
  f143 := Tryz.func200.trans (congrArg some (by kernel_rfl))
  f146 := Tryz.func81.trans (congrArg some (by kernel_rfl))
  f195 := Tryz.func240.trans (congrArg some (by kernel_rfl))
  f197 := Tryz.func241.trans (congrArg some (by kernel_rfl))
  f217 := Tryz.func280.trans (congrArg some (by kernel_rfl))
  f218 := Tryz.func242.trans (congrArg some (by kernel_rfl))
  f219 := Tryz.func243.trans (congrArg some (by kernel_rfl))
  f221 := Tryz.func141.trans (congrArg some (by kernel_rfl))
  f224 := Tryz.func282.trans (congrArg some (by kernel_rfl))
  f225 := Tryz.func281.trans (congrArg some (by kernel_rfl))
  f260 := Tryz.func279.trans (congrArg some (by kernel_rfl))
  f266 := Tryz.func299.trans (congrArg some (by kernel_rfl))
  f267 := Tryz.func283.trans (congrArg some (by kernel_rfl))
  f268 := Tryz.func198.trans (congrArg some (by kernel_rfl))
  f314 := Tryz.func300.trans (congrArg some (by kernel_rfl))
  t0 := Tryz.underlying0
  a0 := Tryz.isAgg0
  z0 := Tryz.sizeOf0
  v0 := Tryz.zeroValue0
  t3 := Tryz.underlying3
  a3 := Tryz.isAgg3
  z3 := Tryz.sizeOf3
  v3 := Tryz.zeroValue3
  t4 := Tryz.underlying4
  a4 := Tryz.isAgg4
  z4 := Tryz.sizeOf4
  v4 := Tryz.zeroValue4
  t5 := Tryz.underlying5
  a5 := Tryz.isAgg5
  z5 := Tryz.sizeOf5
  v5 := Tryz.zeroValue5
  t9 := Tryz.underlying9
  a9 := Tryz.isAgg9
  z9 := Tryz.sizeOf9
  v9 := Tryz.zeroValue9
  t21 := Tryz.underlying21
  a21 := Tryz.isAgg21
  z21 := Tryz.sizeOf21
  v21 := Tryz.zeroValue21
  t31 := Tryz.underlying140
  a31 := Tryz.isAgg140
  z31 := Tryz.sizeOf140
  v31 := Tryz.zeroValue140
  t46 := Tryz.underlying197
  a46 := Tryz.isAgg197
  z46 := Tryz.sizeOf197
  v46 := Tryz.zeroValue197
  t51 := Tryz.underlying275
  a51 := Tryz.isAgg275
  z51 := Tryz.sizeOf275
  v51 := Tryz.zeroValue275
  t105 := Tryz.underlying286
  a105 := Tryz.isAgg286
  z105 := Tryz.sizeOf286
  v105 := Tryz.zeroValue286
  t119 := Tryz.underlying336
  a119 := Tryz.isAgg336
  z119 := Tryz.sizeOf336
  t138 := Tryz.underlying338
  a138 := Tryz.isAgg338
  z138 := Tryz.sizeOf338
  v138 := Tryz.zeroValue338
  t139 := Tryz.underlying339
  a139 := Tryz.isAgg339
  z139 := Tryz.sizeOf339
  v139 := Tryz.zeroValue339
  t146 := Tryz.underlying340
  a146 := Tryz.isAgg340
  z146 := Tryz.sizeOf340
  v146 := Tryz.zeroValue340
  g1 := by kernel_rfl
  g3 := by kernel_rfl
  g4 := by kernel_rfl }
open Go.RowKit Go.Lib in
theorem Tryz.strings_Split (s sep : ByteArray) (m : Int) (w : World) (hs : s.size < 4294967281) (hm : w.cell? ⟨0, 0, none⟩ = some (.int .i64 m)) (h1 : 1 ≤ sep.size) :
    Calls Tryz.prog 81 #[.string s, .string sep] w fun e w' =>
      e = .returned (.slice (some ⟨w.heap.size, 0, none⟩) (Lib.countB s sep + 1) (Lib.countB s sep + 1)) ∧ w' = w.alloc (.cells ((Lib.splitB sep 0 (Lib.countB s sep) s).map Value.string).toArray 9) := Any.strings_Split Tryz.lays146 (by kernel_rfl) s sep m w hs hm h1
end Go.Proofs
namespace Go.Proofs.YtmalhidldgfeoaaGreatDoor
open Go.RowKit Go.Eng Go.Nw
abbrev ints (A : Option Addr) (cap : Nat) (l : List Int) : HP := sl 3 1 A l.length cap (l.flatMap numF)
theorem ZX {l : List Int} {k : Nat} {a : Int} (h : l[k]? = some a) : l.take (k + 1) = l.take k ++ [a] := by rw [List.take_add_one, h]; rfl
open Go.RowKit Go.Eng Go.Nw
theorem NetM.In.mono {B : Nat} {w0 : World} {H K : List HP} {n : NetM} (h : n.In B w0 H) (hH : ∀ w, St B w0 K w → St B w0 H w) : n.In B w0 K :=
  ⟨h.pw.mono hH, fun r hr => (h.rw_ r hr).mono hH, h.lk.mono hH, h.mg.mono hH, h.s1, h.s2, h.s3, h.s4⟩
open Go.RowKit Go.Eng Go.Nw Go.Rt
theorem YbL {n : Net} (h : YA n = 0) (a b : Int) : VR n (ZE n a b) = YY n a b := by
  have hok := Xa h
  unfold VR ZE
  rw [if_neg (by simp [h]), decide_eq_true h, Bool.true_and]
  by_cases h1 : 0 ≤ YF n a b
  · have h2 := Js h1
    rw [decide_eq_true ⟨h1, by omega⟩, Bool.true_and, W9 hok h2]
    obtain ⟨e1, e2⟩ := UJ h1
    rw [e1, e2]
  · rw [decide_eq_false (fun h => h1 h.1), Bool.false_and]
    unfold YY
    rw [decide_eq_false h1, Bool.false_and]
def offE (n : Net) (a : Int) : Bool := decide (a < 0 ∨ n.nodes ≤ a)
def WQ (n : Net) (s t : Int) : Int := if YA n ≠ 0 then 1 else if offE n s = true ∨ offE n t = true ∨ s = t then 2 else 0
def QS (r : List Int) : Bool := (List.range r.length).any fun i => (r.take i).contains (r.getD i 0)
def VY (n : Net) (r : List Int) : Bool := (List.range (r.length - 1)).any fun i => !YY n (r.getD i 0) (r.getD (i + 1) 0)
def O9 (n : Net) (s t : Int) (r : List Int) : Int :=
  if r.length < 2 then 9 else if 9 < r.length then 8 else if r.any (offE n) = true then 2 else if r.getD 0 0 ≠ s ∨ r.getD (r.length - 1) 0 ≠ t then 11
  else if QS r = true then 6 else if VY n r = true then 17 else 0
def ZB (n : Net) (s t : Int) (r : List Int) : Int := if WQ n s t ≠ 0 then WQ n s t else O9 n s t r
theorem OO {p : Nat → Bool} {k : Nat} : (List.range (k + 1)).any p = ((List.range k).any p || p k) := by
  rw [List.range_succ, List.any_append]; simp
theorem Z7 {l : List Int} {i : Nat} (h : i < l.length) : l[i]? = some (l.getD i 0) := by
  rw [List.getD_eq_getElem?_getD, List.getElem?_eq_getElem h]; rfl
end Go.Proofs.YtmalhidldgfeoaaGreatDoor
