/- Walks: the reference's receiver: its memory; find. -/
import Derived.Test.YtfobgjhjigkigaaFw23
import Derived.Test.YtfobgjhjigkigaaFc2
namespace Go.Proofs.Ytfobgjhjigkigaa
open Go.RowKit Go.Eng Go.Nw

/-- A datagram of the reference: the program's, and where its rows lie. -/
structure Rx where
  d : Dg
  pA : Option Addr
  pcap : Nat
  hA : Option Addr
  hcap : Nat
def bitsL (bm c : Nat) : List Bool := (List.range c).map fun j => decide (bm / 2 ^ j % 2 = 1)
def boolF (b : Bool) : List Value := [.bool b]
def strF (s : ByteArray) : List Value := [.string s]
def pL (x : Rx) : List ByteArray := x.d.parts.take x.d.cnt.toNat
def hL (x : Rx) : List Bool := bitsL x.d.bm x.d.cnt.toNat
def rdF (x : Rx) : List Value := [.int .i64 x.d.tag, .int .i64 x.d.cnt, .int .i64 x.d.size, .int .i64 x.d.part, .int .i64 x.d.last, .slice x.pA (pL x).length x.pcap, .slice x.hA (hL x).length x.hcap]
def xrows (x : Rx) : HP := many [sl 9 1 x.pA (pL x).length x.pcap ((pL x).flatMap strF), sl 4 1 x.hA (hL x).length x.hcap ((hL x).flatMap boolF)]
abbrev xcells (hold time : Int) (A : Option Addr) (k cap : Nat) : Obj := .cells #[.int .i64 hold, .int .i64 time, .slice A k cap] 102 (0, 0)
def xpcs (rx : Nat) (hold time : Int) (A : Option Addr) (cap : Nat) (xs : List Rx) (H : List HP) : List HP := blk rx (xcells hold time A xs.length cap) :: sl 105 7 A xs.length cap (xs.flatMap rdF) :: many (xs.map xrows) :: H

theorem xfind_spec (rx : Nat) (hold time : Int) (A : Option Addr) (cap : Nat) (xs : List Rx) (tag : Int) (hl : xs.length ≤ 1000) {B : Nat} {w0 : World} {H : List HP} {w : World} (hw : St B w0 (xpcs rx hold time A cap xs H) w) :
    Calls Try.prog 59 [.pointer (some ⟨rx, 0, none⟩), .int .i64 tag].toArray w (Post B w0 fun v K => v = .int .i64 (idxFrom (fun x : Rx => x.d.tag == tag) xs 0) ∧ K = xpcs rx hold time A cap xs H) := by
  refine Calls_of_VC Try.func59 Try.ntmps59 rfl rfl hw ?_
  unfold xpcs
  repeat' (first | apply (zs2 ?_) | apply (zs65 ?_) | apply (zs68 ?_) | apply (zs69 ?_) | apply (zs70 ?_) | apply (zs73 ?_))
  refine VC_loop1 (fun (k : Nat) => [(5, .int .i64 k), (0, .pointer (some ⟨rx, 0, none⟩)), (1, .int .i64 tag)]) (fun _ => blk rx (xcells hold time A xs.length cap) :: sl 105 7 A xs.length cap (xs.flatMap rdF) :: many (xs.map xrows) :: H) (fun k => k ≤ xs.length ∧ idxFrom (fun x : Rx => x.d.tag == tag) xs 0 = idxFrom (fun x : Rx => x.d.tag == tag) (xs.drop k) k) (fun k => xs.length - k) 0 ⟨Nat.zero_le _, by simp⟩ ?_ (fun w hw => hw) ?_
  · (repeat (first | exact sub_nil _ | (apply sub_cons; first | exact rfl | exact congrArg (fun z : Int => some (Value.int .i64 z)) (by omega))))
  rintro k ⟨hk, hi⟩ K hK
  by_cases hlt : k < xs.length
  · obtain ⟨x, hx⟩ : ∃ x, xs[k]? = some x := ⟨_, List.getElem?_eq_getElem hlt⟩
    rw [idx_drop _ xs hx] at hi
    repeat' (first | apply (zs1 ?_) | apply (zs2 ?_) | apply (zs5 ?_) | (apply zg2; first | refine zs6 ?_ | refine zs58 ?_) | (apply zg3; first | refine zs7 ?_ | refine zs59 ?_) | (apply zg4; refine zs9 ?_) | (apply zg5; refine zs10 ?_) | (apply zg7; (refine zs15 ?_ ?_ <;> intro _ <;> try (exfalso; omega))) | (apply (zs17 ?_ ?_) <;> intro _ <;> try (exfalso; omega)) | (apply zg13; refine zs30 ?_) | apply (zs65 ?_) | apply (zs68 ?_) | apply (zs69 ?_) | apply (zs70 ?_) | (apply zg27; first | refine zs71 ?_ | refine zs72 ?_) | apply (zs73 ?_) | apply (zs74 ?_) | apply (zs76 ?_) | apply (zs77 ?_) | apply (zs78 ?_) | apply (zs79 ?_))
    · rename_i he
      apply VQ_ret1; exact rfl; exact rfl
      exact ⟨by rw [hi, if_pos (by simpa using he)], rfl⟩
    · rename_i he
      rw [if_neg (by simpa using he)] at hi
      apply hK (k + 1)
      · exact ⟨by omega, hi⟩
      · omega
      · (repeat (first | exact sub_nil _ | (apply sub_cons; first | exact rfl | exact congrArg (fun z : Int => some (Value.int .i64 z)) (by omega))))
      · exact fun w hw => hw
  · repeat' (first | apply (zs1 ?_) | apply (zs2 ?_) | apply (zs5 ?_) | (apply zg2; refine zs6 ?_) | (apply zg3; refine zs7 ?_) | (apply zg4; refine zs9 ?_) | (apply (zs17 ?_ ?_) <;> intro _ <;> try (exfalso; omega)) | apply (zs65 ?_) | apply (zs68 ?_) | apply (zs69 ?_) | apply (zs70 ?_) | (apply zg27; refine zs72 ?_) | apply (zs74 ?_) | apply (zs75 ?_) | apply (zs80 ?_) | apply (zs81 ?_))
    apply VQ_ret1; exact rfl; exact rfl
    rw [hi, List.drop_eq_nil_of_le (by omega)]
    exact ⟨rfl, rfl⟩
end Go.Proofs.Ytfobgjhjigkigaa
