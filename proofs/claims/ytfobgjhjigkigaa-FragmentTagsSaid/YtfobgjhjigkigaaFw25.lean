/- What the law FragmentTags does with a receiver: receipts of fragments of ten small datagrams. -/
import Derived.Test.YtfobgjhjigkigaaFw23
import Derived.Test.YtfobgjhjigkigaaWm
import Derived.Test.YtfobgjhjigkigaaFc2
namespace Go.Proofs.Ytfobgjhjigkigaa
open Go.RowKit Go.Eng

def sab2 : ByteArray := ⟨#[97, 98]⟩
def tdat (t : Int) : ByteArray := sab2 ++ Utf8.encode (97 + t)
theorem ten {t : Int} (h : 0 ≤ t ∧ t ≤ 9) : t = 0 ∨ t = 1 ∨ t = 2 ∨ t = 3 ∨ t = 4 ∨ t = 5 ∨ t = 6 ∨ t = 7 ∨ t = 8 ∨ t = 9 := by omega
theorem tdat_size {t : Int} (h : 0 ≤ t ∧ t ≤ 9) : (tdat t).size = 3 := by
  rcases ten h with rfl | rfl | rfl | rfl | rfl | rfl | rfl | rfl | rfl | rfl <;> decide
theorem tdat_err {t : Int} (h : 0 ≤ t ∧ t ≤ 9) : splitErr t (tdat t).size 2 = 0 := by
  rw [tdat_size h]
  rcases ten h with rfl | rfl | rfl | rfl | rfl | rfl | rfl | rfl | rfl | rfl <;> decide
theorem tdat_cnt {t : Int} (h : 0 ≤ t ∧ t ≤ 9) : splitCnt t (tdat t).size 2 = 2 := by
  rw [tdat_size h]
  rcases ten h with rfl | rfl | rfl | rfl | rfl | rfl | rfl | rfl | rfl | rfl <;> decide
theorem tdat_pt {t : Int} (h : 0 ≤ t ∧ t ≤ 9) : ptOf t (tdat t).size 2 = 2 := by
  rw [tdat_size h]
  rcases ten h with rfl | rfl | rfl | rfl | rfl | rfl | rfl | rfl | rfl | rfl <;> decide
theorem tdat_join {t : Int} (h : 0 ≤ t ∧ t ≤ 9) : joinB [piece (tdat t) 2 0, piece (tdat t) 2 1] = tdat t := by
  rcases ten h with rfl | rfl | rfl | rfl | rfl | rfl | rfl | rfl | rfl | rfl <;> decide

/-- A datagram of the law. -/
structure TD (d : Dg) : Prop where
  ok : OkD d
  tag : 0 ≤ d.tag ∧ d.tag ≤ 9
  cnt : d.cnt = 2
  size : d.size = 3
  part : d.part = 2
  last : 0 ≤ d.last
  bm : d.bm = 1 ∨ d.bm = 2 ∨ d.bm = 3
  p0 : d.bm % 2 = 1 → d.parts.getD 0 ⟨#[]⟩ = piece (tdat d.tag) 2 0
  p1 : d.bm / 2 % 2 = 1 → d.parts.getD 1 ⟨#[]⟩ = piece (tdat d.tag) 2 1

theorem keep_all {ds : List Dg} {i : Nat} (hi : i ≤ 60) (hT : ∀ d ∈ ds, TD d) : (ds.filter fun d => !old 100 i d) = ds := List.filter_eq_self.2 fun d hd => by
  have := (hT d hd).last
  simp [old]; omega

theorem frag_tag {tag : Int} (h : 0 ≤ tag ∧ tag ≤ 9) {k : Nat} (hk : k < 2) : Fm.part tag k 2 3 (piece (tdat tag) 2 k).size = 2 ∧ ((piece (tdat tag) 2 k).size : Int) ≤ 2 := by
  have h1 := tdat_err h
  have h2 := tdat_cnt h
  have h3 := tdat_pt h
  have h4 := frag_part (most := 2) h1 (k := k) (by rw [h2]; exact hk)
  have h5 := frag_ok (most := 2) h1 (k := k) (by rw [h2]; exact hk)
  rw [h2, h3, tdat_size h] at h4
  exact ⟨h4, h5.2.1⟩

theorem or_two_bits {b k : Nat} (hb : b = 1 ∨ b = 2 ∨ b = 3) (hk : k < 2) : (b ||| 2 ^ k = 1 ∨ b ||| 2 ^ k = 2 ∨ b ||| 2 ^ k = 3) := by
  obtain rfl | rfl : k = 0 ∨ k = 1 := by omega
  all_goals (rcases hb with rfl | rfl | rfl <;> decide)

/-- The fragment k of the datagram with a tag is put into one that is of the law. -/
theorem td_upd {d : Dg} (h : TD d) {i k : Nat} (hk : k < 2) : TD (upd d i k (piece (tdat d.tag) 2 k)) := by
  obtain ⟨f1, f2⟩ := frag_tag h.tag hk
  have hlen := h.ok.parts
  refine ⟨okd_upd h.ok (by omega) (by omega) (by omega), h.tag, h.cnt, h.size, h.part, by show (0 : Int) ≤ i; omega, or_two_bits h.bm hk, ?_, ?_⟩
  · show (d.bm ||| 2 ^ k) % 2 = 1 → (d.parts.set k _).getD 0 ⟨#[]⟩ = piece (tdat d.tag) 2 0
    intro hb
    obtain rfl | rfl : k = 0 ∨ k = 1 := by omega
    · simp [List.getD, hlen]
    · have := h.p0 (by rcases h.bm with e | e | e <;> rw [e] at hb ⊢ <;> revert hb <;> decide)
      simpa [List.getD] using this
  · show (d.bm ||| 2 ^ k) / 2 % 2 = 1 → (d.parts.set k _).getD 1 ⟨#[]⟩ = piece (tdat d.tag) 2 1
    intro hb
    obtain rfl | rfl : k = 0 ∨ k = 1 := by omega
    · have := h.p1 (by rcases h.bm with e | e | e <;> rw [e] at hb ⊢ <;> revert hb <;> decide)
      simpa [List.getD] using this
    · simp [List.getD, hlen]

theorem td_new {tag : Int} (h : 0 ≤ tag ∧ tag ≤ 9) (g clock i : Nat) {k : Nat} (hk : k < 2) : TD (upd (newDg g clock tag 2 3 2) i k (piece (tdat tag) 2 k)) ∧ (upd (newDg g clock tag 2 3 2) i k (piece (tdat tag) 2 k)).bm = 2 ^ k := by
  obtain ⟨f1, f2⟩ := frag_tag h hk
  have hO : OkD (newDg g clock tag 2 3 2) := ⟨by simp [newDg], ⟨by show (1 : Int) ≤ 2; omega, by show (2 : Int) ≤ 32; omega⟩, by simp [newDg], fun x hx => by rw [(List.mem_replicate.1 hx).2]; decide⟩
  have hbm : (upd (newDg g clock tag 2 3 2) i k (piece (tdat tag) 2 k)).bm = 2 ^ k := by
    show 0 ||| 2 ^ k = 2 ^ k
    simp
  refine ⟨⟨okd_upd hO (by omega) (by omega) (by omega), h, rfl, rfl, rfl, by show (0 : Int) ≤ i; omega, ?_, ?_, ?_⟩, hbm⟩
  · rw [hbm]
    obtain rfl | rfl : k = 0 ∨ k = 1 := by omega
    · exact .inl rfl
    · exact .inr (.inl rfl)
  · rw [hbm]
    obtain rfl | rfl : k = 0 ∨ k = 1 := by omega
    · intro _; rfl
    · intro hb; exact absurd hb (by decide)
  · rw [hbm]
    obtain rfl | rfl : k = 0 ∨ k = 1 := by omega
    · intro hb; exact absurd hb (by decide)
    · intro _; rfl

def tOk (b b' : Nat) : Bool := decide (b ≠ 3 ∧ b' = 3)
def tOut (tag : Int) (b b' : Nat) : Value := .tuple #[.string (if tOk b b' = true then tdat tag else ⟨#[]⟩), .bool (tOk b b'), .int .i64 0]
theorem allBits_two {d : Dg} (h : d.cnt = 2) : allBits d = 3 := by rw [allBits, h]; rfl

section
variable {B : Nat} {w0 : World} {H : List HP} {w : World}
theorem recv_t_new (m r : Nat) (ds : List Dg) (clock i : Nat) (time tag : Int) (k : Nat) (hi : i ≤ 60) (ht : 0 ≤ time ∧ time ≤ i) (htag : 0 ≤ tag ∧ tag ≤ 9) (hk : k < 2) (hm : Maps ds clock) (hT : ∀ d ∈ ds, TD d) (hn : findD ds tag = none) (hl : ds.length < 8) (hw : St B w0 (rpcs r m 100 time ds clock H) w) :
    Calls Try.prog 22 [.pointer (some ⟨r, 0, none⟩), .int .i64 i, .agg #[.int .i64 tag, .int .i64 k, .int .i64 2, .int .i64 3, .string (piece (tdat tag) 2 k)]].toArray w (Post B w0 fun v K => ∃ d', v = tOut tag 0 d'.bm ∧ K = rpcs r m 100 i (ds ++ [d']) (clock + 1) H ∧ TD d' ∧ d'.tag = tag ∧ d'.bm = 2 ^ k ∧ d'.born = clock) := by
  obtain ⟨f1, f2⟩ := frag_tag htag hk
  have h := receive_got 100 time m r ds clock i tag k 2 3 (piece (tdat tag) 2 k) (by omega) (by rw [f1]; decide) ht.1 ⟨ht.2, by omega⟩ (by omega) hm (fun d hd => (hT d hd).ok) (by rw [keep_all hi hT]; exact fun _ => hl) hw
  rw [keep_all hi hT] at h
  refine h.mono ?_
  rintro e w' ⟨v, K, rfl, hst, l1, d, l2, clock2, hgot, hres⟩
  rcases hgot with ⟨g1, _⟩ | ⟨_, _, g3, g4, g5, g6⟩
  · rw [hn] at g1; cases g1
  subst g3 g4 g6
  rw [f1] at g5
  have hfit : fits d tag k 2 3 (piece (tdat tag) 2 k) := by rw [g5]; exact ⟨rfl, rfl, f1, .inl (by simp [newDg])⟩
  rcases hres with ⟨hnf, _⟩ | ⟨_, rfl, rfl⟩
  · exact absurd hfit hnf
  obtain ⟨n1, n2⟩ := td_new htag d.g clock i hk
  rw [← g5] at n1 n2
  refine ⟨_, _, rfl, hst, _, ?_, rfl, n1, by rw [g5]; rfl, n2, by rw [g5]; rfl⟩
  have hc2 : d.cnt = 2 := by rw [g5]; rfl
  have hb0 : d.bm = 0 := by rw [g5]; rfl
  unfold outV tOut
  rw [n2, allBits_two hc2, hb0]
  obtain rfl | rfl : k = 0 ∨ k = 1 := by omega
  all_goals rfl

theorem recv_t_full (m r : Nat) (ds : List Dg) (clock i : Nat) (time tag : Int) (k : Nat) (hi : i ≤ 60) (ht : 0 ≤ time ∧ time ≤ i) (htag : 0 ≤ tag ∧ tag ≤ 9) (hk : k < 2) (hm : Maps ds clock) (hT : ∀ d ∈ ds, TD d) (hn : findD ds tag = none) (hl : 8 ≤ ds.length) (hw : St B w0 (rpcs r m 100 time ds clock H) w) :
    Calls Try.prog 22 [.pointer (some ⟨r, 0, none⟩), .int .i64 i, .agg #[.int .i64 tag, .int .i64 k, .int .i64 2, .int .i64 3, .string (piece (tdat tag) 2 k)]].toArray w (Post B w0 fun v K => v = .tuple #[.string ⟨#[]⟩, .bool false, .int .i64 13] ∧ K = rpcs r m 100 i ds clock H) := by
  obtain ⟨f1, f2⟩ := frag_tag htag hk
  have h := receive_full 100 time m r ds clock i tag k 2 3 (piece (tdat tag) 2 k) (by omega) (by rw [f1]; decide) ht.1 ⟨ht.2, by omega⟩ (by omega) hm (by rw [keep_all hi hT]; exact hn) (by rw [keep_all hi hT]; exact hl) hw
  rw [keep_all hi hT] at h
  exact h

theorem recv_t_old (m r : Nat) (ds : List Dg) (clock i : Nat) (time tag : Int) (k : Nat) (d : Dg) (hi : i ≤ 60) (ht : 0 ≤ time ∧ time ≤ i) (htag : 0 ≤ tag ∧ tag ≤ 9) (hk : k < 2) (hm : Maps ds clock) (hT : ∀ d ∈ ds, TD d) (hn : findD ds tag = some d) (hw : St B w0 (rpcs r m 100 time ds clock H) w) :
    Calls Try.prog 22 [.pointer (some ⟨r, 0, none⟩), .int .i64 i, .agg #[.int .i64 tag, .int .i64 k, .int .i64 2, .int .i64 3, .string (piece (tdat tag) 2 k)]].toArray w (Post B w0 fun v K => ∃ l1 l2 d', ds = l1 ++ d :: l2 ∧ v = tOut tag d.bm d'.bm ∧ K = rpcs r m 100 i (l1 ++ d' :: l2) clock H ∧ TD d' ∧ d'.tag = tag ∧ d'.bm = d.bm ||| 2 ^ k ∧ d'.born = d.born) := by
  obtain ⟨f1, f2⟩ := frag_tag htag hk
  have h := receive_got 100 time m r ds clock i tag k 2 3 (piece (tdat tag) 2 k) (by omega) (by rw [f1]; decide) ht.1 ⟨ht.2, by omega⟩ (by omega) hm (fun d hd => (hT d hd).ok) (by rw [keep_all hi hT, hn]; intro h; cases h) hw
  rw [keep_all hi hT] at h
  refine h.mono ?_
  rintro e w' ⟨v, K, rfl, hst, l1, d2, l2, clock2, hgot, hres⟩
  rcases hgot with ⟨g1, g2, g3⟩ | ⟨g1, _⟩
  rotate_left
  · rw [hn] at g1; cases g1
  rw [hn] at g1
  obtain rfl := Option.some.inj g1
  subst g3
  have hd : TD d := hT d (by rw [g2]; simp)
  have hdt : d.tag = tag := by
    have := List.find?_some hn
    simpa using this
  have hfit : fits d tag k 2 3 (piece (tdat tag) 2 k) := by
    refine ⟨hd.cnt.symm, hd.size.symm, by rw [f1, hd.part], ?_⟩
    by_cases hb : d.bm / 2 ^ (k : Int).toNat % 2 = 0
    · exact .inl hb
    · right
      rw [← hdt, Int.toNat_natCast] at *
      obtain rfl | rfl : k = 0 ∨ k = 1 := by omega
      · exact hd.p0 (by rw [Nat.pow_zero, Nat.div_one] at hb; omega)
      · exact hd.p1 (by rw [Nat.pow_one] at hb; omega)
  rcases hres with ⟨hnf, _⟩ | ⟨_, rfl, rfl⟩
  · exact absurd hfit hnf
  have hu := td_upd hd (i := i) hk
  rw [hdt] at hu
  refine ⟨_, _, rfl, hst, l1, l2, _, g2, ?_, rfl, hu, hdt, rfl, rfl⟩
  unfold outV tOut tOk
  rw [allBits_two hd.cnt]
  by_cases hfin : d.bm ≠ 3 ∧ (upd d i k (piece (tdat tag) 2 k)).bm = 3
  · rw [if_neg (by omega), decide_eq_true hfin, if_pos rfl]
    have hp0 := hu.p0 (by rw [hfin.2])
    have hp1 := hu.p1 (by rw [hfin.2])
    have hlen := hu.ok.parts
    rw [show (upd d i k (piece (tdat tag) 2 k)).tag = tag from hdt] at hp0 hp1
    have htk : (upd d i k (piece (tdat tag) 2 k)).parts.take d.cnt.toNat = [piece (tdat tag) 2 0, piece (tdat tag) 2 1] := by
      rw [hd.cnt]
      generalize (upd d i k (piece (tdat tag) 2 k)).parts = ps at *
      match ps, hlen with
      | a :: b :: ps, _ =>
        simp [List.getD] at hp0 hp1
        simp [hp0, hp1]
    rw [htk, tdat_join htag]
  · rw [if_pos (by omega), decide_eq_false hfin]
    rfl
end
end Go.Proofs.Ytfobgjhjigkigaa
