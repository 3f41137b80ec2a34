/- Walk: Receive, as FragmentWhole calls it. -/
import Derived.Test.YtfobgjhjigkigaaFw19
import Derived.Test.YtfobgjhjigkigaaE7
namespace Go.Proofs.Ytfobgjhjigkigaa
open Go.RowKit Go.Eng

/-- What the receiver and the map of what was seen hold; pt: the part length. -/
structure WsOk (tag : Int) (data : ByteArray) (m c : Nat) (pt : Int) (i : Nat) (time : Int) (ds : List Dg) (clock : Nat) (ks : List (Nat × Nat)) : Prop where
  time : 0 ≤ time ∧ time ≤ i
  maps : Maps ds clock
  oks : ∀ d ∈ ds, OkD d
  dg : (ds = [] ∧ ks = []) ∨ ∃ d, ds = [d] ∧ d.tag = tag ∧ d.cnt = c ∧ d.size = data.size ∧ d.part = pt ∧ 0 ≤ d.last ∧ BitsAre d.bm c (keysOf ks) ∧ ∀ j ∈ keysOf ks, d.parts.getD j ⟨#[]⟩ = piece data m j

theorem flat_tail (r : List (List UInt8)) : Lib.joinTail [] r = r.flatten := by simp [Lib.joinTail]
theorem flat_join (l : List (List UInt8)) : Lib.join l [] = l.flatten := by
  cases l with
  | nil => rfl
  | cons a r => rw [Lib.join_cons, flat_tail]; rfl

/-- The datagram behind one arrival. -/
theorem upd_facts {tag : Int} {data : ByteArray} {m c : Nat} {pt : Int} {d : Dg} {kl kl' : List Nat} {k : Nat} (slot : Int) (hs : 0 ≤ slot) (hd : OkD d) (hc : k < c) (hc32 : c ≤ 32) (h1 : d.tag = tag) (h2 : d.cnt = c) (h3 : d.size = data.size) (h4 : d.part = pt)
    (hb' : BitsAre (d.bm ||| 2 ^ k) c kl') (hp : ∀ j ∈ kl, d.parts.getD j ⟨#[]⟩ = piece data m j) (hk' : ∀ j ∈ kl', j ∈ kl ∨ j = k) :
    (upd d slot k (piece data m k)).tag = tag ∧ (upd d slot k (piece data m k)).cnt = c ∧ (upd d slot k (piece data m k)).size = data.size ∧ (upd d slot k (piece data m k)).part = pt ∧ 0 ≤ (upd d slot k (piece data m k)).last ∧ BitsAre (upd d slot k (piece data m k)).bm c kl' ∧
      ∀ j ∈ kl', (upd d slot k (piece data m k)).parts.getD j ⟨#[]⟩ = piece data m j := by
  refine ⟨h1, h2, h3, h4, hs, by unfold upd; simpa using hb', fun j hj => ?_⟩
  have hl : (d.parts).length = 32 := hd.parts
  unfold upd
  simp only [Int.toNat_natCast]
  by_cases e : j = k
  · subst e
    simp [List.getD, List.getElem?_set, hl, show j < 32 by omega]
  · rcases hk' j hj with h | h
    · rw [← hp j h]; simp [List.getD, List.getElem?_set, Ne.symm e]
    · exact absurd h e

theorem parts_join {data : ByteArray} {m c : Nat} {d : Dg} {kl : List Nat} (hd : OkD d) (hc : c ≤ 32) (hb : BitsAre d.bm c kl) (hl : kl.length = c) (hp : ∀ j ∈ kl, d.parts.getD j ⟨#[]⟩ = piece data m j) (hm : ∀ k, k < c → k * m ≤ data.size) (hall : data.size ≤ c * m) :
    joinB (d.parts.take c) = data := by
  have h0 : missL d.bm c = [] := List.eq_nil_of_length_eq_zero (by have := hb.miss; omega)
  have hin : ∀ j, j < c → j ∈ kl := fun j hj => by
    have h1 : j ∉ missL d.bm c := by rw [h0]; simp
    exact (hb.iff j).1 (by have h2 : ¬ d.bm / 2 ^ j % 2 = 0 := fun e => h1 ((mem_missL d.bm c j).2 ⟨hj, e⟩); omega)
  have e : d.parts.take c = (List.range c).map (piece data m) := by
    apply List.ext_getElem?
    intro j
    rw [List.getElem?_take, List.getElem?_map]
    by_cases hj : j < c
    · have := hp j (hin j hj)
      rw [if_pos hj, List.getElem?_range hj]
      have hlt : j < d.parts.length := by rw [hd.parts]; omega
      rw [List.getElem?_eq_getElem hlt]
      rw [List.getD, List.getElem?_eq_getElem hlt] at this
      simp at this ⊢
      exact this
    · rw [if_neg hj, List.getElem?_eq_none (by simpa using hj)]; rfl
  unfold joinB
  rw [e, flat_join, List.map_map]
  have h3 := join_pieces data m c hm
  rw [Nat.min_eq_right hall] at h3
  have h4 : ((List.range c).map ((fun x : ByteArray => x.data.toList) ∘ piece data m)).flatten = data.data.toList := by
    rw [show data.extract 0 data.size = data by simp] at h3
    exact h3
  rw [h4]

def wOut (fin : Prop) [Decidable fin] (data : ByteArray) : Value := if fin then .tuple #[.string data, .bool true, .int .i64 0] else .tuple #[.string ⟨#[]⟩, .bool false, .int .i64 0]

theorem whole_recv {tag : Int} {data : ByteArray} {most : Int} (r mm : Nat) {i : Nat} {time : Int} {ds : List Dg} {clock : Nat} {ks : List (Nat × Nat)} (k mc : Nat) (hse : splitErr tag data.size most = 0) (hk : k < splitCnt tag data.size most) (h60 : i ≤ 60)
    (hx : WsOk tag data most.toNat (splitCnt tag data.size most) (ptOf tag data.size most) i time ds clock ks) {B : Nat} {w0 : World} {H : List HP} {w : World} (hw : St B w0 (rpcs r mm 100 time ds clock H) w) :
    Calls Try.prog 22 [.pointer (some ⟨r, 0, none⟩), .int .i64 i, .agg #[.int .i64 tag, .int .i64 k, .int .i64 (splitCnt tag data.size most), .int .i64 data.size, .string (piece data most.toNat k)]].toArray w (Post B w0 fun v K => ∃ d' clock',
      v = wOut (k ∉ keysOf ks ∧ ks.length + 1 = splitCnt tag data.size most) data ∧ K = rpcs r mm 100 i [d'] clock' H ∧
      WsOk tag data most.toNat (splitCnt tag data.size most) (ptOf tag data.size most) (i + 1) i [d'] clock' (if k ∈ keysOf ks then ks else ks ++ [(k, mc)])) := by
  obtain ⟨p1, p2, p3⟩ := frag_ok hse hk
  have hpt := frag_part hse hk
  have hcl := splitCnt_le tag data.size most
  have hall := last_all hse
  have hms : ∀ j, j < splitCnt tag data.size most → j * most.toNat ≤ data.size := fun j hj => (frag_ok hse hj).2.2
  obtain ⟨_, hmo, _, hs4, _⟩ := splitErr_cnt hse
  have hsz : (piece data most.toNat k).size ≤ 5000 := by omega
  have hold : ∀ d ∈ ds, (!old 100 i d) = true := fun d hd => by
    rcases hx.dg with ⟨h1, _⟩ | ⟨d0, h1, _, _, _, _, h2, _⟩
    · rw [h1] at hd; cases hd
    · rw [h1] at hd
      obtain rfl : d = d0 := by simpa using hd
      simp [old]; omega
  have hfil : (ds.filter fun d => !old 100 i d) = ds := List.filter_eq_self.2 hold
  have hrec := receive_got 100 time mm r ds clock i tag k (splitCnt tag data.size most) data.size (piece data most.toNat k) hsz p1 hx.time.1 ⟨hx.time.2, by omega⟩ (by omega) hx.maps hx.oks (by rw [hfil]; intro _; rcases hx.dg with ⟨h1, _⟩ | ⟨d0, h1, _⟩ <;> simp [h1]) hw
  rw [hfil] at hrec
  refine hrec.mono ?_
  rintro e w' ⟨v, K, rfl, hst, l1, d, l2, clock2, hgot, hres⟩
  obtain ⟨c, hc⟩ : ∃ c, splitCnt tag data.size most = c := ⟨_, rfl⟩
  obtain ⟨pt, hp⟩ : ∃ c, ptOf tag data.size most = c := ⟨_, rfl⟩
  obtain ⟨m, hm⟩ : ∃ c, most.toNat = c := ⟨_, rfl⟩
  rw [hc, hp, hm] at hx
  rw [hc, hm] at p1 hall hms
  rw [hm] at p3
  rw [hc] at hk hcl
  rw [hm] at hsz
  rw [hc, hp, hm] at hpt
  rw [hc, hm] at hgot hres
  rw [hc, hp, hm]
  -- the datagram, what it held before
  have hbef : l1 = [] ∧ l2 = [] ∧ OkD d ∧ d.tag = tag ∧ d.cnt = c ∧ d.size = data.size ∧ d.part = pt ∧ BitsAre d.bm c (keysOf ks) ∧ (∀ j ∈ keysOf ks, d.parts.getD j ⟨#[]⟩ = piece data m j) ∧ d.born < clock2 := by
    rcases hgot with ⟨g1, g2, g3⟩ | ⟨g1, _, g3, g4, g5, g6⟩
    · rcases hx.dg with ⟨h1, _⟩ | ⟨d0, h1, a1, a2, a3, a4, a5, a6, a7⟩
      · rw [h1] at g1; cases g1
      · rw [h1] at g2
        have hlen := congrArg List.length g2
        simp at hlen
        have e1 : l1 = [] := List.eq_nil_of_length_eq_zero (by omega)
        have e2 : l2 = [] := List.eq_nil_of_length_eq_zero (by omega)
        subst e1 e2
        obtain rfl : d0 = d := by simpa using g2
        exact ⟨rfl, rfl, hx.oks _ (by rw [h1]; simp), a1, a2, a3, a4, a6, a7, by rw [g3]; exact hx.maps.lt _ (by rw [h1]; simp)⟩
    · rcases hx.dg with ⟨h1, h2⟩ | ⟨d0, h1, a1, _⟩
      · rw [h1] at g3
        rw [g5, h2]
        refine ⟨g3, g4, ⟨by simp [newDg], by simp [newDg]; omega, by simp [newDg], fun x hx => by rw [(List.mem_replicate.1 hx).2]; decide⟩, rfl, rfl, rfl, hpt, bits_none c, (fun j hj => (by cases hj)), ?_⟩
        rw [g6]; simp [newDg]
      · rw [h1] at g1
        simp [findD, a1] at g1
  obtain ⟨rfl, rfl, hd, a1, a2, a3, a4, a6, a7, a8⟩ := hbef
  have hfit : fits d tag k c data.size (piece data m k) := by
    refine ⟨a2.symm, a3.symm, by rw [hpt, a4], ?_⟩
    rw [Int.toNat_natCast]
    by_cases hkk : k ∈ keysOf ks
    · exact .inr (a7 k hkk)
    · left
      have : ¬ d.bm / 2 ^ k % 2 = 1 := fun h => hkk ((a6.iff k).1 h)
      omega
  rcases hres with ⟨h1, _⟩ | ⟨_, hv, hK⟩
  · exact absurd hfit h1
  refine ⟨v, K, rfl, hst, upd d i k (piece data m k), clock2, ?_, by simpa using hK, ?_⟩
  · -- what is handed back
    rw [hv]
    have e1 : allBits d = 2 ^ c - 1 := by unfold allBits; rw [a2]; simp
    have e2 : (upd d i k (piece data m k)).bm = d.bm ||| 2 ^ k := by unfold upd; simp
    unfold outV wOut
    rw [e1, e2]
    have hkl : (keysOf ks).length = ks.length := by simp [keysOf]
    by_cases hkk : k ∈ keysOf ks
    · have hb := a6.old hkk
      rw [if_neg (fun h : k ∉ keysOf ks ∧ ks.length + 1 = c => h.1 hkk), if_pos]
      by_cases hf : (keysOf ks).length = c
      · exact .inl (a6.all.2 hf)
      · exact .inr fun h => hf (hb.all.1 h)
    · have hb := a6.new hkk hk
      have hne : ¬ d.bm = 2 ^ c - 1 := fun h => by
        have h1 := a6.all.1 h
        have h2 := hb.le
        simp at h2; omega
      by_cases hf : ks.length + 1 = c
      · have hfull : (keysOf ks ++ [k]).length = c := by simp; omega
        rw [if_pos (show k ∉ keysOf ks ∧ ks.length + 1 = c from ⟨hkk, hf⟩), if_neg (by rintro (h | h); exact hne h; exact h (hb.all.2 hfull))]
        obtain ⟨u1, u2, u3, u4, u5, u6, u7⟩ := upd_facts (kl' := keysOf ks ++ [k]) (i : Int) (by omega) hd hk hcl a1 a2 a3 a4 hb a7 (fun j hj => by simpa using hj)
        rw [show d.cnt.toNat = c by rw [a2]; simp, parts_join (okd_upd hd (by omega) (by omega) hsz) hcl u6 hfull u7 hms hall]
      · rw [if_neg (fun h : k ∉ keysOf ks ∧ ks.length + 1 = c => hf h.2), if_pos (.inr fun h => hf (by have := hb.all.1 h; simp at this; omega))]
  · refine ⟨⟨by omega, by omega⟩, ⟨by simp, by simp, fun d' hd' => ?_⟩, fun d' hd' => ?_, .inr ⟨_, rfl, ?_⟩⟩
    · obtain rfl : d' = upd d i k (piece data m k) := by simpa using hd'
      exact a8
    · obtain rfl : d' = upd d i k (piece data m k) := by simpa using hd'
      exact okd_upd hd (by omega) (by omega) hsz
    · by_cases hkk : k ∈ keysOf ks
      · rw [if_pos hkk]
        exact upd_facts (i : Int) (by omega) hd hk hcl a1 a2 a3 a4 (a6.old hkk) a7 (fun j hj => .inl hj)
      · rw [if_neg hkk, show keysOf (ks ++ [(k, mc)]) = keysOf ks ++ [k] by simp [keysOf]]
        exact upd_facts (i : Int) (by omega) hd hk hcl a1 a2 a3 a4 (a6.new hkk hk) a7 (fun j hj => by simpa using hj)
end Go.Proofs.Ytfobgjhjigkigaa
