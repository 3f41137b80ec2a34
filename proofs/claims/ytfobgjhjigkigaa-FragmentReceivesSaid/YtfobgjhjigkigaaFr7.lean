/- One arrival: the program and the reference answer alike. -/
import Derived.Test.YtfobgjhjigkigaaFr6
namespace Go.Proofs.Ytfobgjhjigkigaa
open Go.RowKit Go.Eng Go.Nw

def noneV (e : Int) : Value := .tuple #[.string ⟨#[]⟩, .bool false, .int .i64 e]
/-- What a receiver answers at an arrival, and what it has then. -/
def Step (hold time : Int) (ds : List Dg) (clock : Nat) (slot tag idx cnt size : Int) (s : ByteArray) (v : Value) (time' : Int) (ds' : List Dg) (clock' : Nat) : Prop :=
  (Fm.part tag idx cnt size s.size = 0 ∧ v = noneV 1 ∧ time' = time ∧ ds' = ds ∧ clock' = clock) ∨
  (Fm.part tag idx cnt size s.size ≠ 0 ∧ (slot < time ∨ 109951162 < slot) ∧ v = noneV 5 ∧ time' = time ∧ ds' = ds ∧ clock' = clock) ∨
  (Fm.part tag idx cnt size s.size ≠ 0 ∧ (time ≤ slot ∧ slot ≤ 109951162) ∧ time' = slot ∧ ∃ F, (ds.filter fun d => !old hold slot d) = F ∧
    ((findD F tag = none ∧ 8 ≤ F.length ∧ v = noneV 13 ∧ ds' = F ∧ clock' = clock) ∨
     (∃ l1 d l2, Got F clock tag idx cnt size s l1 d l2 clock' ∧
       ((¬ fits d tag idx cnt size s ∧ v = noneV 11 ∧ ds' = l1 ++ d :: l2) ∨ (fits d tag idx cnt size s ∧ v = outV d (upd d slot idx s) ∧ ds' = l1 ++ upd d slot idx s :: l2)))))
structure OkG (d : Dg) : Prop where
  okd : OkD d
  bm : d.bm < 2 ^ d.cnt.toNat
  tag : 0 ≤ d.tag ∧ d.tag ≤ 255
structure Inv (time : Int) (ds : List Dg) (clock : Nat) : Prop where
  t0 : 0 ≤ time
  maps : Maps ds clock
  ok : ∀ d ∈ ds, OkG d
  len : ds.length ≤ 8

theorem outV_form (d d' : Dg) : ∃ x b, outV d d' = .tuple #[.string x, .bool b, .int .i64 0] := by
  unfold outV
  split
  · exact ⟨_, _, rfl⟩
  · exact ⟨_, _, rfl⟩
theorem step_form {hold time : Int} {ds : List Dg} {clock : Nat} {slot tag idx cnt size : Int} {s : ByteArray} {v : Value} {time' : Int} {ds' : List Dg} {clock' : Nat} (h : Step hold time ds clock slot tag idx cnt size s v time' ds' clock') : ∃ x b e, v = .tuple #[.string x, .bool b, .int .i64 e] := by
  rcases h with ⟨_, rfl, _⟩ | ⟨_, _, rfl, _⟩ | ⟨_, _, _, F, _, ⟨_, _, rfl, _⟩ | ⟨l1, d, l2, _, ⟨_, rfl, _⟩ | ⟨_, rfl, _⟩⟩⟩
  · exact ⟨_, _, _, rfl⟩
  · exact ⟨_, _, _, rfl⟩
  · exact ⟨_, _, _, rfl⟩
  · exact ⟨_, _, _, rfl⟩
  · obtain ⟨x, b, h⟩ := outV_form d (upd d slot idx s)
    exact ⟨x, b, 0, h⟩

theorem find_tag {ds : List Dg} {tag : Int} {d : Dg} (h : findD ds tag = some d) : d ∈ ds ∧ d.tag = tag := by
  refine ⟨List.mem_of_find?_eq_some h, ?_⟩
  have := List.find?_some h
  simpa using this
theorem find_no {ds : List Dg} {tag : Int} (h : findD ds tag = none) : ∀ d ∈ ds, d.tag ≠ tag := fun d hd e => by
  have := List.find?_eq_none.1 h d hd
  simp [e] at this

/-- What holds of all, behind a receipt. -/
theorem Maps.upd {l1 l2 : List Dg} {d d' : Dg} {clock : Nat} (h : Maps (l1 ++ d :: l2) clock) (ht : d'.tag = d.tag) (hb : d'.born = d.born) : Maps (l1 ++ d' :: l2) clock := by
  refine ⟨?_, ?_, ?_⟩
  · have := h.tags
    simp only [List.map_append, List.map_cons] at this ⊢
    rw [ht]; exact this
  · have := h.borns
    simp only [List.map_append, List.map_cons] at this ⊢
    rw [hb]; exact this
  · intro x hx
    rcases List.mem_append.1 hx with h1 | h1
    · exact h.lt x (List.mem_append_left _ h1)
    · rcases List.mem_cons.1 h1 with rfl | h1
      · rw [hb]; exact h.lt d (by simp)
      · exact h.lt x (List.mem_append_right _ (List.mem_cons_of_mem _ h1))
theorem Maps.snoc {ds : List Dg} {d : Dg} {clock : Nat} (h : Maps ds clock) (ht : ∀ x ∈ ds, x.tag ≠ d.tag) (hb : d.born = clock) : Maps (ds ++ [d]) (clock + 1) := by
  refine ⟨?_, ?_, ?_⟩
  · rw [List.map_append, List.nodup_append]
    refine ⟨h.tags, by simp, ?_⟩
    intro a ha b hb2 e
    obtain ⟨x, hx, rfl⟩ := List.mem_map.1 ha
    obtain rfl : b = d.tag := by simpa using hb2
    exact ht x hx e
  · rw [List.map_append, List.nodup_append]
    refine ⟨h.borns, by simp, ?_⟩
    intro a ha b hb2 e
    obtain ⟨x, hx, rfl⟩ := List.mem_map.1 ha
    obtain rfl : b = d.born := by simpa using hb2
    have := h.lt x hx
    omega
  · intro x hx
    rcases List.mem_append.1 hx with h1 | h1
    · exact Nat.lt_succ_of_lt (h.lt x h1)
    · obtain rfl : x = d := by simpa using h1
      omega

theorem okg_new {g clock : Nat} {tag idx cnt size n pt : Int} (hp : Fm.part tag idx cnt size n ≠ 0) : OkG (newDg g clock tag cnt size pt) := by
  obtain ⟨⟨a1, a2⟩, ⟨a3, a4⟩, ⟨a5, a6⟩, ⟨a7, a8⟩, _⟩ := Fm.part_ok hp
  exact ⟨⟨by simp [newDg], ⟨a5, a6⟩, by simp [newDg], fun x hx => by rw [(List.mem_replicate.1 hx).2]; decide⟩, Nat.two_pow_pos _, a1, a2⟩
theorem okg_upd {d : Dg} {slot idx : Int} {s : ByteArray} (h : OkG d) (hi : 0 ≤ idx ∧ idx < d.cnt) (hs : s.size ≤ 5000) : OkG (upd d slot idx s) :=
  have hc := h.okd.cnt
  have hlt : idx.toNat < d.cnt.toNat := by omega
  ⟨okd_upd h.okd hi.1 (by omega) hs, Nat.or_lt_two_pow (n := d.cnt.toNat) h.bm (Nat.pow_lt_pow_right (by omega) hlt), h.tag⟩

theorem step_inv {hold time : Int} {ds : List Dg} {clock : Nat} {slot tag idx cnt size : Int} {s : ByteArray} {v : Value} {time' : Int} {ds' : List Dg} {clock' : Nat} (hi : Inv time ds clock) (hs : s.size ≤ 5000) (h : Step hold time ds clock slot tag idx cnt size s v time' ds' clock') : Inv time' ds' clock' := by
  rcases h with ⟨_, _, rfl, rfl, rfl⟩ | ⟨_, _, _, rfl, rfl, rfl⟩ | ⟨hp, ⟨o1, o2⟩, rfl, F, hF, h⟩
  · exact hi
  · exact hi
  have ht : 0 ≤ time' := by have := hi.t0; omega
  have hmF : Maps F clock := by rw [← hF]; exact hi.maps.filter _
  have hokF : ∀ d ∈ F, OkG d := fun d hd => hi.ok d (by rw [← hF] at hd; exact (List.mem_filter.1 hd).1)
  have hlF : F.length ≤ 8 := by rw [← hF]; exact Nat.le_trans (List.length_filter_le _ _) hi.len
  obtain ⟨⟨a1, a2⟩, ⟨a3, a4⟩, ⟨a5, a6⟩, ⟨a7, a8⟩, _⟩ := Fm.part_ok hp
  rcases h with ⟨_, _, _, rfl, rfl⟩ | ⟨l1, d, l2, hg, h⟩
  · exact ⟨ht, hmF, hokF, hlF⟩
  have hbase : Inv time' (l1 ++ d :: l2) clock' := by
    rcases hg with ⟨g1, rfl, rfl⟩ | ⟨g1, g2, rfl, rfl, g3, rfl⟩
    · exact ⟨ht, hmF, hokF, hlF⟩
    · refine ⟨ht, hmF.snoc (fun x hx => ?_) (by rw [g3]; rfl), fun x hx => ?_, ?_⟩
      · rw [g3]; exact find_no g1 x hx
      · rcases List.mem_append.1 hx with h1 | h1
        · exact hokF x h1
        · obtain rfl : x = d := by simpa using h1
          rw [g3]; exact okg_new hp
      · rw [List.length_append, List.length_singleton]; omega
  rcases h with ⟨_, _, rfl⟩ | ⟨hf, _, rfl⟩
  · exact hbase
  · refine ⟨ht, hbase.maps.upd rfl rfl, fun x hx => ?_, ?_⟩
    · rcases List.mem_append.1 hx with h1 | h1
      · exact hbase.ok x (List.mem_append_left _ h1)
      · rcases List.mem_cons.1 h1 with rfl | h1
        · exact okg_upd (hbase.ok d (by simp)) ⟨a7, by rw [← hf.1]; exact a8⟩ hs
        · exact hbase.ok x (List.mem_append_right _ (List.mem_cons_of_mem _ h1))
    · have := hbase.len
      rw [List.length_append, List.length_cons] at this ⊢
      exact this

theorem recv_any (hold time : Int) (m r : Nat) (ds : List Dg) (clock : Nat) (slot tag idx cnt size : Int) (s : ByteArray) (hs : s.size ≤ 5000) (hh : 0 ≤ hold ∧ hold ≤ 4096) (hi : Inv time ds clock) {B : Nat} {w0 : World} {H : List HP} {w : World} (hw : St B w0 (rpcs r m hold time ds clock H) w) :
    Calls Try.prog 22 [.pointer (some ⟨r, 0, none⟩), .int .i64 slot, .agg #[.int .i64 tag, .int .i64 idx, .int .i64 cnt, .int .i64 size, .string s]].toArray w (Post B w0 fun v K => ∃ time' ds' clock', Step hold time ds clock slot tag idx cnt size s v time' ds' clock' ∧ K = rpcs r m hold time' ds' clock' H) := by
  by_cases hp : Fm.part tag idx cnt size s.size = 0
  · refine (receive_bad hold time m r ds clock slot tag idx cnt size s (by omega) hp hw).mono ?_
    rintro e w' ⟨v, K, rfl, hst, rfl, rfl⟩
    exact ⟨_, _, rfl, hst, time, ds, clock, .inl ⟨hp, rfl, rfl, rfl, rfl⟩, rfl⟩
  by_cases ho : time ≤ slot ∧ slot ≤ 109951162
  rotate_left
  · have ho' : slot < time ∨ 109951162 < slot := by omega
    refine (receive_order hold time m r ds clock slot tag idx cnt size s (by omega) hp ho' hw).mono ?_
    rintro e w' ⟨v, K, rfl, hst, rfl, rfl⟩
    exact ⟨_, _, rfl, hst, time, ds, clock, .inr (.inl ⟨hp, ho', rfl, rfl, rfl, rfl⟩), rfl⟩
  by_cases hfull : findD (ds.filter fun d => !old hold slot d) tag = none ∧ 8 ≤ (ds.filter fun d => !old hold slot d).length
  · refine (receive_full hold time m r ds clock slot tag idx cnt size s (by omega) hp hi.t0 ho hh hi.maps hfull.1 hfull.2 hw).mono ?_
    rintro e w' ⟨v, K, rfl, hst, rfl, rfl⟩
    exact ⟨_, _, rfl, hst, slot, _, clock, .inr (.inr ⟨hp, ho, rfl, _, rfl, .inl ⟨hfull.1, hfull.2, rfl, rfl, rfl⟩⟩), rfl⟩
  · have hf : findD (ds.filter fun d => !old hold slot d) tag = none → (ds.filter fun d => !old hold slot d).length < 8 := fun h => by
      rcases Nat.lt_or_ge (ds.filter fun d => !old hold slot d).length 8 with h1 | h1
      · exact h1
      · exact absurd ⟨h, h1⟩ hfull
    refine (receive_got hold time m r ds clock slot tag idx cnt size s hs hp hi.t0 ho hh hi.maps (fun d hd => (hi.ok d hd).okd) hf hw).mono ?_
    rintro e w' ⟨v, K, rfl, hst, l1, d, l2, clock2, hgot, hres⟩
    rcases hres with ⟨hnf, rfl, rfl⟩ | ⟨hf2, rfl, rfl⟩
    · exact ⟨_, _, rfl, hst, slot, _, clock2, .inr (.inr ⟨hp, ho, rfl, _, rfl, .inr ⟨l1, d, l2, hgot, .inl ⟨hnf, rfl, rfl⟩⟩⟩), rfl⟩
    · exact ⟨_, _, rfl, hst, slot, _, clock2, .inr (.inr ⟨hp, ho, rfl, _, rfl, .inr ⟨l1, d, l2, hgot, .inr ⟨hf2, rfl, rfl⟩⟩⟩), rfl⟩

theorem idx_none {xs : List Rx} {tag : Int} (h : findD (xs.map (·.d)) tag = none) : idxFrom (fun x : Rx => x.d.tag == tag) xs 0 = -1 :=
  idxFrom_none fun x hx => by have := find_no h x.d (List.mem_map_of_mem (f := Rx.d) hx); simpa using this
theorem nodup_idx {l : List Dg} (hn : (l.map (·.tag)).Nodup) {i j : Nat} {a b : Dg} (hi : l[i]? = some a) (hj : l[j]? = some b) (h : a.tag = b.tag) : i = j := by
  have h1 := (List.getElem?_eq_some_iff.1 hi).1
  exact List.getElem?_inj (l := l.map (·.tag)) (by simpa using h1) hn |>.1 (by rw [List.getElem?_map, List.getElem?_map, hi, hj, Option.map_some, Option.map_some, h])
theorem idx_some {xs : List Rx} {tag : Int} {d : Dg} (hn : ((xs.map (·.d)).map (·.tag)).Nodup) (h : findD (xs.map (·.d)) tag = some d) : ∃ (k : Nat) (x : Rx), idxFrom (fun x : Rx => x.d.tag == tag) xs 0 = k ∧ xs[k]? = some x ∧ x.d = d := by
  obtain ⟨hd, ht⟩ := find_tag h
  obtain ⟨x, hx, rfl⟩ := List.mem_map.1 hd
  obtain ⟨k, hk⟩ := List.getElem?_of_mem hx
  refine ⟨k, x, ?_, hk, rfl⟩
  rw [idxFrom_at hk (by simpa using ht) fun j b hj hb => ?_, Int.zero_add]
  by_cases e : b.d.tag = tag
  · have := nodup_idx hn (i := j) (j := k) (a := b.d) (b := x.d) (by rw [List.getElem?_map, hb]; rfl) (by rw [List.getElem?_map, hk]; rfl) (e.trans ht.symm)
    omega
  · simpa using e

theorem filter_d (hold slot : Int) (xs : List Rx) : (xs.map (·.d)).filter (fun d => !old hold slot d) = (xs.filter (keepX hold slot)).map (·.d) := by
  rw [List.filter_map]; rfl

theorem xrecv_any (rx : Nat) (hold time : Int) (A : Option Addr) (cap : Nat) (xs : List Rx) (ds : List Dg) (hxd : xs.map (·.d) = ds) (clock : Nat) (slot tag idx cnt size : Int) (s : ByteArray) (hs : s.size ≤ 5000) (hh : 0 ≤ hold ∧ hold ≤ 4096) (hi : Inv time ds clock) {v0 : Value} {time' : Int} {ds' : List Dg} {clock' : Nat} (hstep : Step hold time ds clock slot tag idx cnt size s v0 time' ds' clock')
    {B : Nat} {w0 : World} {H : List HP} {w : World} (hw : St B w0 (xpcs rx hold time A cap xs H) w) :
    Calls Try.prog 30 [.pointer (some ⟨rx, 0, none⟩), .int .i64 slot, .agg #[.int .i64 tag, .int .i64 idx, .int .i64 cnt, .int .i64 size, .string s]].toArray w (Post B w0 fun v K => ∃ A' cap' xs', v = v0 ∧ xs'.map (·.d) = ds' ∧ K = xpcs rx hold time' A' cap' xs' H) := by
  have hxl : xs.length ≤ 8 := by have := hi.len; rw [← hxd, List.length_map] at this; exact this
  rcases hstep with ⟨hp, rfl, rfl, rfl, rfl⟩ | ⟨hp, ho, rfl, rfl, rfl, rfl⟩ | ⟨hp, ho, rfl, F, hF, h⟩
  · refine (xreceive_bad rx hold _ A cap xs slot tag idx cnt size s hs hp hw).mono ?_
    rintro e w' ⟨v, K, rfl, hst, rfl, rfl⟩
    exact ⟨_, _, rfl, hst, A, cap, xs, rfl, hxd, rfl⟩
  · refine (xreceive_order rx hold _ A cap xs slot tag idx cnt size _ s hs rfl hp ho hw).mono ?_
    rintro e w' ⟨v, K, rfl, hst, rfl, rfl⟩
    exact ⟨_, _, rfl, hst, A, cap, xs, rfl, hxd, rfl⟩
  obtain ⟨xs', hxs⟩ : ∃ xs', xs.filter (keepX hold time') = xs' := ⟨_, rfl⟩
  have hF2 : xs'.map (·.d) = F := by rw [← hF, ← hxd, filter_d, hxs]
  have hmF : Maps F clock := by rw [← hF]; exact hi.maps.filter _
  have hok : ∀ x ∈ xs', OkX x := fun x hx => by
    have h1 := hi.ok x.d (by rw [← hxd]; rw [← hxs] at hx; exact List.mem_map_of_mem (f := Rx.d) (List.mem_filter.1 hx).1)
    exact ⟨h1.okd, h1.bm⟩
  have hl2 : xs'.length = F.length := by rw [← hF2, List.length_map]
  rcases h with ⟨hn, h8, rfl, rfl, rfl⟩ | ⟨l1, d, l2, hg, h⟩
  · have hin := idx_none (xs := xs') (tag := tag) (by rw [hF2]; exact hn)
    refine (xreceive_on rx hold time A cap xs (by omega) hh time' tag idx cnt size _ s hs rfl hp hi.t0 ho xs' hxs hok 0 0 hw).mono ?_
    rintro e w' ⟨v, K, rfl, hst, h | ⟨A2, cap2, ys, k, x, hx, _⟩⟩
    · obtain ⟨_, _, rfl, A2, cap2, rfl⟩ := h
      exact ⟨_, _, rfl, hst, A2, cap2, xs', rfl, hF2, rfl⟩
    · rcases hx with ⟨h1, _⟩ | ⟨_, h1, _⟩
      · omega
      · omega
  · refine (xreceive_on rx hold time A cap xs (by omega) hh time' tag idx cnt size _ s hs rfl hp hi.t0 ho xs' hxs hok d.g clock hw).mono ?_
    rintro e w' ⟨v, K, rfl, hst, h0 | ⟨A2, cap2, ys, k, x, hx, hyk, h0⟩⟩
    · obtain ⟨h1, h2, _⟩ := h0
      exfalso
      rcases hg with ⟨g1, _⟩ | ⟨_, g2, _⟩
      · obtain ⟨k, x, h3, _⟩ := idx_some (xs := xs') (by rw [hF2]; exact hmF.tags) (by rw [hF2]; exact g1)
        omega
      · omega
    have key : x.d = d ∧ ys.map (·.d) = l1 ++ d :: l2 ∧ k = l1.length := by
      rcases hg with ⟨g1, g2, _⟩ | ⟨g1, g2, g3, g4, g5, _⟩
      · obtain ⟨k2, x2, h3, h4, h5⟩ := idx_some (xs := xs') (by rw [hF2]; exact hmF.tags) (by rw [hF2]; exact g1)
        rcases hx with ⟨h6, rfl⟩ | ⟨h6, _⟩
        · obtain rfl : k2 = k := by omega
          rw [h4] at hyk
          obtain rfl : x2 = x := Option.some.inj hyk
          refine ⟨h5, by rw [hF2, g2], ?_⟩
          refine nodup_idx hmF.tags (a := x2.d) (b := d) (by rw [← hF2, List.getElem?_map, h4]; rfl) (by rw [g2]; simp) (by rw [h5])
        · omega
      · have hin := idx_none (xs := xs') (tag := tag) (by rw [hF2]; exact g1)
        rcases hx with ⟨h6, _⟩ | ⟨_, h6, rfl, rfl, h7⟩
        · omega
        · have hxd2 : x.d = d := by rw [h7, ← g5]
          refine ⟨hxd2, ?_, by rw [g3, hl2]⟩
          rw [List.map_append, hF2, g3, g4, List.map_cons, List.map_nil, hxd2]
    obtain ⟨rfl, k2, rfl⟩ := key
    rcases h0 with ⟨hnf, rfl, rfl⟩ | ⟨hf, rfl, rfl⟩
    · rcases h with ⟨_, rfl, rfl⟩ | ⟨hf2, _⟩
      · exact ⟨_, _, rfl, hst, A2, cap2, ys, rfl, k2, rfl⟩
      · exact absurd hf2 hnf
    · rcases h with ⟨hnf, _⟩ | ⟨_, rfl, rfl⟩
      · exact absurd hf hnf
      · refine ⟨_, _, rfl, hst, A2, cap2, _, rfl, ?_, rfl⟩
        rw [List.map_set, k2, List.set_append_right _ _ (Nat.le_refl _), Nat.sub_self, List.set_cons_zero]

/-- What Bitmap answers. -/
def bmV (ds : List Dg) (tag : Int) : Int × Int := match findD ds tag with | some d => (d.bm, 0) | none => (0, 7)
theorem bitmap_any (hold time : Int) (m r : Nat) (ds : List Dg) (clock : Nat) (tag : Int) {B : Nat} {w0 : World} {H : List HP} {w : World} (hw : St B w0 (rpcs r m hold time ds clock H) w) :
    Calls Try.prog 23 [.pointer (some ⟨r, 0, none⟩), .int .i64 tag].toArray w (Post B w0 fun v K => v = .tuple #[.int .i64 (bmV ds tag).1, .int .i64 (bmV ds tag).2] ∧ K = rpcs r m hold time ds clock H) := by
  unfold bmV
  cases hf : findD ds tag with
  | none => exact bitmap_none hold time m r ds clock tag hf hw
  | some d =>
    obtain ⟨l1, l2, rfl⟩ := find_split hf
    exact bitmap_spec hold time m r l1 d l2 clock tag hf hw
theorem xbitmap_any (rx : Nat) (hold time : Int) (A : Option Addr) (cap : Nat) (xs : List Rx) (ds : List Dg) (hxd : xs.map (·.d) = ds) (clock : Nat) (hi : Inv time ds clock) (tag : Int) {B : Nat} {w0 : World} {H : List HP} {w : World} (hw : St B w0 (xpcs rx hold time A cap xs H) w) :
    Calls Try.prog 31 [.pointer (some ⟨rx, 0, none⟩), .int .i64 tag].toArray w (Post B w0 fun v K => v = .tuple #[.int .i64 (bmV ds tag).1, .int .i64 (bmV ds tag).2] ∧ K = xpcs rx hold time A cap xs H) := by
  have hxl : xs.length ≤ 8 := by have := hi.len; rw [← hxd, List.length_map] at this; exact this
  subst hxd
  unfold bmV
  cases hf : findD (xs.map (·.d)) tag with
  | none => exact xbitmap_none rx hold time A cap xs tag (by omega) (idx_none hf) hw
  | some d =>
    obtain ⟨k, x, h1, h2, rfl⟩ := idx_some hi.maps.tags hf
    have h3 := hi.ok x.d (List.mem_map_of_mem (f := Rx.d) (List.mem_of_getElem? h2))
    exact xbitmap_spec rx hold time A cap xs tag k x (by omega) h1 h2 ⟨h3.okd, h3.bm⟩ hw
theorem xtags_any (rx : Nat) (hold time : Int) (A : Option Addr) (cap : Nat) (xs : List Rx) (ds : List Dg) (hxd : xs.map (·.d) = ds) (clock : Nat) (hi : Inv time ds clock) {B : Nat} {w0 : World} {H : List HP} {w : World} (hw : St B w0 (xpcs rx hold time A cap xs H) w) :
    Calls Try.prog 33 [.pointer (some ⟨rx, 0, none⟩)].toArray w (Post B w0 fun v K => ∃ A2 cap2, v = .slice A2 (tagsOf ds).length cap2 ∧ K = ints A2 cap2 (tagsOf ds) :: xpcs rx hold time A cap xs H) := by
  have hxl : xs.length ≤ 8 := by have := hi.len; rw [← hxd, List.length_map] at this; exact this
  subst hxd
  rw [← tagsX_eq hi.maps.tags fun x hx => (hi.ok x.d (List.mem_map_of_mem (f := Rx.d) hx)).tag]
  exact xtags_spec rx hold time A cap xs (by omega) hw
theorem tags_any (hold time : Int) (m r : Nat) (ds : List Dg) (clock : Nat) (hi : Inv time ds clock) {B : Nat} {w0 : World} {H : List HP} {w : World} (hw : St B w0 (rpcs r m hold time ds clock H) w) :
    Calls Try.prog 32 [.pointer (some ⟨r, 0, none⟩)].toArray w (Post B w0 fun v K => ∃ A cap, v = .slice A (tagsOf ds).length cap ∧ K = ints A cap (tagsOf ds) :: rpcs r m hold time ds clock H) := by
  have h := tags_spec hold time m r ds clock hi.maps (by have := hi.len; omega) (fun d hd => (hi.ok d hd).tag) hw
  refine h.mono ?_
  rintro e w' ⟨v, K, rfl, hst, A, cap, rfl, rfl⟩
  exact ⟨_, _, rfl, hst, A, cap, rfl, by unfold ints; rw [flat_num]⟩
end Go.Proofs.Ytfobgjhjigkigaa
