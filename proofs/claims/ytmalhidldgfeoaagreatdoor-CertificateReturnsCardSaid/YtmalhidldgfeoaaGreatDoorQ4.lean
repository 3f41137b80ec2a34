/- Lemmas for the claim, part 4. -/
import Derived.Test.YtmalhidldgfeoaaGreatDoorQ3

namespace Go.Proofs.YtmalhidldgfeoaaGreatDoor
open Go.RowKit Go.Eng Go.Nw
def netN (g : Nat) (n : NetM) : HP := blk g (.cells #[.int .i64 n.nodes, .slice n.pA n.rows.length n.pcap, .int .i64 n.noise, .int .i64 n.thr, .slice n.lA n.links.length n.lcap, .slice n.mA n.margin.length n.mcap] 26 (0, 0))
set_option maxRecDepth 10000 in
set_option maxHeartbeats 2000000 in
theorem WF (n : NetM) (l : List Flw) (s : SchM) (hck : Yy n.net = 0) (hlen : l.length ≤ 1000) (hl : s.cells.length ≤ 1000000000000) {A : Option Addr} {cap B : Nat} {w0 : World} {H : List HP} {w : World} (hin : n.In B w0 H) (hrf : Rd B w0 H A (l.flatMap flwF)) (hr : Rd B w0 H s.A (s.cells.flatMap celF)) (hw : St B w0 H w) :
    Calls Tryz.prog 55 [n.val, .slice A l.length cap, s.val].toArray w (Post B w0 fun v K => v = .tuple #[.int .i64 (Z0 n.net l s.sch).1, .int .i64 (Z0 n.net l s.sch).2] ∧ K = H) := by
  refine Yd Tryz.func55 Tryz.ntmps55 rfl rfl hw ?_
  have e4 : s.sch.cells.length = s.cells.length := rfl
  have hE : Z0 n.net l s.sch = Yz (JM n.net l s.sch) s.cells.length 0 := rfl
  rw [hE]
  repeat' (first | apply (zs1 ?_) | apply (zs2 ?_) | (apply zg2; refine zs6 ?_) | (apply zg3; refine zs7 ?_) | (apply zg4; refine zs9 ?_) | (apply zg23; (refine zs52 ?_; intro _)) | apply (zs65 ?_) | apply (zs68 ?_) | apply (zs69 ?_) | apply (zs70 ?_) | apply (zs73 ?_) | fail)
  rename_i gn gs
  refine Yk (fun (i : Nat) => [(13, .int .i64 i), (12, .int .i64 s.cells.length), (11, .slice s.A s.cells.length s.cap), (3, .pointer (some ⟨gn, 0, none⟩)), (5, .pointer (some ⟨gs, 0, none⟩)), (1, .slice A l.length cap)])
    (fun _ => blk gs (.cells #[.int .i64 s.len, .int .i64 s.off, .slice s.A s.cells.length s.cap] 30 (0, 0)) :: netN gn n :: H) (fun i => i ≤ s.cells.length ∧ ∀ k, k < i → JM n.net l s.sch k = 0) (fun i => s.cells.length - i) 0 ⟨Nat.zero_le _, fun k hk => absurd hk (Nat.not_lt_zero _)⟩ ?_ (fun w hw => hw) ?_
  · exact zu
  rintro i ⟨hi, hall⟩ K hK
  unfold netN
  have hrc := fun (X : HP) => ((hr.cons (X := netN gn n)).cons (X := blk gs (.cells #[.int .i64 s.len, .int .i64 s.off, .slice s.A s.cells.length s.cap] 30 (0, 0)))).cons (X := X)
  by_cases hlt : i < s.cells.length
  · have hget : s.cells[i]? = some (Yl s.sch i) := YC (s := s.sch) hlt
    have hbad : JM n.net l s.sch i ≠ 0 → Yz (JM n.net l s.sch) s.cells.length 0 = ((i : Int), JM n.net l s.sch i) := fun h => Xa (fun k _ hk => hall k hk) (Nat.zero_le _) (by omega) h
    have hstep : JM n.net l s.sch i = 0 → ∀ k, k < i + 1 → JM n.net l s.sch k = 0 := fun h k hk => by
      by_cases e : k = i
      · rw [e]; exact h
      · exact hall k (by omega)
    obtain ⟨c, hc⟩ : ∃ c, Yl s.sch i = c := ⟨_, rfl⟩
    have hce : JM n.net l s.sch i = if XE s.sch c = false then 2 else if YT n.net (YM c) (toC c) = false ∨ Jg l (V8 c) < 0 then 7 else if 0 < i ∧ Zg (Yl s.sch (i - 1)) c = false then 5 else 0 := by
      unfold JM
      rw [hc]
    rw [hc] at hget
    have hplc := fun {H' : List HP} {w : World} (hw : St B w0 H' w) => Wp s c hw
    cases hp : XE s.sch c with
    | false =>
      rw [hp] at hplc
      rw [hp, if_pos rfl] at hce
      rw [hbad (by rw [hce]; decide), hce]
      repeat' (first | ((first | apply Ya ZY | apply Yb ZY); exact za; exact rfl; exact fun _ hw => (hplc hw)) | apply (zs1 ?_) | apply (zs2 ?_) | (apply zg3; first | refine zs8 ?_ | refine zs61 ?_) | (apply zg5; refine zs57 ?_) | (apply (zs17 ?_ ?_) <;> intro _ <;> try (exfalso; omega)) | (apply zg20; refine zs48 ?_) | (apply zg22; refine zs51 ?_) | (apply zg24; (refine zs54 ?_; intro _)) | apply (zs65 ?_) | apply (zs68 ?_) | apply (zs69 ?_) | apply (zs70 ?_) | (apply zg27; refine zs71 ?_) | apply (zs73 ?_) | apply (zs74 ?_) | apply (zs76 ?_) | apply (zs77 ?_) | apply (zs78 ?_) | fail)
      apply Yj H
      · exact zk
      apply Yt; exact rfl; exact rfl; exact rfl; exact ⟨rfl, rfl⟩
    | true =>
    rw [hp] at hplc
    rw [hp, if_neg (by decide)] at hce
    have hix := fun {H' : List HP} {w : World} (hin : n.In B w0 H') (hw : St B w0 H' w) => XP n c.2.2.1 c.2.2.2.1 hin hw
    have hus := fun {H' : List HP} {w : World} (hin : n.In B w0 H') (hw : St B w0 H' w) => Wc n (X7 n.net c.2.2.1 c.2.2.2.1) hin hw
    rw [YfW hck] at hus
    have hfi := fun {H' : List HP} {w : World} (hr : Rd B w0 H' A (l.flatMap flwF)) (hw : St B w0 H' w) => YcQ l c.2.2.2.2 hlen (cap := cap) hr hw
    have hgf : YT n.net (YM c) (toC c) = YT n.net c.2.2.1 c.2.2.2.1 := rfl
    have hff : Jg l (V8 c) = Jg l c.2.2.2.2 := rfl
    by_cases hg : YT n.net c.2.2.1 c.2.2.2.1 = false ∨ Jg l c.2.2.2.2 < 0
    · rw [hgf, hff, if_pos hg] at hce
      rw [hbad (by rw [hce]; decide), hce]
      cases hgd : YT n.net c.2.2.1 c.2.2.2.1 with
      | false =>
        rw [hgd] at hus
        repeat' (first | ((first | apply Ya ZY | apply Yb ZY); exact za; exact rfl; exact fun _ hw => (hplc hw)) | ((first | apply Ya en95 | apply Yb en95); exact za; exact rfl; exact fun _ hw => (hix hin.cons.cons.cons hw)) | ((first | apply Ya ZR | apply Yb ZR); exact za; exact rfl; exact fun _ hw => (hus hin.cons.cons.cons hw)) | apply (zs1 ?_) | apply (zs2 ?_) | (apply zg1; refine zs3 ?_) | (apply zg2; refine zs6 ?_) | (apply zg3; first | refine zs7 ?_ | refine zs8 ?_ | refine zs61 ?_) | (apply zg5; refine zs57 ?_) | (apply zg6; refine zs11 ?_) | (apply (zs17 ?_ ?_) <;> intro _ <;> try (exfalso; omega)) | (apply zg20; first | refine zs47 ?_ | refine zs48 ?_) | (apply zg22; refine zs51 ?_) | (apply zg24; (refine zs54 ?_; intro _)) | apply (zs65 ?_) | apply (zs66 ?_) | apply (zs68 ?_) | apply (zs69 ?_) | apply (zs70 ?_) | (apply zg27; first | refine zs71 ?_ | refine zs72 ?_) | apply (zs73 ?_) | apply (zs74 ?_) | apply (zs76 ?_) | apply (zs77 ?_) | apply (zs78 ?_) | (apply zg28; refine zs84 ?_) | fail)
        apply Yj H
        · exact zk
        apply Yt; exact rfl; exact rfl; exact rfl; exact ⟨rfl, rfl⟩
      | true =>
        have hneg : Jg l c.2.2.2.2 < 0 := hg.elim (fun h => by rw [hgd] at h; cases h) id
        rw [hgd] at hus
        repeat' (first | ((first | apply Ya ZY | apply Yb ZY); exact za; exact rfl; exact fun _ hw => (hplc hw)) | ((first | apply Ya en95 | apply Yb en95); exact za; exact rfl; exact fun _ hw => (hix hin.cons.cons.cons hw)) | ((first | apply Ya ZR | apply Yb ZR); exact za; exact rfl; exact fun _ hw => (hus hin.cons.cons.cons hw)) | ((first | apply Ya U0 | apply Yb U0); exact za; exact rfl; exact fun _ hw => (hfi hrf.cons.cons.cons hw)) | apply (zs1 ?_) | apply (zs2 ?_) | (apply zg1; refine zs4 ?_) | (apply zg2; refine zs6 ?_) | (apply zg3; first | refine zs7 ?_ | refine zs8 ?_ | refine zs61 ?_) | (apply zg5; refine zs57 ?_) | (apply zg6; refine zs12 ?_) | (apply (zs17 ?_ ?_) <;> intro _ <;> try (exfalso; omega)) | (apply zg20; refine zs47 ?_) | (apply zg22; refine zs51 ?_) | (apply zg24; (refine zs54 ?_; intro _)) | apply (zs65 ?_) | apply (zs66 ?_) | apply (zs68 ?_) | apply (zs69 ?_) | apply (zs70 ?_) | (apply zg27; first | refine zs71 ?_ | refine zs72 ?_) | apply (zs73 ?_) | apply (zs74 ?_) | apply (zs76 ?_) | apply (zs77 ?_) | apply (zs78 ?_) | (apply zg28; refine zs84 ?_) | fail)
        apply Yj H
        · exact zk
        apply Yt; exact rfl; exact rfl; exact rfl; exact ⟨rfl, rfl⟩
    have hgd : YT n.net c.2.2.1 c.2.2.2.1 = true := by
      cases h : YT n.net c.2.2.1 c.2.2.2.1 with
      | true => rfl
      | false => exact absurd (.inl h) hg
    have hpos : ¬ Jg l c.2.2.2.2 < 0 := fun h => hg (.inr h)
    rw [hgf, hff, if_neg hg] at hce
    rw [hgd] at hus
    rcases Nat.eq_zero_or_pos i with h0 | h0
    · subst h0
      rw [if_neg (by omega)] at hce
      repeat' (first | ((first | apply Ya ZY | apply Yb ZY); exact za; exact rfl; exact fun _ hw => (hplc hw)) | ((first | apply Ya en95 | apply Yb en95); exact za; exact rfl; exact fun _ hw => (hix hin.cons.cons.cons hw)) | ((first | apply Ya ZR | apply Yb ZR); exact za; exact rfl; exact fun _ hw => (hus hin.cons.cons.cons hw)) | ((first | apply Ya U0 | apply Yb U0); exact za; exact rfl; exact fun _ hw => (hfi hrf.cons.cons.cons hw)) | apply (zs1 ?_) | apply (zs2 ?_) | (apply zg1; first | refine zs3 ?_ | refine zs4 ?_) | (apply zg2; refine zs6 ?_) | (apply zg3; first | refine zs7 ?_ | refine zs8 ?_ | refine zs61 ?_) | (apply zg5; refine zs57 ?_) | (apply zg6; refine zs12 ?_) | (apply (zs17 ?_ ?_) <;> intro _ <;> try (exfalso; omega)) | (apply (zs19 ?_ ?_) <;> intro _ <;> try (exfalso; omega)) | (apply zg13; refine zs30 ?_) | (apply zg20; refine zs47 ?_) | (apply zg22; refine zs51 ?_) | (apply zg24; (refine zs54 ?_; intro _)) | apply (zs65 ?_) | apply (zs66 ?_) | apply (zs68 ?_) | apply (zs69 ?_) | apply (zs70 ?_) | (apply zg27; first | refine zs71 ?_ | refine zs72 ?_) | apply (zs73 ?_) | apply (zs76 ?_) | apply (zs79 ?_) | (apply zg28; refine zs84 ?_) | fail)
      apply hK (0 + 1)
      · exact ⟨by omega, hstep hce⟩
      · omega
      · exact zu
      · unfold netN
        exact zk
    have hget2 : s.cells[((i : Int) - 1).toNat]? = some (Yl s.sch (i - 1)) := by
      rw [show ((i : Int) - 1).toNat = i - 1 by omega]
      exact YC (s := s.sch) (show i - 1 < s.cells.length by omega)
    obtain ⟨p, hpv⟩ : ∃ p, Yl s.sch (i - 1) = p := ⟨_, rfl⟩
    rw [hpv] at hce hget2
    have hcl := Yc0 p c
    have hcm := fun {H' : List HP} {w : World} (hw : St B w0 H' w) => Vz p c hw
    obtain ⟨q, hq⟩ : ∃ q, cmpV (nums p) (nums c) = q := ⟨_, rfl⟩
    rw [hq] at hcl hcm
    by_cases hlt2 : q < 0
    · rw [hcl.1 hlt2, if_neg (by simp)] at hce
      repeat' (first | ((first | apply Ya ZY | apply Yb ZY); exact za; exact rfl; exact fun _ hw => (hplc hw)) | ((first | apply Ya en95 | apply Yb en95); exact za; exact rfl; exact fun _ hw => (hix hin.cons.cons.cons hw)) | ((first | apply Ya ZR | apply Yb ZR); exact za; exact rfl; exact fun _ hw => (hus hin.cons.cons.cons hw)) | ((first | apply Ya U0 | apply Yb U0); exact za; exact rfl; exact fun _ hw => (hfi hrf.cons.cons.cons hw)) | ((first | apply Ya en62 | apply Yb en62); exact za; exact rfl; exact fun _ hw => (hcm hw)) | apply (zs1 ?_) | apply (zs2 ?_) | (apply zg1; refine zs4 ?_) | (apply zg2; refine zs6 ?_) | (apply zg3; first | refine zs7 ?_ | refine zs8 ?_ | refine zs61 ?_) | (apply zg5; refine zs57 ?_) | (apply zg6; first | refine zs11 ?_ | refine zs12 ?_) | (apply (zs17 ?_ ?_) <;> intro _ <;> try (exfalso; omega)) | (apply (zs19 ?_ ?_) <;> intro _ <;> try (exfalso; omega)) | (apply (zs20 ?_ ?_) <;> intro _ <;> try (exfalso; omega)) | (apply zg13; refine zs30 ?_) | (apply zg14; refine zs31 ?_) | (apply zg20; refine zs47 ?_) | (apply zg22; refine zs51 ?_) | (apply zg24; (refine zs54 ?_; intro _)) | apply (zs65 ?_) | apply (zs66 ?_) | apply (zs68 ?_) | apply (zs69 ?_) | apply (zs70 ?_) | (apply zg27; first | refine zs71 ?_ | refine zs72 ?_) | apply (zs73 ?_) | apply (zs76 ?_) | apply (zs79 ?_) | (apply zg28; refine zs84 ?_) | fail)
      apply hK (i + 1)
      · exact ⟨by omega, hstep hce⟩
      · omega
      · exact zu
      · unfold netN
        exact zk
    · have hnl : Zg p c = false := by
        cases h : Zg p c with
        | false => rfl
        | true => exact absurd (hcl.2 h) hlt2
      rw [hnl, if_pos ⟨h0, rfl⟩] at hce
      rw [hbad (by rw [hce]; decide), hce]
      repeat' (first | ((first | apply Ya ZY | apply Yb ZY); exact za; exact rfl; exact fun _ hw => (hplc hw)) | ((first | apply Ya en95 | apply Yb en95); exact za; exact rfl; exact fun _ hw => (hix hin.cons.cons.cons hw)) | ((first | apply Ya ZR | apply Yb ZR); exact za; exact rfl; exact fun _ hw => (hus hin.cons.cons.cons hw)) | ((first | apply Ya U0 | apply Yb U0); exact za; exact rfl; exact fun _ hw => (hfi hrf.cons.cons.cons hw)) | ((first | apply Ya en62 | apply Yb en62); exact za; exact rfl; exact fun _ hw => (hcm hw)) | apply (zs1 ?_) | apply (zs2 ?_) | (apply zg1; refine zs4 ?_) | (apply zg2; refine zs6 ?_) | (apply zg3; first | refine zs7 ?_ | refine zs8 ?_ | refine zs61 ?_) | (apply zg5; refine zs57 ?_) | (apply zg6; first | refine zs11 ?_ | refine zs12 ?_) | (apply (zs17 ?_ ?_) <;> intro _ <;> try (exfalso; omega)) | (apply (zs19 ?_ ?_) <;> intro _ <;> try (exfalso; omega)) | (apply (zs20 ?_ ?_) <;> intro _ <;> try (exfalso; omega)) | (apply zg14; refine zs31 ?_) | (apply zg20; refine zs47 ?_) | (apply zg22; refine zs51 ?_) | (apply zg24; (refine zs54 ?_; intro _)) | apply (zs65 ?_) | apply (zs66 ?_) | apply (zs68 ?_) | apply (zs69 ?_) | apply (zs70 ?_) | (apply zg27; first | refine zs71 ?_ | refine zs72 ?_) | apply (zs73 ?_) | apply (zs74 ?_) | apply (zs76 ?_) | apply (zs77 ?_) | apply (zs78 ?_) | (apply zg28; refine zs84 ?_) | fail)
      apply Yj H
      · exact zk
      apply Yt; exact rfl; exact rfl; exact rfl; exact ⟨rfl, rfl⟩
  · repeat' (first | apply (zs2 ?_) | (apply (zs17 ?_ ?_) <;> intro _ <;> try (exfalso; omega)) | apply (zs65 ?_) | apply (zs68 ?_) | apply (zs69 ?_) | apply (zs70 ?_) | (apply zg27; refine zs72 ?_) | apply (zs74 ?_) | apply (zs75 ?_) | apply (zs80 ?_) | apply (zs81 ?_) | fail)
    rw [show i = s.cells.length by omega] at hall
    rw [Xo fun k _ hk => hall k (by omega)]
    apply Yj H
    · exact zk
    apply Yt; exact rfl; exact rfl; exact rfl; exact ⟨rfl, rfl⟩
end Go.Proofs.YtmalhidldgfeoaaGreatDoor
namespace Go.Eng
open Go.RowKit
theorem Ydz {P : Program} {B : Nat} {w0 : World} {env : Env} {H : List HP} {n : Nat} (T : Tab P) {fn : Func} {Φ : Value → List HP → Prop} {p g rt : Nat} {v : Value} {cs : Array Value} {tt : TypeId} {fr : Nat × Nat} (hr : fn.results = #[.cell p rt]) (hp : get env p = some (.pointer (some ⟨g, 0, none⟩)))
    (hm : Eng.blk g (.cells cs tt fr) ∈ H) (hv : nth cs.toList 0 = some v) (ht : Eng.look T.sc rt = some ()) {H2 : List HP} (hH : ∀ w, St B w0 H w → St B w0 H2 w) (h : Φ v H2) : VQ ⟨n, [], none⟩ B w0 (bodyPost P fn (Post B w0 Φ)) .ret env H := by
  refine ⟨fun a w ha hw => bodyPost_ret (v := v) ?_ ha.defers ⟨_, H2, rfl, hH w hw, h⟩⟩
  have hp' := ha.slot p _ hp
  rw [YaE] at hv
  have hc := YP (i := 0) (hw.blk hm).1
  simp [results, hr, Array.getD_eq_getD_getElem?, hp', asAddr, loadVar, Xl (T.scal ht).1, hc, hv]
end Go.Eng
namespace Go.Proofs.YtmalhidldgfeoaaGreatDoor
open Go.RowKit Go.Eng Go.Nw
theorem Yez {s : Sch} {i : Nat} (hi : i < s.cells.length) (h : ∀ j ∈ inI s (Yl s i).1 s.cells.length, j < i → J3 (Yl s i) (Yl s j) = false) : ZN s i = false := by
  unfold ZN
  rw [List.any_eq_false]
  intro j hj
  have hj := List.mem_range.1 hj
  rw [Bool.and_eq_true, decide_eq_true_eq]
  rintro ⟨h1, h2⟩
  rw [h j (Vn.2 ⟨by omega, h1⟩) hj] at h2
  cases h2
theorem Yek {s : Sch} {i j : Nat} (hji : j < i) (hs : (Yl s j).1 = (Yl s i).1) (ht : J3 (Yl s i) (Yl s j) = true) : ZN s i = true := by
  unfold ZN
  rw [List.any_eq_true]
  exact ⟨j, List.mem_range.2 hji, by rw [decide_eq_true hs, ht]; rfl⟩
set_option maxRecDepth 10000 in
set_option maxHeartbeats 2000000 in
theorem YcJ (s : SchM) (i : Nat) (hi : i < s.cells.length) (hl : s.cells.length ≤ 1000) {B : Nat} {w0 : World} {H : List HP} {w : World} (hr : Rd B w0 H s.A (s.cells.flatMap celF)) (hw : St B w0 H w) :
    Calls Tryz.prog 56 [s.val, .int .i64 i].toArray w (Post B w0 fun v K => v = .bool (ZN s.sch i) ∧ K = H) := by
  refine Xz Tryz.func56 Tryz.ntmps56 rfl rfl hw ?_
  have hget : s.cells[i]? = some (Yl s.sch i) := YC (s := s.sch) hi
  obtain ⟨c, hc⟩ : ∃ c, Yl s.sch i = c := ⟨_, rfl⟩
  rw [hc] at hget
  repeat' (first | (apply zg2; refine zs6 ?_) | (apply zg3; first | refine zs7 ?_ | refine zs8 ?_ | refine zs61 ?_) | (apply zg5; refine zs57 ?_) | (apply zg22; refine zs51 ?_) | (apply zg23; first | (refine zs52 ?_; intro _) | (refine zs53 ?_; intro _)) | (apply zg24; (refine zs54 ?_; intro _)) | apply (zs65 ?_) | apply (zs68 ?_) | apply (zs69 ?_) | apply (zs70 ?_) | fail)
  rename_i gs gi gr gc
  apply Ys _ en59
  exact za
  exact rfl
  exact fun _ hw => (YbM s c.1 (hw))
  rintro _ _ ⟨g1, g2, rfl, rfl⟩
  repeat' (first | apply (zs65 ?_) | apply (zs68 ?_) | apply (zs73 ?_) | fail)
  have hr6 : Rd B w0 (intB g2 c.1 :: schB g1 s :: blk gc (.cells (celF c).toArray 40 (0, 0)) :: blk gi (.cells #[.int .i64 i] 3 (0, 0)) :: schB gs s :: H) s.A (s.cells.flatMap celF) := hr.cons.cons.cons.cons.cons
  refine XC (gf := 118) (lb := [.pointer (some ⟨g1, 0, none⟩), .pointer (some ⟨g2, 0, none⟩)]) (xs := inXs s.sch c.1) (intB g2 c.1 :: schB g1 s :: blk gc (.cells (celF c).toArray 40 (0, 0)) :: blk gi (.cells #[.int .i64 i] 3 (0, 0)) :: schB gs s :: H) (fun _ : Unit => [blk gr (.cells #[.bool false] 4 (0, 0))])
    (fun k _ => ∀ m j, m < k → (inI s.sch c.1 s.cells.length)[m]? = some j → j < i → J3 c (Yl s.sch j) = false) (fun e K => e = .ret ∧ ZN s.sch i = true ∧ K = [blk gr (.cells #[.bool true] 4 (0, 0))]) () rfl YgK (Ybn s c.1 g1 g2 hr6 (by omega) (.tail _ (.head _)) (.head _)) rfl ?_ (by kernel_rfl) (by kernel_rfl) ?_ (fun m j h => absurd h (Nat.not_lt_zero _)) ?_ ?_ ?_
  · intro args h
    obtain ⟨k, hk⟩ := List.mem_iff_getElem?.1 h
    obtain ⟨i, _, _, rfl⟩ := V3 hk
    rfl
  · exact fun w hw => hw.perm (.trans (.cons _ (.cons _ (.swap _ _ _))) (.trans (.cons _ (.swap _ _ _)) (.swap _ _ _)))
  · rintro l k args R ⟨⟩ hk hI
    obtain ⟨j, hj, hlt, rfl⟩ := V3 hk
    have hlt2 : j < s.cells.length := hlt
    dsimp only [J2, List.cons_append, List.nil_append]
    have hgj : s.cells[j]? = some (Yl s.sch j) := YC (s := s.sch) hlt
    have hjs : (Yl s.sch j).1 = c.1 := (Vn.1 (List.mem_of_getElem? hj)).2
    obtain ⟨d, hd⟩ : ∃ d, Yl s.sch j = d := ⟨_, rfl⟩
    rw [hd] at hgj
    have htc : J3 c d = true ↔ (c.2.2.1 = d.2.2.1 ∨ c.2.2.1 = d.2.2.2.1 ∨ c.2.2.2.1 = d.2.2.1 ∨ c.2.2.2.1 = d.2.2.2.1) := by unfold J3 YM toC; rw [decide_eq_true_eq]
    repeat' (first | apply (zs2 ?_) | apply (zs65 ?_) | apply (zs70 ?_) | fail)
    apply Z3 Yf
    intro R'
    unfold intB schB
    have hr7 : Rd B w0 (R' :: blk gr (.cells #[.bool false] 4 (0, 0)) :: intB g2 c.1 :: schB g1 s :: blk gc (.cells (celF c).toArray 40 (0, 0)) :: blk gi (.cells #[.int .i64 i] 3 (0, 0)) :: schB gs s :: H) s.A (s.cells.flatMap celF) := hr6.cons.cons
    unfold intB schB at hr7
    clear hr6
    repeat' (first | apply (zs1 ?_) | (apply zg1; first | refine zs3 ?_ | refine zs4 ?_) | (apply zg2; refine zs6 ?_) | (apply zg3; first | refine zs7 ?_ | refine zs61 ?_) | (apply zg5; refine zs57 ?_) | (apply zg6; first | refine zs11 ?_ | refine zs12 ?_) | (apply zg7; (refine zs15 ?_ ?_ <;> intro _ <;> try (exfalso; omega))) | (apply (zs17 ?_ ?_) <;> intro _ <;> try (exfalso; omega)) | (apply zg22; first | refine zs50 ?_ | refine zs51 ?_) | (apply zg24; (refine zs54 ?_; intro _)) | apply (zs65 ?_) | apply (zs68 ?_) | apply (zs69 ?_) | apply (zs70 ?_) | (apply zg27; first | refine zs71 ?_ | refine zs72 ?_) | apply (zs73 ?_) | apply (zs74 ?_) | apply (zs76 ?_) | apply (zs78 ?_) | apply (zs79 ?_) | fail)
    all_goals first
      | (refine Ow [blk gr (.cells #[.bool true] 4 (0, 0))] ⟨rfl, ?_, rfl⟩ ?_
         · exact Yek (j := j) (by omega) (by rw [hc]; exact hjs) (by rw [hc, hd]; exact htc.2 (by omega))
         · dsimp only [List.cons_append, List.nil_append]
           exact zk
         done)
      | (refine JF () ?_ ?_
         · intro m j2 hm hj2 hji
           rcases Nat.lt_succ_iff_lt_or_eq.1 hm with h | h
           · exact hI m j2 h hj2 hji
           · subst h
             obtain rfl := Option.some.inj (hj.symm.trans hj2)
             rw [hd]
             exact Bool.eq_false_iff.2 fun h => by have := htc.1 h; omega
         · dsimp only [List.cons_append, List.nil_append]
           exact zk
         done)
  · rintro D ⟨⟩ hI
    have htw : ZN s.sch i = false := Yez hi fun j hj hji => by
      rw [hc] at hj ⊢
      obtain ⟨m, hm⟩ := List.mem_iff_getElem?.1 hj
      refine hI m j ?_ hm hji
      rw [inXs, List.length_map]
      exact (List.getElem?_eq_some_iff.1 hm).1
    rw [htw]
    dsimp only [List.cons_append, List.nil_append]
    unfold intB schB
    repeat' (first | (apply zg22; refine zs50 ?_) | apply (zs65 ?_) | apply (zs68 ?_) | apply (zs69 ?_) | apply (zs70 ?_) | apply (zs74 ?_) | apply (zs79 ?_) | fail)
    apply XY Yf
    apply VQ_m
    apply Ydz T (H2 := H); exact rfl; exact rfl; exact zm; exact rfl; exact rfl; exact zk; exact ⟨rfl, rfl⟩
  · rintro D e K ⟨rfl, htw, rfl⟩ hjmp
    rw [htw]
    dsimp only [List.cons_append, List.nil_append]
    unfold intB schB
    repeat' (first | apply (zs77 ?_) | apply (zs78 ?_) | fail)
    apply XY Yf
    apply VQ_m
    apply Ydz T (H2 := H); exact rfl; exact rfl; exact zm; exact rfl; exact rfl; exact zk; exact ⟨rfl, rfl⟩
open Go.RowKit Go.Eng Go.Nw
theorem VS (n : NetM) (v : Int) {B : Nat} {w0 : World} {H : List HP} {w : World} (hw : St B w0 H w) :
    Calls Tryz.prog 173 [n.val, .int .i64 v].toArray w (Post B w0 fun u K => u = .bool (insE v n.net.nodes) ∧ K = H) := by
  have e1 : n.net.nodes = n.nodes := rfl
  refine Yd Tryz.func173 Tryz.ntmps173 rfl rfl hw ?_
  repeat' (first | apply (zs1 ?_) | apply (zs2 ?_) | (apply zg1; first | refine zs3 ?_ | refine zs4 ?_) | (apply zg2; refine zs6 ?_) | (apply zg3; refine zs7 ?_) | (apply zg6; first | refine zs11 ?_ | refine zs12 ?_) | (apply (zs17 ?_ ?_) <;> intro _ <;> try (exfalso; omega)) | (apply (zs20 ?_ ?_) <;> intro _ <;> try (exfalso; omega)) | (apply zg23; (refine zs52 ?_; intro _)) | apply (zs65 ?_) | apply (zs68 ?_) | apply (zs69 ?_) | apply (zs70 ?_) | apply (zs74 ?_) | fail)
  all_goals (
    apply Yj H
    · exact zk
    apply Yc; exact rfl; exact rfl
    first
      | exact ⟨by rw [show insE v n.net.nodes = true from decide_eq_true (by omega)], rfl⟩
      | exact ⟨by rw [show insE v n.net.nodes = false from decide_eq_false (by omega)], rfl⟩)
theorem YcS (n : NetM) (c : Cel) (gn : Nat) {B : Nat} {w0 : World} {H : List HP} {w : World} (hm : blk gn (.cells #[.int .i64 n.nodes, .slice n.pA n.rows.length n.pcap, .int .i64 n.noise, .int .i64 n.thr, .slice n.lA n.links.length n.lcap, .slice n.mA n.margin.length n.mcap] 26 (0, 0)) ∈ H) (hw : St B w0 H w) :
    Calls Tryz.prog 172 [celV c, .pointer (some ⟨gn, 0, none⟩)].toArray w (Post B w0 fun v K => v = .bool (Vg n.net c) ∧ K = H) := by
  refine Yd Tryz.func172 Tryz.ntmps172 rfl rfl hw ?_
  obtain ⟨b, hb⟩ : ∃ b, Vg n.net c = b := ⟨_, rfl⟩
  rw [hb]
  unfold Vg YM toC at hb
  repeat' (first | ((first | apply Xq U4 | apply Xp U4); exact za; exact rfl; exact fun _ hw => (VS n _ hw); all_goals (intro hB; (try simp only [decide_eq_true_eq, decide_eq_false_iff_not] at hB); try (exfalso; omega))) | apply (zs1 ?_) | apply (zs2 ?_) | (apply zg1; first | refine zs3 ?_ | refine zs4 ?_) | (apply zg2; refine zs6 ?_) | (apply zg3; first | refine zs7 ?_ | refine zs8 ?_) | (apply zg6; first | refine zs11 ?_ | refine zs12 ?_) | (apply zg20; first | refine zs47 ?_ | refine zs48 ?_) | (apply zg23; (refine zs52 ?_; intro _)) | apply (zs65 ?_) | apply (zs68 ?_) | apply (zs69 ?_) | apply (zs70 ?_) | apply (zs74 ?_) | fail)
  all_goals (
    apply Yj H
    · exact zk
    apply Yc; exact rfl; exact rfl
    refine ⟨?_, rfl⟩
    rw [← hb]
    simp [*])
theorem Qh (p : Cel → Bool) (l : List Cel) (f : Nat) (cs : List Value) (hen : ∀ xs w, (callFunc f xs).run Tryz.prog w = .ok (.enter f xs) w) (hlen : l.length ≤ 1000) {A : Option Addr} {cap B : Nat} {w0 : World} {H : List HP} {w : World} (hr : Rd B w0 H A (l.flatMap celF))
    (hp : ∀ a ∈ l, ∀ w, St B w0 H w → Calls Tryz.prog f ([celV a] ++ cs).toArray w (Post B w0 fun v K => v = .bool (p a) ∧ K = H)) (hw : St B w0 H w) :
    Calls Tryz.prog 174 [.slice A l.length cap, .func (.func f) #[] cs.toArray].toArray w (Post B w0 fun v K => v = .bool (l.any p) ∧ K = H) := by
  refine Yd Tryz.func174 Tryz.ntmps174 rfl rfl hw ?_
  rw [← Ycg]
  repeat' (first | apply (zs1 ?_) | apply (zs2 ?_) | apply (zs65 ?_) | apply (zs68 ?_) | apply (zs69 ?_) | apply (zs70 ?_) | fail)
  first | apply Ya QU | apply Yb QU
  exact za
  exact rfl
  exact fun _ hw => (OS p l f cs hen hlen hr hp hw)
  by_cases h0 : 0 ≤ Yq p l 0
  · rw [decide_eq_true h0]
    repeat' (first | apply (zs2 ?_) | (apply (zs20 ?_ ?_) <;> intro _ <;> try (exfalso; omega)) | apply (zs65 ?_) | apply (zs68 ?_) | apply (zs74 ?_) | fail)
    apply Yc; exact rfl; exact rfl
    exact ⟨rfl, rfl⟩
  · rw [decide_eq_false h0]
    repeat' (first | apply (zs2 ?_) | (apply (zs20 ?_ ?_) <;> intro _ <;> try (exfalso; omega)) | apply (zs65 ?_) | apply (zs68 ?_) | apply (zs74 ?_) | fail)
    apply Yc; exact rfl; exact rfl
    exact ⟨rfl, rfl⟩
def JL (n : Net) (c : Cel) (node : Int) (m : Nat) : Int := (([c.2.2.1, c.2.2.2.1].take m).map fun e => powN n e node).sum
theorem Yev {n : Net} {c : Cel} {node e : Int} {m : Nat} (h : [c.2.2.1, c.2.2.2.1][m]? = some e) : JL n c node (m + 1) = JL n c node m + powN n e node := by
  unfold JL
  rw [List.take_add_one, h, Option.toList_some, List.map_append, List.sum_append]
  simp
theorem Ygh {n : Net} (hok : Ok n) (c : Cel) (node : Int) {m : Nat} (h : m ≤ 2) : 0 ≤ JL n c node m ∧ JL n c node m ≤ 137438953472 := by
  have h1 := Jl hok c.2.2.1 node
  have h2 := Jl hok c.2.2.2.1 node
  match m, h with
  | 0, _ => simp [JL]
  | 1, _ => simp [JL]; omega
  | 2, _ => simp [JL]; omega
set_option maxRecDepth 10000 in
set_option maxHeartbeats 2000000 in
theorem YcF (n : NetM) (l : List Cel) (j : Nat) (node : Int) (hok : Ok n.net) (hnode : 0 ≤ node ∧ node < n.nodes) (hlen : l.length ≤ 1000) {A : Option Addr} {cap B : Nat} {w0 : World} {H : List HP} {w : World} (hin : n.In B w0 H) (hr : Rd B w0 H A (l.flatMap celF)) (hw : St B w0 H w) :
    Calls Tryz.prog 175 [n.val, .slice A l.length cap, .int .i64 j, .int .i64 node].toArray w (Post B w0 fun v K => v = .int .i64 (Xm n.net l j node l.length) ∧ K = H) := by
  refine Yd Tryz.func175 Tryz.ntmps175 rfl rfl hw ?_
  have e1 : n.net.nodes = n.nodes := rfl
  repeat' (first | apply (zs1 ?_) | apply (zs2 ?_) | (apply zg4; refine zs9 ?_) | (apply zg23; (refine zs52 ?_; intro _)) | apply (zs65 ?_) | apply (zs68 ?_) | apply (zs69 ?_) | apply (zs70 ?_) | apply (zs73 ?_) | fail)
  rename_i gn
  refine Yk (fun (k : Nat) => [(16, .int .i64 k), (15, .int .i64 l.length), (14, .slice A l.length cap), (9, .int .i64 (Xm n.net l j node k)), (4, .pointer (some ⟨gn, 0, none⟩)), (2, .int .i64 j), (3, .int .i64 node)]) (fun _ => netN gn n :: H) (fun k => k ≤ l.length) (fun k => l.length - k) 0 (Nat.zero_le _) ?_ (fun w hw => hw) ?_
  · exact zu
  rintro k hk K hK
  have hbd := Ydp hok l j node k
  have hrc := hr.cons (X := netN gn n)
  by_cases hlt : k < l.length
  · obtain ⟨c, hc⟩ : ∃ c, l[k]? = some c := ⟨_, List.getElem?_eq_getElem hlt⟩
    have hcl : celL l k = c := by unfold celL; rw [List.getD_eq_getElem?_getD, hc]; rfl
    have hst : Xm n.net l j node (k + 1) = Xm n.net l j node k + if k = j then 0 else powN n.net c.2.2.1 node + powN n.net c.2.2.2.1 node := by
      rw [Xm, hcl]; rfl
    by_cases hkj : k = j
    · rw [if_pos hkj, Int.add_zero] at hst
      repeat' (first | apply (zs1 ?_) | apply (zs2 ?_) | (apply zg3; refine zs61 ?_) | (apply zg5; refine zs57 ?_) | (apply zg7; (refine zs15 ?_ ?_ <;> intro _ <;> try (exfalso; omega))) | (apply (zs17 ?_ ?_) <;> intro _ <;> try (exfalso; omega)) | (apply zg13; refine zs30 ?_) | (apply zg22; refine zs51 ?_) | (apply zg24; (refine zs54 ?_; intro _)) | apply (zs65 ?_) | apply (zs68 ?_) | apply (zs69 ?_) | apply (zs70 ?_) | (apply zg27; refine zs71 ?_) | apply (zs73 ?_) | apply (zs75 ?_) | apply (zs76 ?_) | apply (zs80 ?_) | apply (zs81 ?_) | fail)
      apply hK (k + 1)
      · show k + 1 ≤ _
        omega
      · omega
      · rw [hst]
        exact zu
      · exact zk
    rw [if_neg hkj] at hst
    repeat' (first | apply (zs1 ?_) | apply (zs2 ?_) | (apply zg2; refine zs6 ?_) | (apply zg3; first | refine zs7 ?_ | refine zs61 ?_) | (apply zg4; refine zs9 ?_) | (apply zg5; refine zs57 ?_) | (apply zg7; (refine zs15 ?_ ?_ <;> intro _ <;> try (exfalso; omega))) | (apply (zs17 ?_ ?_) <;> intro _ <;> try (exfalso; omega)) | (apply zg22; refine zs51 ?_) | (apply zg24; (refine zs54 ?_; intro _)) | (apply zg26; (refine zs56 ?_; intro _)) | apply (zs65 ?_) | apply (zs68 ?_) | apply (zs69 ?_) | apply (zs70 ?_) | (apply zg27; first | refine zs71 ?_ | refine zs72 ?_) | apply (zs73 ?_) | apply (zs76 ?_) | fail)
    rename_i gc _ ge
    refine Yk (fun (m : Nat) => [(30, .int .i64 m), (29, .int .i64 ((2 : Nat) : Int)), (28, .slice (some ⟨ge, 0, none⟩) ([c.2.2.1, c.2.2.2.1] : List Int).length 2), (9, .int .i64 (Xm n.net l j node k + JL n.net c node m)), (16, .int .i64 k), (15, .int .i64 l.length), (14, .slice A l.length cap), (4, .pointer (some ⟨gn, 0, none⟩)), (2, .int .i64 j), (3, .int .i64 node)]) (fun _ => blk ge (.cells #[.int .i64 c.2.2.1, .int .i64 c.2.2.2.1] 3 (0, 0)) :: netN gn n :: H) (fun m => m ≤ 2) (fun m => 2 - m) 0 (Nat.zero_le _) ?_ ?_ ?_
    · rw [show JL n.net c node 0 = 0 from rfl, Int.add_zero]
      exact zu
    · exact zk
    rintro m hm K2 hK2
    have hpb := Ygh hok c node hm
    have hre : Rd B w0 (blk ge (.cells #[.int .i64 c.2.2.1, .int .i64 c.2.2.2.1] 3 (0, 0)) :: netN gn n :: H) (some ⟨ge, 0, none⟩) (([c.2.2.1, c.2.2.2.1] : List Int).flatMap numF) := Rd.blk (cs := #[.int .i64 c.2.2.1, .int .i64 c.2.2.2.1]) (.head _)
    clear hrc
    unfold netN at hre ⊢
    by_cases hlt2 : m < 2
    · obtain ⟨e, he⟩ : ∃ e, [c.2.2.1, c.2.2.2.1][m]? = some e := ⟨_, List.getElem?_eq_getElem hlt2⟩
      have hst2 := Yev (n := n.net) (node := node) he
      have hcn := fun {H' : List HP} {w : World} (hw : St B w0 H' w) => VS n e hw
      have hl2 : ([c.2.2.1, c.2.2.2.1] : List Int).length = 2 := rfl
      cases hie : insE e n.net.nodes with
      | false =>
        rw [hie] at hcn
        rw [show powN n.net e node = 0 by unfold powN; rw [hie]; simp, Int.add_zero] at hst2
        repeat' (first | ((first | apply Ya U4 | apply Yb U4); exact za; exact rfl; exact fun _ hw => (hcn hw)) | apply (zs1 ?_) | apply (zs2 ?_) | (apply zg3; first | refine zs8 ?_ | refine zs60 ?_) | (apply zg5; refine zs57 ?_) | (apply (zs17 ?_ ?_) <;> intro _ <;> try (exfalso; omega)) | (apply zg13; refine zs30 ?_) | apply (zs65 ?_) | apply (zs68 ?_) | apply (zs69 ?_) | apply (zs70 ?_) | (apply zg27; first | refine zs71 ?_ | refine zs72 ?_) | apply (zs73 ?_) | apply (zs76 ?_) | apply (zs79 ?_) | fail)
        apply hK2 (m + 1)
        · show m + 1 ≤ 2
          omega
        · omega
        · rw [hst2]
          exact zu
        · unfold netN
          exact zk
      | true =>
        rw [hie] at hcn
        have he2 : 0 ≤ e ∧ e < n.net.nodes := of_decide_eq_true hie
        have hp0 : (n.rows.length : Int) = n.net.nodes := by
          have := hok.p0
          rwa [show n.net.power = n.rows.map RowM.xs from rfl, List.length_map] at this
        obtain ⟨r, hrw⟩ : ∃ r, n.rows[e.toNat]? = some r := ⟨_, List.getElem?_eq_getElem (by omega)⟩
        have hrm := List.mem_of_getElem? hrw
        have hrl : (r.xs.length : Int) = n.net.nodes := hok.p1 r.xs (List.mem_map.2 ⟨r, hrm, rfl⟩)
        obtain ⟨q, hq⟩ : ∃ q, r.xs[node.toNat]? = some q := ⟨_, List.getElem?_eq_getElem (by omega)⟩
        have hpw : powN n.net e node = q := by
          unfold powN
          rw [if_pos ⟨hie, decide_eq_true (by omega)⟩]
          exact YbJ (n := n.net) (r := r.xs) (by simp [NetM.net, hrw]) hq
        have hqb := Jl hok e node
        rw [hpw] at hqb hst2
        have hpd := hin.pw
        have hrd := hin.rw_ r hrm
        have hs1 := hin.s1
        have hs2 := hin.s2 r hrm
        repeat' (first | ((first | apply Ya U4 | apply Yb U4); exact za; exact rfl; exact fun _ hw => (hcn hw)) | apply (zs1 ?_) | apply (zs2 ?_) | (apply zg2; refine zs6 ?_) | (apply zg3; first | refine zs7 ?_ | refine zs8 ?_ | refine zs60 ?_) | (apply zg5; refine zs57 ?_) | (apply (zs17 ?_ ?_) <;> intro _ <;> try (exfalso; omega)) | (apply zg13; refine zs30 ?_) | apply (zs65 ?_) | apply (zs68 ?_) | apply (zs69 ?_) | apply (zs70 ?_) | (apply zg27; refine zs71 ?_) | apply (zs73 ?_) | apply (zs76 ?_) | apply (zs79 ?_) | fail)
        apply hK2 (m + 1)
        · show m + 1 ≤ 2
          omega
        · omega
        · rw [hst2]
          exact zu
        · unfold netN
          exact zk
    · obtain rfl : m = 2 := by omega
      have hp2 : Xm n.net l j node (k + 1) = Xm n.net l j node k + JL n.net c node 2 := by
        rw [hst]
        simp [JL]
      repeat' (first | apply (zs1 ?_) | (apply (zs17 ?_ ?_) <;> intro _ <;> try (exfalso; omega)) | (apply zg13; refine zs30 ?_) | apply (zs65 ?_) | apply (zs68 ?_) | apply (zs69 ?_) | apply (zs70 ?_) | (apply zg27; refine zs72 ?_) | apply (zs75 ?_) | apply (zs79 ?_) | apply (zs80 ?_) | apply (zs81 ?_) | fail)
      apply hK (k + 1)
      · show k + 1 ≤ _
        omega
      · omega
      · rw [hp2]
        exact zu
      · unfold netN
        exact zk
  · repeat' (first | apply (zs1 ?_) | apply (zs2 ?_) | (apply (zs17 ?_ ?_) <;> intro _ <;> try (exfalso; omega)) | apply (zs65 ?_) | apply (zs68 ?_) | apply (zs69 ?_) | apply (zs70 ?_) | (apply zg27; refine zs72 ?_) | apply (zs74 ?_) | apply (zs75 ?_) | apply (zs80 ?_) | apply (zs81 ?_) | fail)
    apply Yj H
    · exact zk
    apply Yc; exact rfl; exact rfl
    rw [show k = l.length by omega]
    exact ⟨rfl, rfl⟩
set_option maxRecDepth 10000 in
set_option maxHeartbeats 1000000 in
theorem Ji (n : NetM) (l : List Cel) (j : Nat) (node : Int) (hck : Yy n.net = 0) (hnode : 0 ≤ node ∧ node < n.nodes) (hj : j < l.length) (hlen : l.length ≤ 1000) (hno : l.any (Vg n.net) = false) {A : Option Addr} {cap B : Nat} {w0 : World} {H : List HP} {w : World} (hin : n.In B w0 H) (hr : Rd B w0 H A (l.flatMap celF)) (hw : St B w0 H w) :
    Calls Tryz.prog 116 [n.val, .slice A l.length cap, .int .i64 j, .int .i64 node].toArray w (Post B w0 fun v K => v = .int .i64 (J0 n.net l j node) ∧ K = H) := by
  refine Yd Tryz.func116 Tryz.ntmps116 rfl rfl hw ?_
  have e1 : n.net.nodes = n.nodes := rfl
  have hins : insE node n.net.nodes = true := decide_eq_true hnode
  have hd : J0 n.net l j node = Xm n.net l j node l.length := by
    unfold J0
    rw [if_neg (by rw [hck, hins, hno]; simp; omega), Int.toNat_natCast]
  rw [hd]
  have hchk := fun {H' : List HP} {w : World} (hin : n.In B w0 H') (hw : St B w0 H' w) => YH n hin hw
  rw [hck] at hchk
  have hcn := fun {H' : List HP} {w : World} (hw : St B w0 H' w) => VS n node hw
  rw [hins] at hcn
  (apply Jr; apply Zq; apply XV; exact rfl; exact rfl; intro g)
  have hct := fun {H' : List HP} {w : World} (hm : blk g (.cells #[.int .i64 n.nodes, .slice n.pA n.rows.length n.pcap, .int .i64 n.noise, .int .i64 n.thr, .slice n.lA n.links.length n.lcap, .slice n.mA n.margin.length n.mcap] 26 (0, 0)) ∈ H') (hr : Rd B w0 H' A (l.flatMap celF)) (hw : St B w0 H' w) => Qh (Vg n.net) l 172 [.pointer (some ⟨g, 0, none⟩)] YhZ hlen (cap := cap) hr (fun c _ w hw => YcS n c g hm hw) hw
  rw [hno] at hct
  repeat' (first | ((first | apply Ya en50 | apply Yb en50); exact za; exact rfl; exact fun _ hw => (hchk hin.cons hw)) | ((first | apply Ya U4 | apply Yb U4); exact za; exact rfl; exact fun _ hw => (hcn hw)) | ((first | apply Ya YgM | apply Yb YgM); exact za; exact rfl; exact fun _ hw => (hct zm hr.cons hw)) | ((first | apply Ya YgI | apply Yb YgI); exact za; exact rfl; exact fun _ hw => (YcF n l j node (Y2 hck) hnode hlen hin.cons hr.cons hw)) | apply (zs1 ?_) | apply (zs2 ?_) | (apply zg1; refine zs4 ?_) | (apply zg3; refine zs8 ?_) | (apply zg4; refine zs9 ?_) | (apply zg6; refine zs12 ?_) | (apply zg8; (refine zs16 ?_ ?_ <;> intro _ <;> try (exfalso; omega))) | (apply (zs17 ?_ ?_) <;> intro _ <;> try (exfalso; omega)) | (apply (zs20 ?_ ?_) <;> intro _ <;> try (exfalso; omega)) | (apply zg20; refine zs47 ?_) | apply (zs65 ?_) | apply (zs68 ?_) | apply (zs69 ?_) | apply (zs70 ?_) | (apply zg27; refine zs72 ?_) | apply (zs74 ?_) | apply (zs76 ?_) | (apply zg29; (apply Yo; exact za ; exact rfl)) | fail)
  apply Yj H
  · exact zk
  apply Yc; exact rfl; exact rfl; exact ⟨rfl, rfl⟩
open Go.RowKit Go.Eng Go.Nw
theorem Yem {s : Sch} {slot : Int} {j n : Nat} (h : (Yl s j).1 = slot) (hj : j < n) : ∃ R, inI s slot n = inI s slot j ++ j :: R ∧ ∀ x ∈ R, j < x := by
  obtain ⟨m, rfl⟩ : ∃ m, n = j + (m + 1) := ⟨n - j - 1, by omega⟩
  have e : inI s slot (j + (m + 1)) = inI s slot j ++ ((List.range (m + 1)).map (j + ·)).filter fun i => decide ((Yl s i).1 = slot) := by
    unfold inI; rw [List.range_add, List.filter_append]
  rw [e, List.range_succ_eq_map, List.map_cons, List.filter_cons, if_pos (by simpa using h)]
  refine ⟨_, rfl, fun x hx => ?_⟩
  obtain ⟨y, hy, rfl⟩ := List.mem_map.1 (List.mem_filter.1 hx).1
  obtain ⟨z, _, rfl⟩ := List.mem_map.1 hy
  omega
theorem YeU {s : Sch} {slot : Int} {n k j : Nat} (h : (inI s slot n)[k]? = some j) : (inI s slot n).take k = inI s slot j := by
  have hm := Vn.1 (List.mem_of_getElem? h)
  obtain ⟨R, hR, hRx⟩ := Yem hm.2 hm.1
  rw [hR] at h ⊢
  have hk : k = (inI s slot j).length := by
    rcases Nat.lt_trichotomy k (inI s slot j).length with h1 | h1 | h1
    · rw [List.getElem?_append_left h1] at h
      have := (Vn.1 (List.mem_of_getElem? h)).1
      omega
    · exact h1
    · rw [List.getElem?_append_right (by omega)] at h
      obtain ⟨q, hq⟩ : ∃ q, k - (inI s slot j).length = q + 1 := ⟨k - (inI s slot j).length - 1, by omega⟩
      rw [hq, List.getElem?_cons_succ] at h
      have := hRx j (List.mem_of_getElem? h)
      omega
  rw [hk, List.take_left' rfl]
theorem YaH {α : Type} {p : α → Bool} {l : List α} {i : Nat} {x : α} (h : l[i]? = some x) : (l.take (i + 1)).filter p = (l.take i).filter p ++ if p x = true then [x] else [] := by
  rw [List.take_add_one, h, Option.toList_some, List.filter_append]
  cases hp : p x <;> simp [hp]
def JZ (s : Sch) (c : Cel) (l : List Nat) : List Cel := (l.filter fun j => decide ((Yl s j).2.1 = c.2.1)).map (Yl s)
theorem UT {s : Sch} {c : Cel} : ∀ {m : Nat}, m ≤ s.cells.length → JZ s c (inI s c.1 m) = (s.cells.take m).filter (Y3 c)
  | 0, _ => by simp [JZ, inI]
  | m + 1, h => by
    have ih := UT (s := s) (c := c) (m := m) (by omega)
    have hg := YC (s := s) (i := m) (by omega)
    rw [YaH hg, ← ih]
    have hp : Y3 c (Yl s m) = true ↔ (Yl s m).1 = c.1 ∧ (Yl s m).2.1 = c.2.1 := by unfold Y3; rw [decide_eq_true_eq]
    by_cases h1 : (Yl s m).1 = c.1
    · rw [Ydj h1]
      unfold JZ
      rw [List.filter_append, List.map_append]
      by_cases h2 : (Yl s m).2.1 = c.2.1
      · rw [if_pos (hp.2 ⟨h1, h2⟩)]
        simp [h2]
      · rw [if_neg fun h => h2 (hp.1 h).2]
        simp [h2]
    · rw [Yfp h1, if_neg fun h => h1 (hp.1 h).1, List.append_nil]
theorem YbB (s : Sch) (c : Cel) (l : List Nat) (j : Nat) : JZ s c (l ++ [j]) = JZ s c l ++ if (Yl s j).2.1 = c.2.1 then [Yl s j] else [] := by
  unfold JZ
  rw [List.filter_append, List.map_append]
  by_cases h : (Yl s j).2.1 = c.2.1
  · rw [if_pos h]; simp [h]
  · rw [if_neg h]; simp [h]
structure DsM where
  A : Option Addr
  cap : Nat
  M : List Cel
  a : Int
set_option maxRecDepth 10000 in
set_option maxHeartbeats 4000000 in
theorem OY (n : NetM) (s : SchM) (i : Nat) (hck : Yy n.net = 0) (hgood : ∀ c ∈ s.cells, YT n.net (YM c) (toC c) = true) (hi : i < s.cells.length) (hl : s.cells.length ≤ 1000) {B : Nat} {w0 : World} {H : List HP} {w : World} (hin : n.In B w0 H) (hr : Rd B w0 H s.A (s.cells.flatMap celF)) (hw : St B w0 H w) :
    Calls Tryz.prog 57 [n.val, s.val, .int .i64 i].toArray w (Post B w0 fun v K => v = .bool (Zy n.net s.sch i) ∧ K = H) := by
  refine Xz Tryz.func57 Tryz.ntmps57 rfl rfl hw ?_
  have hget : s.cells[i]? = some (Yl s.sch i) := YC (s := s.sch) hi
  obtain ⟨c, hc⟩ : ∃ c, Yl s.sch i = c := ⟨_, rfl⟩
  rw [hc] at hget
  have hrm : Rd B w0 [many H] s.A (s.cells.flatMap celF) := hr.tail
  clear hr
  refine YfU [many H] (fun w hw => hw.perm (.closeT H)) ?_
  repeat' (first | apply (zs2 ?_) | (apply zg22; refine zs50 ?_) | (apply zg23; first | (refine zs52 ?_; intro _) | (refine zs53 ?_; intro _)) | (apply zg24; (refine zs54 ?_; intro _)) | apply (zs65 ?_) | apply (zs68 ?_) | apply (zs69 ?_) | apply (zs70 ?_) | fail)
  rename_i gn gs gi g7 g8
  apply Zm [0, 1, 2, 3, 4, 5, 6] [7] [false, false, true, true, false, true]
  kernel_rfl
  kernel_rfl
  exact zy
  (simp only [Yi, nthO]; rfl)
  (simp only [Yi, nthO]; rfl)
  repeat' (first | (apply zg2; first | refine zs6 ?_ | refine zs58 ?_) | (apply zg3; first | refine zs7 ?_ | refine zs8 ?_ | refine zs59 ?_) | (apply zg5; refine zs57 ?_) | (apply Yp; exact zp) | apply (zs93 ?_) | fail)
  apply Ys _ en59
  exact za
  exact rfl
  exact fun _ hw => (YbM s c.1 (hw))
  rintro _ _ ⟨g1, g2, rfl, rfl⟩
  repeat' (first | apply (zs65 ?_) | apply (zs68 ?_) | apply (zs73 ?_) | apply (zs94 ?_) | fail)
  obtain ⟨L, hL⟩ : ∃ L, inI s.sch c.1 s.cells.length = L := ⟨_, rfl⟩
  have hiL : i ∈ L := by
    rw [← hL]
    exact Vn.2 ⟨hi, by rw [hc]⟩
  have hr7 : Rd B w0 (intB g2 c.1 :: schB g1 s :: blk gi (.cells #[.int .i64 i] 3 (0, 0)) :: schB gs s :: netN gn n :: [many H]) s.A (s.cells.flatMap celF) := hrm.cons.cons.cons.cons.cons
  rw [show (Value.slice none 0 0).cells = #[Value.slice none 0 0] from rfl]
  refine ZS 40 5 ?_
  refine XC (gf := 118) (lb := [.pointer (some ⟨g1, 0, none⟩), .pointer (some ⟨g2, 0, none⟩)]) (xs := inXs s.sch c.1) (intB g2 c.1 :: schB g1 s :: blk gi (.cells #[.int .i64 i] 3 (0, 0)) :: schB gs s :: netN gn n :: [many H]) (fun x : DsM => [blk g7 (.cells #[.slice x.A x.M.length x.cap] 28 (0, 0)), cels x.A x.cap x.M, blk g8 (.cells #[.int .i64 x.a] 3 (0, 0))])
    (fun k x => x.M = JZ s.sch c (L.take k) ∧ x.a = if i ∈ L.take k then (YW s.sch i : Int) else 0) (fun _ _ => False) ⟨none, 0, [], 0⟩ rfl YgK (Ybn s c.1 g1 g2 hr7 (by omega) (.tail _ (.head _)) (.head _)) rfl ?_ (by kernel_rfl) (by kernel_rfl) ?_ ⟨by simp [JZ], by simp⟩ ?_ ?_ (fun _ _ _ h => h.elim)
  · intro args h
    obtain ⟨k, hk⟩ := List.mem_iff_getElem?.1 h
    obtain ⟨i, _, _, rfl⟩ := V3 hk
    rfl
  · unfold schB intB cels netN
    simp only [List.cons_append, List.nil_append, List.length_nil, List.flatMap_nil]
    exact zk
  · rintro l k args R ⟨A, cap, M, a⟩ hk ⟨hM, ha⟩
    obtain ⟨j, hj, hlt, rfl⟩ := V3 hk
    have hlt2 : j < s.cells.length := hlt
    have hj : L[k]? = some j := by rw [← hL]; exact hj
    dsimp only at hM ha ⊢
    dsimp only [J2, List.cons_append, List.nil_append]
    have hgj : s.cells[j]? = some (Yl s.sch j) := YC (s := s.sch) hlt
    have htj : L.take k = inI s.sch c.1 j := by
      rw [← hL] at hj ⊢
      exact YeU hj
    have htk : L.take (k + 1) = L.take k ++ [j] := by rw [List.take_add_one, hj, Option.toList_some]
    have hMf : M = (s.cells.take j).filter (Y3 c) := by
      rw [hM, htj]
      exact UT (s := s.sch) (by show j ≤ s.cells.length; omega)
    have hMl : M.length ≤ s.cells.length := by
      rw [hMf]
      have h1 := List.length_filter_le (Y3 c) (s.cells.take j)
      rw [List.length_take] at h1
      omega
    have hps := YbB s.sch c (L.take k) j
    rw [← htk, ← hM] at hps
    obtain ⟨d, hd⟩ : ∃ d, Yl s.sch j = d := ⟨_, rfl⟩
    rw [hd] at hgj hps
    repeat' (first | apply (zs2 ?_) | apply (zs65 ?_) | apply (zs70 ?_) | fail)
    apply Z3 Yf
    intro R'
    unfold intB schB netN cels
    clear hr7
    by_cases hoff : d.2.1 = c.2.1
    rotate_left
    · have hij : i ≠ j := by
        rintro rfl
        rw [hc] at hd
        subst hd
        exact hoff rfl
      repeat' (first | apply (zs1 ?_) | (apply zg2; first | refine zs6 ?_ | refine zs58 ?_) | (apply zg3; first | refine zs7 ?_ | refine zs59 ?_) | (apply zg5; refine zs57 ?_) | (apply zg8; (refine zs16 ?_ ?_ <;> intro _ <;> try (exfalso; omega))) | apply (zs66 ?_) | apply (zs68 ?_) | apply (zs69 ?_) | (apply zg27; refine zs71 ?_) | apply (zs73 ?_) | apply (zs75 ?_) | apply (zs80 ?_) | apply (zs81 ?_) | (apply zg28; refine zs83 ?_) | fail)
      all_goals (
        apply JF ⟨A, cap, M, a⟩
        · refine ⟨?_, ?_⟩
          · show M = _
            rw [hps, if_neg hoff, List.append_nil]
          · show a = _
            rw [ha, htk]
            simp [hij]
        · dsimp only [List.cons_append, List.nil_append]
          exact zk)
    by_cases hji : j = i
    · obtain rfl := hji
      obtain rfl : d = c := hd.symm.trans hc
      have hsa : (M.length : Int) = (YW s.sch j : Int) := by
        rw [hMf]
        unfold YW
        rw [hc]
        rfl
      repeat' (first | apply (zs1 ?_) | (apply zg2; first | refine zs6 ?_ | refine zs58 ?_) | (apply zg3; first | refine zs7 ?_ | refine zs59 ?_) | (apply zg4; refine zs9 ?_) | (apply zg5; refine zs57 ?_) | (apply zg7; (refine zs15 ?_ ?_ <;> intro _ <;> try (exfalso; omega))) | (apply zg8; (refine zs16 ?_ ?_ <;> intro _ <;> try (exfalso; omega))) | (apply zg22; refine zs50 ?_) | apply (zs65 ?_) | apply (zs66 ?_) | apply (zs68 ?_) | apply (zs69 ?_) | apply (zs70 ?_) | (apply zg27; first | refine zs71 ?_ | refine zs72 ?_) | apply (zs73 ?_) | apply (zs76 ?_) | (apply zg28; refine zs83 ?_) | fail)
      apply JQ [0, 1, 2, 3, 4, 5, 6] [7, 8] [false, true, false, false, false, false, false, true, false, true]
      kernel_rfl
      kernel_rfl
      exact zy
      (simp only [Yi, nthO]; rfl)
      (simp only [Yi, nthO]; rfl)
      repeat' (first | (apply OH T; exact rfl; exact zm; exact rfl; exact rfl; exact rfl) | apply (zs1 ?_) | (apply zg2; refine zs6 ?_) | (apply zg3; first | refine zs7 ?_ | refine zs61 ?_) | (apply zg5; refine zs57 ?_) | (apply zg21; (refine zs49 ?_; intro _ _)) | (apply zg22; refine zs50 ?_) | (apply zg26; (refine zs56 ?_; intro _)) | apply (zs65 ?_) | (apply Yp; exact zp) | apply (zs79 ?_) | apply (zs87 ?_) | (apply Ym; (repeat (first | with_reducible exact Yh | (with_reducible apply Yg; (repeat (first | with_reducible exact Yf | with_reducible apply Ye)))))) | apply (zs93 ?_) | apply (zs94 ?_) | fail)
      rename_i A9 cap9
      apply JF ⟨A9, cap9, M ++ [d], (M.length : Int)⟩
      · refine ⟨?_, ?_⟩
        · show M ++ [d] = _
          rw [hps, if_pos hoff]
        · show (M.length : Int) = _
          rw [htk, if_pos (by simp), hsa]
      · dsimp only [List.cons_append, List.nil_append]
        intro w hw
        rw [O9, Yb4 M d] at hw
        unfold cels at hw
        revert w
        exact zk
    · have hji2 : i ≠ j := fun e => hji e.symm
      repeat' (first | apply (zs1 ?_) | (apply zg2; first | refine zs6 ?_ | refine zs58 ?_) | (apply zg3; first | refine zs7 ?_ | refine zs59 ?_) | (apply zg5; refine zs57 ?_) | (apply zg7; (refine zs15 ?_ ?_ <;> intro _ <;> try (exfalso; omega))) | (apply zg8; (refine zs16 ?_ ?_ <;> intro _ <;> try (exfalso; omega))) | apply (zs65 ?_) | apply (zs66 ?_) | apply (zs68 ?_) | apply (zs69 ?_) | apply (zs70 ?_) | (apply zg27; refine zs72 ?_) | apply (zs73 ?_) | apply (zs76 ?_) | (apply zg28; refine zs83 ?_) | fail)
      apply JQ [0, 1, 2, 3, 4, 5, 6] [7, 8] [false, true, false, false, false, false, false, true, false, true]
      kernel_rfl
      kernel_rfl
      exact zy
      (simp only [Yi, nthO]; rfl)
      (simp only [Yi, nthO]; rfl)
      repeat' (first | (apply OH T; exact rfl; exact zm; exact rfl; exact rfl; exact rfl) | apply (zs1 ?_) | (apply zg2; refine zs6 ?_) | (apply zg3; first | refine zs7 ?_ | refine zs61 ?_) | (apply zg5; refine zs57 ?_) | (apply zg21; (refine zs49 ?_; intro _ _)) | (apply zg22; refine zs50 ?_) | (apply zg26; (refine zs56 ?_; intro _)) | apply (zs65 ?_) | (apply Yp; exact zp) | apply (zs79 ?_) | apply (zs87 ?_) | (apply Ym; (repeat (first | with_reducible exact Yh | (with_reducible apply Yg; (repeat (first | with_reducible exact Yf | with_reducible apply Ye)))))) | apply (zs93 ?_) | apply (zs94 ?_) | fail)
      rename_i A9 cap9
      apply JF ⟨A9, cap9, M ++ [d], a⟩
      · refine ⟨?_, ?_⟩
        · show M ++ [d] = _
          rw [hps, if_pos hoff]
        · show a = _
          rw [ha, htk]
          simp [hji2]
      · dsimp only [List.cons_append, List.nil_append]
        intro w hw
        rw [O9, Yb4 M d] at hw
        unfold cels at hw
        revert w
        exact zk
  · rintro D ⟨A, cap, M, a⟩ ⟨hM, ha⟩
    have hLl : (inXs s.sch c.1).length = L.length := by rw [inXs, List.length_map]; exact congrArg List.length hL
    dsimp only at hM ha ⊢
    rw [hLl, List.take_length] at hM ha
    rw [if_pos hiL] at ha
    subst ha
    have hMS : M = UE s.sch i := by
      rw [hM, ← hL]
      have h1 := UT (s := s.sch) (c := c) (Nat.le_refl _)
      rw [List.take_length] at h1
      rw [show s.cells.length = s.sch.cells.length from rfl, h1]
      unfold UE
      rw [hc]
    have hMl : M.length ≤ 1000 := by
      rw [hMS]
      have h1 := List.length_filter_le (Y3 (Yl s.sch i)) s.sch.cells
      exact Nat.le_trans h1 hl
    have hgM : M[((YW s.sch i : Nat) : Int).toNat]? = some c := by rw [hMS, Int.toNat_natCast, YfE (s := s.sch) hi, hc]
    have hal : YW s.sch i < M.length := (List.getElem?_eq_some_iff.1 hgM).1
    have hok := Y2 hck
    have hcm : c ∈ s.cells := List.mem_of_getElem? hget
    have hgd := hgood c hcm
    obtain ⟨⟨f0, f1⟩, ⟨t0, t1⟩, _, k1, k2⟩ : (0 ≤ c.2.2.1 ∧ c.2.2.1 < n.net.nodes) ∧ (0 ≤ c.2.2.2.1 ∧ c.2.2.2.1 < n.net.nodes) ∧ c.2.2.1 ≠ c.2.2.2.1 ∧ 0 ≤ YD n.net c.2.2.1 c.2.2.2.1 ∧ 0 ≤ YD n.net c.2.2.2.1 c.2.2.1 := VX hok hgd
    have hno : M.any (Vg n.net) = false := by
      rw [List.any_eq_false]
      intro x hx
      have hxm : x ∈ s.cells := by
        rw [hMS] at hx
        exact (List.mem_filter.1 hx).1
      obtain ⟨h1, h2, _⟩ := VX hok (hgood x hxm)
      unfold Vg
      rw [show insE (YM x) n.net.nodes = true from decide_eq_true h1, show insE (toC x) n.net.nodes = true from decide_eq_true h2]
      simp
    have hinm : n.In B w0 [many H] := ⟨hin.pw.tail, fun r hr => (hin.rw_ r hr).tail, hin.lk.tail, hin.mg.tail, hin.s1, hin.s2, hin.s3, hin.s4⟩
    have hmg := hinm.mg
    have hs4 := hin.s4
    have hml : n.margin.length = n.net.links.length := hok.k1
    have x1 := ZO k1
    have x2 := ZO k2
    have hix : ∀ u v : Int, X7 n.net u v = YD n.net u v := fun u v => by unfold X7; rw [if_neg (by omega)]
    have p1 := fun {H' : List HP} {w : World} (hin : n.In B w0 H') (hw : St B w0 H' w) => XP n c.2.2.1 c.2.2.2.1 hin hw
    have p2 := fun {H' : List HP} {w : World} (hin : n.In B w0 H') (hw : St B w0 H' w) => XP n c.2.2.2.1 c.2.2.1 hin hw
    rw [hix] at p1 p2
    obtain ⟨i1, hi1⟩ : ∃ z, YD n.net c.2.2.1 c.2.2.2.1 = z := ⟨_, rfl⟩
    obtain ⟨i2, hi2⟩ : ∃ z, YD n.net c.2.2.2.1 c.2.2.1 = z := ⟨_, rfl⟩
    rw [hi1] at p1 k1 x1
    rw [hi2] at p2 k2 x2
    have hm1 : n.margin[i1.toNat]? = some (mar n.net i1.toNat) := by
      unfold mar
      rw [List.getD_eq_getElem?_getD, show n.net.margin = n.margin from rfl, List.getElem?_eq_getElem (by omega)]; rfl
    have hm2 : n.margin[i2.toNat]? = some (mar n.net i2.toNat) := by
      unfold mar
      rw [List.getD_eq_getElem?_getD, show n.net.margin = n.margin from rfl, List.getElem?_eq_getElem (by omega)]; rfl
    have q1 := fun {H' : List HP} {w : World} (hin : n.In B w0 H') (hr : Rd B w0 H' A (M.flatMap celF)) (hw : St B w0 H' w) => Ji n M (YW s.sch i) c.2.2.2.1 hck ⟨t0, t1⟩ hal hMl hno (cap := cap) hin hr hw
    have q2 := fun {H' : List HP} {w : World} (hin : n.In B w0 H') (hr : Rd B w0 H' A (M.flatMap celF)) (hw : St B w0 H' w) => Ji n M (YW s.sch i) c.2.2.1 hck ⟨f0, f1⟩ hal hMl hno (cap := cap) hin hr hw
    have r1 := fun {H' : List HP} {w : World} (hin : n.In B w0 H') (hw : St B w0 H' w) => OE n (mar n.net i1.toNat) (J0 n.net M (YW s.sch i) c.2.2.2.1) hin hw
    have r2 := fun {H' : List HP} {w : World} (hin : n.In B w0 H') (hw : St B w0 H' w) => OE n (mar n.net i2.toNat) (J0 n.net M (YW s.sch i) c.2.2.1) hin hw
    have hres : Zy n.net s.sch i = (!(JX n.net (mar n.net i1.toNat) (J0 n.net M (YW s.sch i) c.2.2.2.1)) || !(JX n.net (mar n.net i2.toNat) (J0 n.net M (YW s.sch i) c.2.2.1))) := by
      unfold Zy
      rw [hc, ← hMS]
      unfold YM toC
      rw [hi1, hi2]
    obtain ⟨b1, hb1⟩ : ∃ b, JX n.net (mar n.net i1.toNat) (J0 n.net M (YW s.sch i) c.2.2.2.1) = b := ⟨_, rfl⟩
    obtain ⟨b2, hb2⟩ : ∃ b, JX n.net (mar n.net i2.toNat) (J0 n.net M (YW s.sch i) c.2.2.1) = b := ⟨_, rfl⟩
    rw [hb1] at r1 hres
    rw [hb2] at r2 hres
    rw [hres]
    dsimp only [List.cons_append, List.nil_append]
    unfold cels intB schB netN
    cases b1 with
    | false =>
      repeat' (first | (apply zg2; refine zs6 ?_) | (apply zg3; first | refine zs7 ?_ | refine zs8 ?_ | refine zs61 ?_) | (apply zg5; refine zs10 ?_) | (apply zg22; refine zs51 ?_) | (apply zg24; (refine zs54 ?_; intro _)) | apply (zs65 ?_) | apply (zs68 ?_) | apply (zs69 ?_) | apply (zs70 ?_) | apply (zs79 ?_) | (apply zg28; refine zs84 ?_) | fail)
      first | apply Ya en95 | apply Yb en95
      exact za
      exact rfl
      exact fun _ hw => (p1 (by repeat (first | exact hinm | apply NetM.In.cons)) hw)
      repeat' (first | (apply zg2; refine zs6 ?_) | (apply zg3; first | refine zs7 ?_ | refine zs8 ?_) | fail)
      first | apply Ya en95 | apply Yb en95
      exact za
      exact rfl
      exact fun _ hw => (p2 (by repeat (first | exact hinm | apply NetM.In.cons)) hw)
      repeat' (first | apply (zs1 ?_) | apply (zs2 ?_) | (apply zg2; refine zs6 ?_) | (apply zg3; first | refine zs7 ?_ | refine zs8 ?_ | refine zs60 ?_) | (apply zg5; refine zs57 ?_) | apply (zs66 ?_) | apply (zs68 ?_) | apply (zs69 ?_) | (apply zg28; refine zs84 ?_) | fail)
      first | apply Ya VF | apply Yb VF
      exact za
      exact rfl
      exact fun _ hw => (q1 (by repeat (first | exact hinm | apply NetM.In.cons)) (Rd.sl zm) hw)
      repeat' (first | fail)
      first | apply Ya VD | apply Yb VD
      exact za
      exact rfl
      exact fun _ hw => (r1 (by repeat (first | exact hinm | apply NetM.In.cons)) hw)
      repeat' (first | apply (zs1 ?_) | apply (zs2 ?_) | (apply zg1; refine zs3 ?_) | (apply zg6; refine zs11 ?_) | (apply zg20; refine zs48 ?_) | apply (zs66 ?_) | apply (zs68 ?_) | apply (zs74 ?_) | fail)
      apply XY
      · (repeat (first | with_reducible exact Yf | with_reducible apply Ye))
      apply VQ_m
      apply Yj H
      · intro w hw
        have h5 : St B w0 [many H] w := by
          revert w
          exact zk
        exact h5.perm (.openT H)
      apply Yc; exact rfl; exact rfl; exact ⟨rfl, rfl⟩
    | true =>
      cases b2 with
      | false =>
        repeat' (first | (apply zg2; refine zs6 ?_) | (apply zg3; first | refine zs7 ?_ | refine zs8 ?_ | refine zs61 ?_) | (apply zg5; refine zs10 ?_) | (apply zg22; refine zs51 ?_) | (apply zg24; (refine zs54 ?_; intro _)) | apply (zs65 ?_) | apply (zs68 ?_) | apply (zs69 ?_) | apply (zs70 ?_) | apply (zs79 ?_) | (apply zg28; refine zs84 ?_) | fail)
        first | apply Ya en95 | apply Yb en95
        exact za
        exact rfl
        exact fun _ hw => (p1 (by repeat (first | exact hinm | apply NetM.In.cons)) hw)
        repeat' (first | (apply zg2; refine zs6 ?_) | (apply zg3; first | refine zs7 ?_ | refine zs8 ?_) | fail)
        first | apply Ya en95 | apply Yb en95
        exact za
        exact rfl
        exact fun _ hw => (p2 (by repeat (first | exact hinm | apply NetM.In.cons)) hw)
        repeat' (first | apply (zs1 ?_) | apply (zs2 ?_) | (apply zg2; refine zs6 ?_) | (apply zg3; first | refine zs7 ?_ | refine zs8 ?_ | refine zs60 ?_) | (apply zg5; refine zs57 ?_) | apply (zs66 ?_) | apply (zs68 ?_) | apply (zs69 ?_) | (apply zg28; refine zs84 ?_) | fail)
        first | apply Ya VF | apply Yb VF
        exact za
        exact rfl
        exact fun _ hw => (q1 (by repeat (first | exact hinm | apply NetM.In.cons)) (Rd.sl zm) hw)
        repeat' (first | fail)
        first | apply Ya VD | apply Yb VD
        exact za
        exact rfl
        exact fun _ hw => (r1 (by repeat (first | exact hinm | apply NetM.In.cons)) hw)
        repeat' (first | apply (zs1 ?_) | (apply zg1; refine zs4 ?_) | (apply zg2; refine zs6 ?_) | (apply zg3; first | refine zs7 ?_ | refine zs8 ?_ | refine zs60 ?_) | (apply zg5; refine zs57 ?_) | (apply zg20; refine zs47 ?_) | fail)
        first | apply Ya VF | apply Yb VF
        exact za
        exact rfl
        exact fun _ hw => (q2 (by repeat (first | exact hinm | apply NetM.In.cons)) (Rd.sl zm) hw)
        repeat' (first | (apply zg1; refine zs4 ?_) | fail)
        first | apply Ya VD | apply Yb VD
        exact za
        exact rfl
        exact fun _ hw => (r2 (by repeat (first | exact hinm | apply NetM.In.cons)) hw)
        repeat' (first | apply (zs2 ?_) | (apply zg1; refine zs4 ?_) | (apply zg6; refine zs12 ?_) | (apply zg20; refine zs48 ?_) | apply (zs66 ?_) | apply (zs68 ?_) | apply (zs74 ?_) | fail)
        apply XY
        · (repeat (first | with_reducible exact Yf | with_reducible apply Ye))
        apply VQ_m
        apply Yj H
        · intro w hw
          have h5 : St B w0 [many H] w := by
            revert w
            exact zk
          exact h5.perm (.openT H)
        apply Yc; exact rfl; exact rfl; exact ⟨rfl, rfl⟩
      | true =>
        repeat' (first | (apply zg2; refine zs6 ?_) | (apply zg3; first | refine zs7 ?_ | refine zs8 ?_ | refine zs61 ?_) | (apply zg5; refine zs10 ?_) | (apply zg22; refine zs51 ?_) | (apply zg24; (refine zs54 ?_; intro _)) | apply (zs65 ?_) | apply (zs68 ?_) | apply (zs69 ?_) | apply (zs70 ?_) | apply (zs79 ?_) | (apply zg28; refine zs84 ?_) | fail)
        first | apply Ya en95 | apply Yb en95
        exact za
        exact rfl
        exact fun _ hw => (p1 (by repeat (first | exact hinm | apply NetM.In.cons)) hw)
        repeat' (first | (apply zg2; refine zs6 ?_) | (apply zg3; first | refine zs7 ?_ | refine zs8 ?_) | fail)
        first | apply Ya en95 | apply Yb en95
        exact za
        exact rfl
        exact fun _ hw => (p2 (by repeat (first | exact hinm | apply NetM.In.cons)) hw)
        repeat' (first | apply (zs1 ?_) | apply (zs2 ?_) | (apply zg2; refine zs6 ?_) | (apply zg3; first | refine zs7 ?_ | refine zs8 ?_ | refine zs60 ?_) | (apply zg5; refine zs57 ?_) | apply (zs66 ?_) | apply (zs68 ?_) | apply (zs69 ?_) | (apply zg28; refine zs84 ?_) | fail)
        first | apply Ya VF | apply Yb VF
        exact za
        exact rfl
        exact fun _ hw => (q1 (by repeat (first | exact hinm | apply NetM.In.cons)) (Rd.sl zm) hw)
        repeat' (first | fail)
        first | apply Ya VD | apply Yb VD
        exact za
        exact rfl
        exact fun _ hw => (r1 (by repeat (first | exact hinm | apply NetM.In.cons)) hw)
        repeat' (first | apply (zs1 ?_) | (apply zg1; refine zs4 ?_) | (apply zg2; refine zs6 ?_) | (apply zg3; first | refine zs7 ?_ | refine zs8 ?_ | refine zs60 ?_) | (apply zg5; refine zs57 ?_) | (apply zg20; refine zs47 ?_) | fail)
        first | apply Ya VF | apply Yb VF
        exact za
        exact rfl
        exact fun _ hw => (q2 (by repeat (first | exact hinm | apply NetM.In.cons)) (Rd.sl zm) hw)
        repeat' (first | (apply zg1; refine zs4 ?_) | fail)
        first | apply Ya VD | apply Yb VD
        exact za
        exact rfl
        exact fun _ hw => (r2 (by repeat (first | exact hinm | apply NetM.In.cons)) hw)
        repeat' (first | apply (zs2 ?_) | (apply zg1; refine zs4 ?_) | (apply zg6; refine zs12 ?_) | (apply zg20; refine zs47 ?_) | apply (zs66 ?_) | apply (zs68 ?_) | apply (zs74 ?_) | fail)
        apply XY
        · (repeat (first | with_reducible exact Yf | with_reducible apply Ye))
        apply VQ_m
        apply Yj H
        · intro w hw
          have h5 : St B w0 [many H] w := by
            revert w
            exact zk
          exact h5.perm (.openT H)
        apply Yc; exact rfl; exact rfl; exact ⟨rfl, rfl⟩
open Go.RowKit Go.Eng Go.Nw
theorem YcT {n : Net} {l : List Flw} {s : Sch} (h1 : (Z0 n l s).2 = 0) : ∀ c ∈ s.cells, YT n (YM c) (toC c) = true := by
  have k1 := Xf.1 h1
  intro c hc
  obtain ⟨i, hi⟩ := List.mem_iff_getElem?.1 hc
  have hl := (List.getElem?_eq_some_iff.1 hi).1
  have := k1 i (Nat.zero_le _) (by omega)
  unfold JM at this
  rw [XU hi] at this
  cases hg : YT n (YM c) (toC c) with
  | true => rfl
  | false =>
    rw [hg] at this
    split at this
    · omega
    · rw [if_pos (.inl rfl)] at this; omega
theorem YdP {nodes : Int} {l : List Flw} (h : (YR nodes l).2 = 0) : l.length ≤ 16 := by
  unfold YR at h
  split at h
  · cases h
  split at h
  · cases h
  · omega
set_option maxRecDepth 10000 in
set_option maxHeartbeats 4000000 in
theorem Qo (n : NetM) (l : List Flw) (s : SchM) (hlf : l.length ≤ 9223372036854775807) (hl : s.cells.length ≤ 1000000000000) {A : Option Addr} {cap B : Nat} {w0 : World} {H : List HP} {w : World} (hin : n.In B w0 H) (hrf : Rd B w0 H A (l.flatMap flwF)) (hr : Rd B w0 H s.A (s.cells.flatMap celF)) (hw : St B w0 H w) :
    Calls Tryz.prog 13 [n.val, .slice A l.length cap, s.val].toArray w (Post B w0 fun v K => v = .tuple #[.int .i64 (schE n.net l s.sch).1, .int .i64 (schE n.net l s.sch).2] ∧ K = H) := by
  refine Yd Tryz.func13 Tryz.ntmps13 rfl rfl hw ?_
  have e4 : s.sch.cells.length = s.cells.length := rfl
  have e5 : s.sch.len = s.len := rfl
  have hchk := fun {H' : List HP} {w : World} (hin : n.In B w0 H') (hw : St B w0 H' w) => YH n hin hw
  have hsz := fun {H' : List HP} {w : World} (hw : St B w0 H' w) => Qf s hw
  by_cases h1 : Yy n.net = 0
  rotate_left
  · have hS : schE n.net l s.sch = (-1, 1) := by
      have hw1 : XR n.net l s.sch = 1 := by unfold XR; rw [if_pos h1]
      unfold schE; rw [hw1]; rfl
    rw [hS]
    repeat' (first | ((first | apply Ya en50 | apply Yb en50); exact za; exact rfl; exact fun _ hw => (hchk hin.cons.cons hw)) | apply (zs2 ?_) | (apply zg3; refine zs8 ?_) | (apply zg8; (refine zs16 ?_ ?_ <;> intro _ <;> try (exfalso; omega))) | (apply zg23; (refine zs52 ?_; intro _)) | apply (zs65 ?_) | apply (zs68 ?_) | apply (zs69 ?_) | apply (zs70 ?_) | (apply zg27; refine zs71 ?_) | apply (zs74 ?_) | apply (zs77 ?_) | fail)
    apply Yj H
    · exact zk
    apply Yt; exact rfl; exact rfl; exact rfl; exact ⟨rfl, rfl⟩
  rw [h1] at hchk
  by_cases h2 : (YR n.nodes l).2 = 0
  rotate_left
  · have hS : schE n.net l s.sch = (-1, 1) := by
      have hw1 : XR n.net l s.sch = 1 := by unfold XR; rw [if_neg (by omega)]; exact if_pos h2
      unfold schE; rw [hw1]; rfl
    rw [hS]
    repeat' (first | ((first | apply Ya en50 | apply Yb en50); exact za; exact rfl; exact fun _ hw => (hchk hin.cons.cons hw)) | ((first | apply Ya en51 | apply Yb en51); exact za; exact rfl; exact fun _ hw => (YL n.nodes l hlf hrf.cons.cons hw)) | apply (zs1 ?_) | apply (zs2 ?_) | (apply zg2; refine zs6 ?_) | (apply zg3; first | refine zs7 ?_ | refine zs8 ?_) | apply (zs13 ?_) | (apply zg8; (refine zs16 ?_ ?_ <;> intro _ <;> try (exfalso; omega))) | (apply zg23; (refine zs52 ?_; intro _)) | apply (zs65 ?_) | apply (zs68 ?_) | apply (zs69 ?_) | apply (zs70 ?_) | (apply zg27; first | refine zs71 ?_ | refine zs72 ?_) | apply (zs74 ?_) | apply (zs76 ?_) | apply (zs77 ?_) | fail)
    apply Yj H
    · exact zk
    apply Yt; exact rfl; exact rfl; exact rfl; exact ⟨rfl, rfl⟩
  have hl16 := YdP h2
  have hper := Q4 h2
  cases h3 : Zs s.sch with
  | false =>
    rw [h3] at hsz
    have hS : schE n.net l s.sch = (-1, 2) := by
      have hw1 : XR n.net l s.sch = 2 := by unfold XR; rw [if_neg (by omega), if_neg (fun h => h h2), if_pos h3]
      unfold schE; rw [hw1]; rfl
    rw [hS]
    repeat' (first | ((first | apply Ya en50 | apply Yb en50); exact za; exact rfl; exact fun _ hw => (hchk hin.cons.cons hw)) | ((first | apply Ya en51 | apply Yb en51); exact za; exact rfl; exact fun _ hw => (YL n.nodes l hlf hrf.cons.cons hw)) | ((first | apply Ya en52 | apply Yb en52); exact za; exact rfl; exact fun _ hw => (hsz hw)) | apply (zs1 ?_) | apply (zs2 ?_) | (apply zg2; refine zs6 ?_) | (apply zg3; first | refine zs7 ?_ | refine zs8 ?_) | apply (zs13 ?_) | (apply zg8; (refine zs16 ?_ ?_ <;> intro _ <;> try (exfalso; omega))) | (apply zg20; refine zs48 ?_) | (apply zg23; (refine zs52 ?_; intro _)) | apply (zs65 ?_) | apply (zs68 ?_) | apply (zs69 ?_) | apply (zs70 ?_) | (apply zg27; first | refine zs71 ?_ | refine zs72 ?_) | apply (zs73 ?_) | apply (zs74 ?_) | apply (zs76 ?_) | apply (zs77 ?_) | apply (zs78 ?_) | fail)
    apply Yj H
    · exact zk
    apply Yt; exact rfl; exact rfl; exact rfl; exact ⟨rfl, rfl⟩
  | true =>
  rw [h3] at hsz
  have hsl : 1 ≤ s.len ∧ s.len ≤ 512 := by
    have := of_decide_eq_true h3
    exact ⟨this.1, this.2.1⟩
  obtain ⟨b, hb⟩ : ∃ b, (l.any fun f => decide (s.len.tmod f.2.2.2.1 ≠ 0)) = b := ⟨_, rfl⟩
  have hw0 : XR n.net l s.sch = if b = true then 11 else if 512 < s.cells.length then 8 else 0 := by
    unfold XR
    rw [if_neg (by omega), if_neg (fun h => h h2), h3, if_neg (by decide), e5, hb]
    rfl
  have hcf := fun {H' : List HP} {w : World} (gs : Nat) (hm : blk gs (.cells #[.int .i64 s.len, .int .i64 s.off, .slice s.A s.cells.length s.cap] 30 (0, 0)) ∈ H') (hr : Rd B w0 H' A (l.flatMap flwF)) (hw : St B w0 H' w) => OX (fun f => decide (s.len.tmod f.2.2.2.1 ≠ 0)) l 54 [.pointer (some ⟨gs, 0, none⟩)] en54 (by omega) (cap := cap) hr (fun f hf w hw => Ya1 s f gs hsl ⟨(hper f hf).2.2.1, (hper f hf).2.2.2⟩ hm hw) hw
  rw [hb] at hcf
  cases b with
  | true =>
    rw [if_pos rfl] at hw0
    have hS : schE n.net l s.sch = (-1, 11) := by unfold schE; rw [hw0]; rfl
    rw [hS]
    repeat' (first | ((first | apply Ya en50 | apply Yb en50); exact za; exact rfl; exact fun _ hw => (hchk hin.cons.cons hw)) | ((first | apply Ya en51 | apply Yb en51); exact za; exact rfl; exact fun _ hw => (YL n.nodes l hlf hrf.cons.cons hw)) | ((first | apply Ya en52 | apply Yb en52); exact za; exact rfl; exact fun _ hw => (hsz hw)) | ((first | apply Ya en53 | apply Yb en53); exact za; exact rfl; exact fun _ hw => (hcf _ zm hrf.cons.cons hw)) | apply (zs1 ?_) | apply (zs2 ?_) | (apply zg2; refine zs6 ?_) | (apply zg3; first | refine zs7 ?_ | refine zs8 ?_) | apply (zs13 ?_) | (apply zg8; (refine zs16 ?_ ?_ <;> intro _ <;> try (exfalso; omega))) | (apply zg20; refine zs47 ?_) | (apply zg23; (refine zs52 ?_; intro _)) | apply (zs65 ?_) | apply (zs68 ?_) | apply (zs69 ?_) | apply (zs70 ?_) | (apply zg27; first | refine zs71 ?_ | refine zs72 ?_) | apply (zs73 ?_) | apply (zs74 ?_) | apply (zs76 ?_) | apply (zs77 ?_) | apply (zs78 ?_) | (apply zg29; (apply Yo; exact za ; exact rfl)) | fail)
    apply Yj H
    · exact zk
    apply Yt; exact rfl; exact rfl; exact rfl; exact ⟨rfl, rfl⟩
  | false =>
  rw [if_neg (by decide)] at hw0
  by_cases h5 : 512 < s.cells.length
  · rw [if_pos h5] at hw0
    have hS : schE n.net l s.sch = (-1, 8) := by unfold schE; rw [hw0]; rfl
    rw [hS]
    repeat' (first | ((first | apply Ya en50 | apply Yb en50); exact za; exact rfl; exact fun _ hw => (hchk hin.cons.cons hw)) | ((first | apply Ya en51 | apply Yb en51); exact za; exact rfl; exact fun _ hw => (YL n.nodes l hlf hrf.cons.cons hw)) | ((first | apply Ya en52 | apply Yb en52); exact za; exact rfl; exact fun _ hw => (hsz hw)) | ((first | apply Ya en53 | apply Yb en53); exact za; exact rfl; exact fun _ hw => (hcf _ zm hrf.cons.cons hw)) | apply (zs1 ?_) | apply (zs2 ?_) | (apply zg2; refine zs6 ?_) | (apply zg3; first | refine zs7 ?_ | refine zs8 ?_) | (apply zg4; refine zs9 ?_) | apply (zs13 ?_) | (apply zg8; (refine zs16 ?_ ?_ <;> intro _ <;> try (exfalso; omega))) | (apply (zs19 ?_ ?_) <;> intro _ <;> try (exfalso; omega)) | (apply zg20; refine zs47 ?_) | (apply zg23; (refine zs52 ?_; intro _)) | apply (zs65 ?_) | apply (zs68 ?_) | apply (zs69 ?_) | apply (zs70 ?_) | (apply zg27; first | refine zs71 ?_ | refine zs72 ?_) | apply (zs73 ?_) | apply (zs74 ?_) | apply (zs76 ?_) | apply (zs77 ?_) | apply (zs78 ?_) | (apply zg29; (apply Yo; exact za ; exact rfl)) | fail)
    apply Yj H
    · exact zk
    apply Yt; exact rfl; exact rfl; exact rfl; exact ⟨rfl, rfl⟩
  rw [if_neg h5] at hw0
  have hS : schE n.net l s.sch = if (Z0 n.net l s.sch).2 ≠ 0 then Z0 n.net l s.sch else if (J4 s.sch).2 ≠ 0 then J4 s.sch else Yao n.net s.sch := by
    unfold schE; rw [hw0]; rfl
  rw [hS]
  have hcc := fun {H' : List HP} {w : World} (hin : n.In B w0 H') (hrf : Rd B w0 H' A (l.flatMap flwF)) (hr : Rd B w0 H' s.A (s.cells.flatMap celF)) (hw : St B w0 H' w) => WF n l s h1 (by omega) hl (cap := cap) hin hrf hr hw
  obtain ⟨⟨c1, c2⟩, hcv⟩ : ∃ R, Z0 n.net l s.sch = R := ⟨_, rfl⟩
  rw [hcv] at hcc ⊢
  dsimp only at hcc ⊢
  by_cases h6 : c2 ≠ 0
  · rw [if_pos h6]
    repeat' (first | ((first | apply Ya en50 | apply Yb en50); exact za; exact rfl; exact fun _ hw => (hchk hin.cons.cons hw)) | ((first | apply Ya en51 | apply Yb en51); exact za; exact rfl; exact fun _ hw => (YL n.nodes l hlf hrf.cons.cons hw)) | ((first | apply Ya en52 | apply Yb en52); exact za; exact rfl; exact fun _ hw => (hsz hw)) | ((first | apply Ya en53 | apply Yb en53); exact za; exact rfl; exact fun _ hw => (hcf _ zm hrf.cons.cons hw)) | ((first | apply Ya en55 | apply Yb en55); exact za; exact rfl; exact fun _ hw => (hcc hin.cons.cons hrf.cons.cons hr.cons.cons hw)) | apply (zs1 ?_) | apply (zs2 ?_) | (apply zg2; refine zs6 ?_) | (apply zg3; first | refine zs7 ?_ | refine zs8 ?_) | (apply zg4; refine zs9 ?_) | apply (zs13 ?_) | (apply zg8; (refine zs16 ?_ ?_ <;> intro _ <;> try (exfalso; omega))) | (apply (zs19 ?_ ?_) <;> intro _ <;> try (exfalso; omega)) | (apply zg20; refine zs47 ?_) | (apply zg23; (refine zs52 ?_; intro _)) | apply (zs65 ?_) | apply (zs68 ?_) | apply (zs69 ?_) | apply (zs70 ?_) | (apply zg27; first | refine zs71 ?_ | refine zs72 ?_) | apply (zs73 ?_) | apply (zs74 ?_) | apply (zs76 ?_) | apply (zs77 ?_) | apply (zs79 ?_) | (apply zg29; (apply Yo; exact za ; exact rfl)) | fail)
    apply Yj H
    · exact zk
    apply Yt; exact rfl; exact rfl; exact rfl; exact ⟨rfl, rfl⟩
  obtain rfl : c2 = 0 := Decidable.not_not.1 h6
  rw [if_neg h6]
  have hgood := YcT (n := n.net) (l := l) (s := s.sch) (by rw [hcv])
  repeat' (first | ((first | apply Ya en50 | apply Yb en50); exact za; exact rfl; exact fun _ hw => (hchk hin.cons.cons hw)) | ((first | apply Ya en51 | apply Yb en51); exact za; exact rfl; exact fun _ hw => (YL n.nodes l hlf hrf.cons.cons hw)) | ((first | apply Ya en52 | apply Yb en52); exact za; exact rfl; exact fun _ hw => (hsz hw)) | ((first | apply Ya en53 | apply Yb en53); exact za; exact rfl; exact fun _ hw => (hcf _ zm hrf.cons.cons hw)) | ((first | apply Ya en55 | apply Yb en55); exact za; exact rfl; exact fun _ hw => (hcc hin.cons.cons hrf.cons.cons hr.cons.cons hw)) | apply (zs1 ?_) | apply (zs2 ?_) | (apply zg2; refine zs6 ?_) | (apply zg3; first | refine zs7 ?_ | refine zs8 ?_) | (apply zg4; refine zs9 ?_) | apply (zs13 ?_) | (apply zg8; (refine zs16 ?_ ?_ <;> intro _ <;> try (exfalso; omega))) | (apply (zs19 ?_ ?_) <;> intro _ <;> try (exfalso; omega)) | (apply zg20; refine zs47 ?_) | (apply zg23; (refine zs52 ?_; intro _)) | apply (zs65 ?_) | apply (zs68 ?_) | apply (zs69 ?_) | apply (zs70 ?_) | (apply zg27; refine zs72 ?_) | apply (zs73 ?_) | apply (zs76 ?_) | apply (zs79 ?_) | (apply zg29; (apply Yo; exact za ; exact rfl)) | fail)
  first | (rename_i gn gs; guard_hyp gn : Nat; guard_hyp gs : Nat) | (rename_i gn gs _; guard_hyp gn : Nat; guard_hyp gs : Nat) | (rename_i gn gs _ _; guard_hyp gn : Nat; guard_hyp gs : Nat) | (rename_i gn gs _ _ _; guard_hyp gn : Nat; guard_hyp gs : Nat) | (rename_i gn gs _ _ _ _; guard_hyp gn : Nat; guard_hyp gs : Nat) | (rename_i gn gs _ _ _ _ _; guard_hyp gn : Nat; guard_hyp gs : Nat) | (rename_i gn gs _ _ _ _ _ _; guard_hyp gn : Nat; guard_hyp gs : Nat)
  refine Yk (fun (k : Nat) => [(53, .int .i64 k), (52, .int .i64 s.cells.length), (51, .slice s.A s.cells.length s.cap), (3, .pointer (some ⟨gn, 0, none⟩)), (5, .pointer (some ⟨gs, 0, none⟩))]) (fun _ => blk gs (.cells #[.int .i64 s.len, .int .i64 s.off, .slice s.A s.cells.length s.cap] 30 (0, 0)) :: netN gn n :: H) (fun k => k ≤ s.cells.length ∧ ∀ j, j < k → ZN s.sch j = false) (fun k => s.cells.length - k) 0 ⟨Nat.zero_le _, fun j hj => absurd hj (Nat.not_lt_zero _)⟩ ?_ (fun w hw => hw) ?_
  · exact zu
  rintro k ⟨hk, hall⟩ K hK
  have hF : J4 s.sch = Yz (fun i => if ZN s.sch i = true then 6 else 0) s.cells.length 0 := rfl
  unfold netN
  by_cases hlt : k < s.cells.length
  · have htc := fun {H' : List HP} {w : World} (hr : Rd B w0 H' s.A (s.cells.flatMap celF)) (hw : St B w0 H' w) => YcJ s k hlt (by omega) hr hw
    cases htw : ZN s.sch k with
    | true =>
      rw [htw] at htc
      have hT : J4 s.sch = ((k : Int), 6) := by
        rw [hF, Xa (i := k) (fun j _ hj => by simp only [hall j hj]; rfl) (Nat.zero_le _) (by omega) (by simp only [htw]; decide)]
        simp [htw]
      rw [hT, if_pos (show (6 : Int) ≠ 0 by decide)]
      repeat' (first | ((first | apply Ya en56 | apply Yb en56); exact za; exact rfl; exact fun _ hw => (htc hr.cons.cons hw)) | apply (zs1 ?_) | apply (zs2 ?_) | (apply zg3; refine zs8 ?_) | (apply (zs17 ?_ ?_) <;> intro _ <;> try (exfalso; omega)) | apply (zs65 ?_) | apply (zs68 ?_) | apply (zs69 ?_) | apply (zs70 ?_) | (apply zg27; refine zs71 ?_) | apply (zs73 ?_) | apply (zs74 ?_) | apply (zs76 ?_) | apply (zs77 ?_) | apply (zs78 ?_) | fail)
      apply Yj H
      · exact zk
      apply Yt; exact rfl; exact rfl; exact rfl; exact ⟨rfl, rfl⟩
    | false =>
      rw [htw] at htc
      repeat' (first | ((first | apply Ya en56 | apply Yb en56); exact za; exact rfl; exact fun _ hw => (htc hr.cons.cons hw)) | apply (zs1 ?_) | apply (zs2 ?_) | (apply zg3; refine zs8 ?_) | (apply (zs17 ?_ ?_) <;> intro _ <;> try (exfalso; omega)) | (apply zg13; refine zs30 ?_) | apply (zs65 ?_) | apply (zs68 ?_) | apply (zs69 ?_) | apply (zs70 ?_) | (apply zg27; first | refine zs71 ?_ | refine zs72 ?_) | apply (zs73 ?_) | apply (zs76 ?_) | apply (zs79 ?_) | fail)
      apply hK (k + 1)
      · refine ⟨by omega, fun j hj => ?_⟩
        by_cases e : j = k
        · rw [e]; exact htw
        · exact hall j (by omega)
      · omega
      · exact zu
      · unfold netN
        exact zk
  have hT : (J4 s.sch).2 = 0 := by
    rw [hF, Xf]
    intro j _ hj
    simp only [hall j (by omega)]
    rfl
  rw [if_neg (fun h => h hT)]
  clear hK
  repeat' (first | apply (zs1 ?_) | (apply zg2; refine zs6 ?_) | (apply zg3; refine zs7 ?_) | (apply zg4; refine zs9 ?_) | (apply (zs17 ?_ ?_) <;> intro _ <;> try (exfalso; omega)) | apply (zs65 ?_) | apply (zs68 ?_) | apply (zs69 ?_) | apply (zs70 ?_) | (apply zg27; refine zs72 ?_) | apply (zs73 ?_) | apply (zs75 ?_) | apply (zs80 ?_) | apply (zs81 ?_) | fail)
  refine Yk (fun (k : Nat) => [(64, .int .i64 k), (63, .int .i64 s.cells.length), (62, .slice s.A s.cells.length s.cap), (3, .pointer (some ⟨gn, 0, none⟩)), (5, .pointer (some ⟨gs, 0, none⟩))]) (fun _ => blk gs (.cells #[.int .i64 s.len, .int .i64 s.off, .slice s.A s.cells.length s.cap] 30 (0, 0)) :: netN gn n :: H) (fun k => k ≤ s.cells.length ∧ ∀ j, j < k → Zy n.net s.sch j = false) (fun k => s.cells.length - k) 0 ⟨Nat.zero_le _, fun j hj => absurd hj (Nat.not_lt_zero _)⟩ ?_ (fun w hw => hw) ?_
  · exact zu
  rintro k ⟨hk, hall⟩ K2 hK
  have hF : Yao n.net s.sch = Yz (fun i => if Zy n.net s.sch i = true then 16 else 0) s.cells.length 0 := rfl
  unfold netN
  by_cases hlt : k < s.cells.length
  · have htc := fun {H' : List HP} {w : World} (hin : n.In B w0 H') (hr : Rd B w0 H' s.A (s.cells.flatMap celF)) (hw : St B w0 H' w) => OY n s k h1 hgood hlt (by omega) hin hr hw
    cases htw : Zy n.net s.sch k with
    | true =>
      rw [htw] at htc
      have hT : Yao n.net s.sch = ((k : Int), 16) := by
        rw [hF, Xa (i := k) (fun j _ hj => by simp only [hall j hj]; rfl) (Nat.zero_le _) (by omega) (by simp only [htw]; decide)]
        simp [htw]
      rw [hT]
      repeat' (first | ((first | apply Ya en57 | apply Yb en57); exact za; exact rfl; exact fun _ hw => (htc hin.cons.cons hr.cons.cons hw)) | apply (zs1 ?_) | apply (zs2 ?_) | (apply zg3; refine zs8 ?_) | (apply (zs17 ?_ ?_) <;> intro _ <;> try (exfalso; omega)) | apply (zs65 ?_) | apply (zs68 ?_) | apply (zs69 ?_) | apply (zs70 ?_) | (apply zg27; refine zs71 ?_) | apply (zs73 ?_) | apply (zs74 ?_) | apply (zs76 ?_) | apply (zs77 ?_) | apply (zs78 ?_) | fail)
      apply Yj H
      · exact zk
      apply Yt; exact rfl; exact rfl; exact rfl; exact ⟨rfl, rfl⟩
    | false =>
      rw [htw] at htc
      repeat' (first | ((first | apply Ya en57 | apply Yb en57); exact za; exact rfl; exact fun _ hw => (htc hin.cons.cons hr.cons.cons hw)) | apply (zs1 ?_) | apply (zs2 ?_) | (apply zg3; refine zs8 ?_) | (apply (zs17 ?_ ?_) <;> intro _ <;> try (exfalso; omega)) | (apply zg13; refine zs30 ?_) | apply (zs65 ?_) | apply (zs68 ?_) | apply (zs69 ?_) | apply (zs70 ?_) | (apply zg27; first | refine zs71 ?_ | refine zs72 ?_) | apply (zs73 ?_) | apply (zs76 ?_) | apply (zs79 ?_) | fail)
      apply hK (k + 1)
      · refine ⟨by omega, fun j hj => ?_⟩
        by_cases e : j = k
        · rw [e]; exact htw
        · exact hall j (by omega)
      · omega
      · exact zu
      · unfold netN
        exact zk
  · have hT : Yao n.net s.sch = (-1, 0) := by
      rw [hF]
      exact Xo fun j _ hj => by simp only [hall j (by omega)]; rfl
    rw [hT]
    repeat' (first | apply (zs2 ?_) | (apply (zs17 ?_ ?_) <;> intro _ <;> try (exfalso; omega)) | apply (zs65 ?_) | apply (zs68 ?_) | apply (zs69 ?_) | apply (zs70 ?_) | (apply zg27; refine zs72 ?_) | apply (zs74 ?_) | apply (zs75 ?_) | apply (zs80 ?_) | apply (zs81 ?_) | fail)
    apply Yj H
    · exact zk
    apply Yt; exact rfl; exact rfl; exact rfl; exact ⟨rfl, rfl⟩
open Go.RowKit Go.Eng Go.Nw Go.Rt
theorem Zz {α : Type} (f : α → HP) (l : List α) (r : α) (H : List HP) : Perm (f r :: many (l.map f) :: H) (many ((l ++ [r]).map f) :: H) := by
  have := Perm.push (f r) (l.map f) [] H
  rw [List.append_nil] at this
  rw [List.map_append]
  exact this
abbrev clsP (A : Option Addr) (cap : Nat) (C : List ClM) : HP := sl 61 5 A C.length cap (C.flatMap clF)
theorem Ybt (A : Option Addr) (cap : Nat) (l : List ClM) (c : ClM) : sl 61 5 A (l.length + 1) cap (l.flatMap clF ++ #[Value.int .i64 c.flow, .slice c.rA c.rs.length c.rcap, .slice c.bA c.bs.length c.bcap, .slice c.wA c.ws.length c.wcap, .slice c.sA c.ss.length c.scap].toList) = clsP A cap (l ++ [c]) := by simp [clsP, List.flatMap_append, clF]
def OutC (H : List HP) (R : List Clm × (Int × Int)) (v : Value) (K : List HP) : Prop := ∃ A cap C, v = .tuple #[.slice A (C : List ClM).length cap, .int .i64 R.2.1, .int .i64 R.2.2] ∧ C.map ClM.clm = R.1 ∧ (∀ c ∈ C, c.lens) ∧ K = clsP A cap C :: many (C.map clQ) :: H
theorem Jy {B : Nat} {w0 w : World} {H : List HP} (h : St B w0 H w) : St B w0 (clsP none 0 [] :: many (([] : List ClM).map clQ) :: H) w := (h.perm (.noMany H)).nilSlice _ _
theorem Jn {H : List HP} {R : List Clm × (Int × Int)} {v : Value} (h1 : R.1 = []) (hv : v = .tuple #[.slice none 0 0, .int .i64 R.2.1, .int .i64 R.2.2]) : OutC H R v (clsP none 0 [] :: many (([] : List ClM).map clQ) :: H) := ⟨none, 0, [], hv, h1.symm, (fun c hc => by cases hc), rfl⟩
structure MkM where
  i : Nat
  A : Option Addr
  cap : Nat
  C : List ClM
set_option maxRecDepth 10000 in
set_option maxHeartbeats 8000000 in
theorem QN (n : NetM) (q : List RqM) (s : SchM) {A : Option Addr} {cap B : Nat} {w0 : World} {H : List HP} {w : World} (ht : TabsB B w0) (hin : n.In B w0 H) (hq : QIn B w0 H A q) (hrs : Rd B w0 H s.A (s.cells.flatMap celF)) (hsl : s.cells.length ≤ 1000000000000) (hw : St B w0 H w) :
    Calls Tryz.prog 19 [n.val, .slice A q.length cap, s.val].toArray w (Post B w0 (OutC H (V9 n.net (q.map RqM.rq) s.sch))) := by
  refine Yd Tryz.func19 Tryz.ntmps19 rfl rfl hw ?_
  have hql := hq.ln
  have hqr := hq.rd
  have p1 := fun {H' : List HP} {w : World} (hin : n.In B w0 H') (hq : QIn B w0 H' A q) (hw : St B w0 H' w) => Qp n q (cap := cap) hin hq hw
  have p2 := fun {H' : List HP} {w : World} (hq : QIn B w0 H' A q) (hw : St B w0 H' w) => Wg q (cap := cap) hql hq.rd hw
  have p3 := fun {A2 : Option Addr} {cap2 : Nat} {H' : List HP} {w : World} (hin : n.In B w0 H') (hf : Rd B w0 H' A2 ((RqM.fl q).flatMap flwF)) (hrs : Rd B w0 H' s.A (s.cells.flatMap celF)) (hw : St B w0 H' w) => Qo n (RqM.fl q) s (by unfold RqM.fl; rw [List.length_map]; omega) hsl (cap := cap2) hin hf hrs hw
  have p4 := fun {H' : List HP} {w : World} (x : RqM) (h9 : x.rows.length ≤ 9) (hin : n.In B w0 H') (hrs : Rd B w0 H' s.A (s.cells.flatMap celF)) (hx : x.In B w0 H') (hw : St B w0 H' w) => YcD n s x ht hin hrs hsl hx h9 hw
  obtain ⟨R, hR⟩ : ∃ R, V9 n.net (q.map RqM.rq) s.sch = R := ⟨_, rfl⟩
  rw [hR]
  unfold V9 at hR
  rw [List.length_map] at hR
  have hrq : (rqsE n.net (q.map RqM.rq)).2 = 0 → ∀ x ∈ q, x.rows.length ≤ 9 := fun h x hx => by
    unfold rqsE at h
    split at h
    · cases h
    split at h
    · exact absurd h (by assumption)
    obtain ⟨k, hk⟩ := List.mem_iff_getElem?.1 hx
    have h1 := Xf.1 h k (Nat.zero_le _) (by rw [List.length_map]; have := (List.getElem?_eq_some_iff.1 hk).1; omega)
    rw [Ol hk] at h1
    have h2 := YgB h1
    have h3 : x.rq.2.length = x.rows.length := by unfold RqM.rq; rw [List.length_map]
    omega
  obtain ⟨⟨ri, re⟩, hr⟩ : ∃ r, rqsE n.net (q.map RqM.rq) = r := ⟨_, rfl⟩
  obtain ⟨⟨ci, ce⟩, hc⟩ : ∃ r, schE n.net (UF (q.map RqM.rq)) s.sch = r := ⟨_, rfl⟩
  obtain ⟨F, hF⟩ : ∃ F : Nat → Int, (fun i => if VG n.net s.sch (rqAt (q.map RqM.rq) i) = true then 15 else 0) = F := ⟨_, rfl⟩
  rw [hr] at p1 hR hrq
  rw [Ye5] at p3
  rw [hc] at p3 hR
  rw [hF] at hR
  have hFv : ∀ {k : Nat} {x : RqM}, q[k]? = some x → F k = if VG n.net s.sch x.rq = true then 15 else 0 := fun h => by rw [← hF]; show (if VG _ _ _ = true then _ else _) = _; rw [Ol h]
  rw [← Ye5] at p3
  dsimp only at p1 p3 hR hrq
  unfold NetM.val SchM.val
  by_cases h0 : re = 0
  rotate_left
  · rw [if_pos h0] at hR
    subst hR
    repeat' (first | ((first | apply Ya en67 | apply Yb en67); exact za; exact rfl; exact fun _ hw => (p1 (hin.mono zk) (hq.mono zk) hw)) | apply (zs1 ?_) | apply (zs2 ?_) | (apply zg3; refine zs8 ?_) | apply (zs13 ?_) | (apply zg8; (refine zs16 ?_ ?_ <;> intro _ <;> try (exfalso; omega))) | (apply zg23; (refine zs52 ?_; intro _)) | apply (zs65 ?_) | apply (zs68 ?_) | apply (zs69 ?_) | apply (zs70 ?_) | (apply zg27; refine zs71 ?_) | apply (zs74 ?_) | apply (zs77 ?_) | fail)
    apply Yj (clsP none 0 [] :: many (([] : List ClM).map clQ) :: H)
    · intro w hw
      have h5 : St B w0 H w := by
        revert w
        exact zk
      exact Jy h5
    apply XA; exact rfl; exact rfl; exact rfl; exact rfl
    exact Jn rfl rfl
  subst h0
  rw [if_neg (fun e => e rfl)] at hR
  have hrq := hrq rfl
  by_cases h1 : ce = 0
  rotate_left
  · rw [if_pos h1] at hR
    subst hR
    repeat' (first | ((first | apply Ya en67 | apply Yb en67); exact za; exact rfl; exact fun _ hw => (p1 (hin.mono zk) (hq.mono zk) hw)) | apply (zs1 ?_) | apply (zs2 ?_) | (apply zg3; refine zs8 ?_) | apply (zs13 ?_) | (apply zg8; (refine zs16 ?_ ?_ <;> intro _ <;> try (exfalso; omega))) | (apply zg23; (refine zs52 ?_; intro _)) | apply (zs65 ?_) | apply (zs68 ?_) | apply (zs69 ?_) | apply (zs70 ?_) | (apply zg27; refine zs72 ?_) | apply (zs76 ?_) | fail)
    apply Zm [0, 1, 3, 2, 4, 5, 6, 7, 8, 9] [] [true, true]
    kernel_rfl
    kernel_rfl
    exact zy
    (simp only [Yi, nthO]; rfl)
    exact rfl
    repeat' (first | apply (zs1 ?_) | (apply zg3; refine zs8 ?_) | apply (zs87 ?_) | fail)
    apply Ys _ en68
    exact za
    exact rfl
    exact fun _ hw => (p2 (hq.mono zk) (hw))
    rintro _ _ ⟨A2, cap2, rfl, rfl⟩
    repeat' (first | apply (zs65 ?_) | apply (zs87 ?_) | (apply Ym; (repeat (first | with_reducible exact Yh | (with_reducible apply Yg; (repeat (first | with_reducible exact Yf | with_reducible apply Ye)))))) | fail)
    first | apply Ya en13 | apply Yb en13
    exact za
    exact rfl
    exact fun _ hw => (p3 (hin.mono zk) (Rd.sl zm) (hrs.mono zk) hw)
    repeat' (first | apply (zs1 ?_) | apply (zs2 ?_) | apply (zs13 ?_) | (apply zg8; (refine zs16 ?_ ?_ <;> intro _ <;> try (exfalso; omega))) | apply (zs65 ?_) | (apply Yp; exact zp) | apply (zs68 ?_) | apply (zs69 ?_) | apply (zs70 ?_) | (apply zg27; refine zs71 ?_) | apply (zs74 ?_) | apply (zs77 ?_) | (apply Ym; (repeat (first | with_reducible exact Yh | (with_reducible apply Yg; (repeat (first | with_reducible exact Yf | with_reducible apply Ye)))))) | apply (zs93 ?_) | apply (zs94 ?_) | fail)
    apply Yj (clsP none 0 [] :: many (([] : List ClM).map clQ) :: H)
    · intro w hw
      have h5 : St B w0 H w := by
        revert w
        exact zk
      exact Jy h5
    apply XA; exact rfl; exact rfl; exact rfl; exact rfl
    exact Jn rfl rfl
  subst h1
  rw [if_neg (fun e => e rfl)] at hR
  repeat' (first | ((first | apply Ya en67 | apply Yb en67); exact za; exact rfl; exact fun _ hw => (p1 (hin.mono zk) (hq.mono zk) hw)) | apply (zs1 ?_) | apply (zs2 ?_) | (apply zg3; refine zs8 ?_) | apply (zs13 ?_) | (apply zg8; (refine zs16 ?_ ?_ <;> intro _ <;> try (exfalso; omega))) | (apply zg23; (refine zs52 ?_; intro _)) | apply (zs65 ?_) | apply (zs68 ?_) | apply (zs69 ?_) | apply (zs70 ?_) | (apply zg27; refine zs72 ?_) | apply (zs76 ?_) | fail)
  first | (rename_i g3 g5; guard_hyp g3 : Nat; guard_hyp g5 : Nat) | (rename_i g3 g5 _; guard_hyp g3 : Nat; guard_hyp g5 : Nat) | (rename_i g3 g5 _ _; guard_hyp g3 : Nat; guard_hyp g5 : Nat)
  apply Zm [0, 1, 3, 2, 4, 5, 6, 7, 8, 9] [] [true, true]
  kernel_rfl
  kernel_rfl
  exact zy
  (simp only [Yi, nthO]; rfl)
  exact rfl
  repeat' (first | apply (zs1 ?_) | (apply zg3; refine zs8 ?_) | apply (zs87 ?_) | fail)
  apply Ys _ en68
  exact za
  exact rfl
  exact fun _ hw => (p2 (hq.mono zk) (hw))
  rintro _ _ ⟨A2, cap2, rfl, rfl⟩
  repeat' (first | apply (zs65 ?_) | apply (zs87 ?_) | (apply Ym; (repeat (first | with_reducible exact Yh | (with_reducible apply Yg; (repeat (first | with_reducible exact Yf | with_reducible apply Ye)))))) | fail)
  first | apply Ya en13 | apply Yb en13
  exact za
  exact rfl
  exact fun _ hw => (p3 (hin.mono zk) (Rd.sl zm) (hrs.mono zk) hw)
  repeat' (first | apply (zs1 ?_) | apply (zs2 ?_) | (apply zg4; refine zs9 ?_) | apply (zs13 ?_) | (apply zg8; (refine zs16 ?_ ?_ <;> intro _ <;> try (exfalso; omega))) | apply (zs65 ?_) | (apply Yp; exact zp) | apply (zs68 ?_) | apply (zs69 ?_) | apply (zs70 ?_) | (apply zg27; refine zs72 ?_) | apply (zs73 ?_) | apply (zs76 ?_) | (apply Ym; (repeat (first | with_reducible exact Yh | (with_reducible apply Yg; (repeat (first | with_reducible exact Yf | with_reducible apply Ye)))))) | apply (zs93 ?_) | apply (zs94 ?_) | fail)
  refine Yk (fun z : MkM => [(40, .int .i64 (z.i : Nat)), (39, .int .i64 q.length), (38, .slice A q.length cap), (13, .slice z.A z.C.length z.cap), (5, .pointer (some ⟨g5, 0, none⟩)), (3, .pointer (some ⟨g3, 0, none⟩))]) (fun z => clsP z.A z.cap z.C :: many (z.C.map clQ) :: schA g5 s :: netA g3 n :: H)
    (fun z => z.i ≤ q.length ∧ z.C.map ClM.clm = (q.take z.i).map (fun x => clmE n.net s.sch x.rq) ∧ (∀ c ∈ z.C, c.lens) ∧ ∀ j, 0 ≤ j → j < z.i → F j = 0) (fun z => q.length - z.i) ⟨0, none, 0, []⟩ ⟨Nat.zero_le _, rfl, (fun c hc => by cases hc), fun j _ h => absurd h (Nat.not_lt_zero _)⟩ ?_ ?_ ?_
  · exact zu
  · intro w hw
    have h5 : St B w0 (schA g5 s :: netA g3 n :: H) w := by
      revert w
      exact zk
    exact Jy h5
  rintro ⟨i, A3, cap3, C⟩ ⟨hi, hC, hCl, hz⟩ K hK
  dsimp only at hi hC hCl hz ⊢
  have hqr' : Rd B w0 (clsP A3 cap3 C :: many (C.map clQ) :: schA g5 s :: netA g3 n :: H) A (q.flatMap rqF) := hqr.cons.cons.cons.cons
  have hCn : C.length ≤ q.length := by
    have := congrArg List.length hC
    rw [List.length_map, List.length_map, List.length_take] at this
    omega
  by_cases hlt : i < q.length
  rotate_left
  · obtain rfl : i = q.length := by omega
    have hfe := Xo (f := F) (r := q.length) (i0 := 0) fun j h1 h2 => hz j h1 (by omega)
    rw [hfe, if_neg (fun e => e rfl)] at hR
    subst hR
    rw [List.take_length] at hC
    clear hK
    repeat' (first | apply (zs1 ?_) | apply (zs2 ?_) | (apply (zs17 ?_ ?_) <;> intro _ <;> try (exfalso; omega)) | apply (zs65 ?_) | apply (zs68 ?_) | apply (zs69 ?_) | apply (zs70 ?_) | (apply zg27; refine zs72 ?_) | apply (zs74 ?_) | apply (zs75 ?_) | apply (zs80 ?_) | apply (zs81 ?_) | fail)
    apply Yj (clsP A3 cap3 C :: many (C.map clQ) :: H)
    · exact zk
    apply XA; exact rfl; exact rfl; exact rfl; exact rfl
    exact ⟨A3, cap3, C, rfl, by rw [hC, List.map_map]; rfl, hCl, rfl⟩
  obtain ⟨x, hx⟩ : ∃ x, q[i]? = some x := ⟨_, List.getElem?_eq_getElem hlt⟩
  have hxm := List.mem_of_getElem? hx
  have hFx := hFv hx
  have p5 := fun {H' : List HP} {w : World} (hin : n.In B w0 H') (hrs : Rd B w0 H' s.A (s.cells.flatMap celF)) (hxi : x.In B w0 H') (hw : St B w0 H' w) => p4 x (hrq x hxm) hin hrs hxi hw
  have hxi := hq.x x hxm
  cases hlb : VG n.net s.sch x.rq with
  | true =>
    rw [hlb, if_pos rfl] at hFx
    rw [hlb] at p5
    have hfe := Xa (f := F) (r := q.length) (i0 := 0) (i := i) (fun j h1 h2 => hz j h1 h2) (Nat.zero_le _) (by omega) (by rw [hFx]; decide)
    rw [hfe, hFx] at hR
    rw [if_pos (show (15 : Int) ≠ 0 from by decide)] at hR
    subst hR
    clear hK
    repeat' (first | apply (zs1 ?_) | apply (zs2 ?_) | (apply zg3; first | refine zs8 ?_ | refine zs61 ?_) | (apply zg5; refine zs57 ?_) | (apply (zs17 ?_ ?_) <;> intro _ <;> try (exfalso; omega)) | (apply zg22; refine zs51 ?_) | (apply zg24; (refine zs54 ?_; intro _)) | apply (zs65 ?_) | apply (zs68 ?_) | apply (zs69 ?_) | apply (zs70 ?_) | (apply zg27; refine zs71 ?_) | apply (zs73 ?_) | apply (zs76 ?_) | fail)
    apply Ys _ en69
    exact za
    exact rfl
    exact fun _ hw => (p5 (hin.mono zk) (hrs.mono zk) (hxi.mono zk) (hw))
    rintro _ _ ⟨c, rfl, _, rfl⟩
    unfold clV
    repeat' (first | apply (zs1 ?_) | apply (zs2 ?_) | apply (zs13 ?_) | (apply zg20; refine zs48 ?_) | (apply zg22; refine zs51 ?_) | (apply zg24; (refine zs54 ?_; intro _)) | apply (zs65 ?_) | apply (zs68 ?_) | apply (zs69 ?_) | apply (zs70 ?_) | (apply zg27; refine zs71 ?_) | apply (zs74 ?_) | apply (zs77 ?_) | apply (zs78 ?_) | fail)
    apply Yj (clsP none 0 [] :: many (([] : List ClM).map clQ) :: H)
    · intro w hw
      have h5 : St B w0 H w := by
        revert w
        exact zk
      exact Jy h5
    apply XA; exact rfl; exact rfl; exact rfl; exact rfl
    exact Jn rfl rfl
  | false =>
    rw [hlb, if_neg (by decide)] at hFx
    rw [hlb] at p5
    repeat' (first | apply (zs1 ?_) | apply (zs2 ?_) | (apply zg3; first | refine zs8 ?_ | refine zs61 ?_) | (apply zg5; refine zs57 ?_) | (apply (zs17 ?_ ?_) <;> intro _ <;> try (exfalso; omega)) | (apply zg22; refine zs51 ?_) | (apply zg24; (refine zs54 ?_; intro _)) | apply (zs65 ?_) | apply (zs68 ?_) | apply (zs69 ?_) | apply (zs70 ?_) | (apply zg27; refine zs71 ?_) | apply (zs73 ?_) | apply (zs76 ?_) | fail)
    apply Ys _ en69
    exact za
    exact rfl
    exact fun _ hw => (p5 (hin.mono zk) (hrs.mono zk) (hxi.mono zk) (hw))
    rintro _ _ ⟨c, rfl, hcc, rfl⟩
    obtain ⟨hcm, hcl⟩ := hcc rfl
    unfold clV
    repeat' (first | apply (zs1 ?_) | apply (zs2 ?_) | (apply zg3; refine zs8 ?_) | apply (zs13 ?_) | (apply zg13; refine zs30 ?_) | (apply zg20; refine zs47 ?_) | (apply zg21; (refine zs49 ?_; intro _ _)) | (apply zg22; refine zs51 ?_) | (apply zg24; (refine zs54 ?_; intro _)) | (apply zg26; (refine zs56 ?_; intro _)) | apply (zs65 ?_) | apply (zs68 ?_) | apply (zs69 ?_) | apply (zs70 ?_) | (apply zg27; refine zs72 ?_) | apply (zs76 ?_) | apply (zs79 ?_) | fail)
    first | (rename_i A4 cap4; guard_hyp A4 : Option Addr)
    rw [Ybt, show C.length + 1 = (C ++ [c]).length by simp]
    apply hK ⟨i + 1, A4, cap4, C ++ [c]⟩
    · refine ⟨by show i + 1 ≤ _; omega, ?_, fun y hy => ?_, fun j h1 h2 => ?_⟩
      · show (C ++ [c]).map ClM.clm = _
        rw [List.take_add_one, hx, Option.toList_some, List.map_append, List.map_append, hC]
        simp [hcm]
      · rcases List.mem_append.1 hy with h | h
        · exact hCl y h
        · rw [List.mem_singleton.1 h]; exact hcl
      · rcases Nat.lt_succ_iff_lt_or_eq.1 h2 with h | rfl
        · exact hz j h1 h
        · exact hFx
    · dsimp only; omega
    · exact zu
    · intro w hw
      have h5 : St B w0 (clsP A4 cap4 (C ++ [c]) :: clQ c :: many (C.map clQ) :: schA g5 s :: netA g3 n :: H) w := by
        revert w
        exact zk
      exact h5.perm (.cons _ (Zz clQ C c _))
open Go.RowKit Go.Eng Go.Nw Go.Rt
theorem J7 (l m : List Int) (hlen : l.length ≤ 9223372036854775807) (_hlen2 : m.length ≤ 9223372036854775807) {A A2 : Option Addr} {cap cap2 B : Nat} {w0 : World} {H : List HP} {w : World} (hr : Rd B w0 H A (l.flatMap numF)) (hr2 : Rd B w0 H A2 (m.flatMap numF)) (hw : St B w0 H w) :
    Calls Tryz.prog 132 [.slice A l.length cap, .slice A2 m.length cap2].toArray w (Post B w0 fun u K => u = .bool (decide (l = m)) ∧ K = H) := by
  refine Yd Tryz.func132 Tryz.ntmps132 rfl rfl hw ?_
  by_cases hll : l.length = m.length
  rotate_left
  · repeat' (first | apply (zs1 ?_) | apply (zs2 ?_) | (apply zg4; refine zs9 ?_) | (apply zg8; (refine zs16 ?_ ?_ <;> intro _ <;> try (exfalso; omega))) | apply (zs65 ?_) | apply (zs68 ?_) | apply (zs69 ?_) | apply (zs70 ?_) | (apply zg27; refine zs71 ?_) | apply (zs74 ?_) | apply (zs77 ?_) | fail)
    apply Yc; exact rfl; exact rfl
    exact ⟨by rw [decide_eq_false fun e => hll (by rw [e])], rfl⟩
  repeat' (first | apply (zs1 ?_) | apply (zs2 ?_) | (apply zg4; refine zs9 ?_) | (apply zg8; (refine zs16 ?_ ?_ <;> intro _ <;> try (exfalso; omega))) | apply (zs65 ?_) | apply (zs68 ?_) | apply (zs69 ?_) | apply (zs70 ?_) | (apply zg27; refine zs72 ?_) | apply (zs73 ?_) | apply (zs76 ?_) | fail)
  refine Yk (fun (k : Nat) => [(13, .int .i64 k), (12, .int .i64 l.length), (0, .slice A l.length cap), (1, .slice A2 m.length cap2)]) (fun _ => H) (fun k => k ≤ l.length ∧ l.take k = m.take k) (fun k => l.length - k) 0 ⟨Nat.zero_le _, by simp⟩ ?_ (fun w hw => hw) ?_
  · exact zu
  rintro k ⟨hk, hi⟩ K hK
  by_cases hlt : k < l.length
  · obtain ⟨a, ha⟩ : ∃ a, l[k]? = some a := ⟨_, List.getElem?_eq_getElem hlt⟩
    obtain ⟨b, hb⟩ : ∃ b, m[k]? = some b := ⟨_, List.getElem?_eq_getElem (by omega)⟩
    repeat' (first | apply (zs1 ?_) | apply (zs2 ?_) | (apply zg3; refine zs60 ?_) | (apply zg5; refine zs57 ?_) | (apply zg8; (refine zs16 ?_ ?_ <;> intro _ <;> try (exfalso; omega))) | (apply (zs17 ?_ ?_) <;> intro _ <;> try (exfalso; omega)) | (apply zg13; refine zs30 ?_) | apply (zs65 ?_) | apply (zs66 ?_) | apply (zs68 ?_) | apply (zs69 ?_) | apply (zs70 ?_) | (apply zg27; first | refine zs71 ?_ | refine zs72 ?_) | apply (zs73 ?_) | apply (zs74 ?_) | apply (zs76 ?_) | apply (zs77 ?_) | apply (zs78 ?_) | apply (zs79 ?_) | (apply zg28; refine zs83 ?_) | fail)
    · rename_i h
      apply Yc; exact rfl; exact rfl
      exact ⟨by rw [decide_eq_false fun e => by rw [e, hb] at ha; exact h (Option.some.inj ha).symm], rfl⟩
    · rename_i h
      apply hK (k + 1)
      · exact ⟨by omega, by rw [Zr ha, Zr hb, hi, h]⟩
      · omega
      · exact zu
      · exact fun w hw => hw
  · repeat' (first | apply (zs2 ?_) | (apply (zs17 ?_ ?_) <;> intro _ <;> try (exfalso; omega)) | apply (zs65 ?_) | apply (zs68 ?_) | apply (zs69 ?_) | apply (zs70 ?_) | (apply zg27; refine zs72 ?_) | apply (zs74 ?_) | apply (zs75 ?_) | apply (zs80 ?_) | apply (zs81 ?_) | fail)
    apply Yc; exact rfl; exact rfl
    rw [List.take_of_length_le (by omega), List.take_of_length_le (by omega)] at hi
    exact ⟨by rw [decide_eq_true hi], rfl⟩
theorem OQ (a b : RowM) {B : Nat} {w0 : World} {H : List HP} {w : World} (hl : a.xs.length ≤ 1000000000000 ∧ b.xs.length ≤ 1000000000000) (hr : Rd B w0 H a.A (a.xs.flatMap numF)) (hr2 : Rd B w0 H b.A (b.xs.flatMap numF)) (hw : St B w0 H w) :
    Calls Tryz.prog 130 [.slice a.A a.xs.length a.cap, .slice b.A b.xs.length b.cap].toArray w (Post B w0 fun u K => u = .bool (decide (a.xs = b.xs)) ∧ K = H) := by
  refine Yd Tryz.func130 Tryz.ntmps130 rfl rfl hw ?_
  repeat' (first | ((first | apply Ya en33 | apply Yb en33); exact za; exact rfl; exact fun _ hw => (We a.xs b.xs (by omega) (by omega) hr hr2 hw)) | apply (zs1 ?_) | apply (zs2 ?_) | apply (zs65 ?_) | apply (zs68 ?_) | apply (zs69 ?_) | apply (zs70 ?_) | apply (zs74 ?_) | fail)
  apply Yc; exact rfl; exact rfl; exact ⟨rfl, rfl⟩
set_option maxHeartbeats 1000000 in
theorem UL (l m : List RowM) (hlen : l.length ≤ 1000000000000) (_hlen2 : m.length ≤ 1000000000000) (hl2 : ∀ r ∈ l, r.xs.length ≤ 1000000000000) (hm2 : ∀ r ∈ m, r.xs.length ≤ 1000000000000) {A A2 : Option Addr} {cap cap2 B : Nat} {w0 : World} {H : List HP} {w : World} (hr : Rd B w0 H A (l.flatMap rowF)) (hr2 : Rd B w0 H A2 (m.flatMap rowF)) (hrl : ∀ r ∈ l, Rd B w0 H r.A (r.xs.flatMap numF)) (hrm : ∀ r ∈ m, Rd B w0 H r.A (r.xs.flatMap numF)) (hw : St B w0 H w) :
    Calls Tryz.prog 133 [.slice A l.length cap, .slice A2 m.length cap2, .func (.func 130) #[] #[]].toArray w (Post B w0 fun u K => u = .bool (decide (l.map (·.xs) = m.map (·.xs))) ∧ K = H) := by
  refine Yd Tryz.func133 Tryz.ntmps133 rfl rfl hw ?_
  by_cases hll : l.length = m.length
  rotate_left
  · repeat' (first | apply (zs1 ?_) | apply (zs2 ?_) | (apply zg4; refine zs9 ?_) | (apply zg8; (refine zs16 ?_ ?_ <;> intro _ <;> try (exfalso; omega))) | apply (zs65 ?_) | apply (zs68 ?_) | apply (zs69 ?_) | apply (zs70 ?_) | (apply zg27; refine zs71 ?_) | apply (zs74 ?_) | apply (zs77 ?_) | fail)
    apply Yc; exact rfl; exact rfl
    exact ⟨by rw [decide_eq_false fun e => hll (by have := congrArg List.length e; simpa using this)], rfl⟩
  repeat' (first | apply (zs1 ?_) | apply (zs2 ?_) | (apply zg4; refine zs9 ?_) | (apply zg8; (refine zs16 ?_ ?_ <;> intro _ <;> try (exfalso; omega))) | apply (zs65 ?_) | apply (zs68 ?_) | apply (zs69 ?_) | apply (zs70 ?_) | (apply zg27; refine zs72 ?_) | apply (zs73 ?_) | apply (zs76 ?_) | fail)
  refine Yk (fun (k : Nat) => [(17, .int .i64 k), (16, .int .i64 l.length), (15, .slice A l.length cap), (0, .slice A l.length cap), (1, .slice A2 m.length cap2), (2, .func (.func 130) #[] #[])]) (fun _ => H) (fun k => k ≤ l.length ∧ (l.take k).map (·.xs) = (m.take k).map (·.xs)) (fun k => l.length - k) 0 ⟨Nat.zero_le _, by simp⟩ ?_ (fun w hw => hw) ?_
  · exact zu
  rintro k ⟨hk, hi⟩ K hK
  by_cases hlt : k < l.length
  · obtain ⟨a, ha⟩ : ∃ a, l[k]? = some a := ⟨_, List.getElem?_eq_getElem hlt⟩
    obtain ⟨b, hb⟩ : ∃ b, m[k]? = some b := ⟨_, List.getElem?_eq_getElem (by omega)⟩
    have ham := List.mem_of_getElem? ha
    have hbm := List.mem_of_getElem? hb
    have hss := fun {w : World} (hw : St B w0 H w) => OQ a b ⟨hl2 a ham, hm2 b hbm⟩ (hrl a ham) (hrm b hbm) hw
    by_cases hab : a.xs = b.xs
    · rw [decide_eq_true hab] at hss
      repeat' (first | ((first | apply YE (cs := []) | apply Y4 (cs := [])); exact rfl; exact YgL; exact za; exact rfl; exact fun _ hw => (hss hw)) | apply (zs1 ?_) | apply (zs2 ?_) | (apply zg3; refine zs60 ?_) | (apply zg5; refine zs57 ?_) | (apply (zs17 ?_ ?_) <;> intro _ <;> try (exfalso; omega)) | (apply zg13; refine zs30 ?_) | (apply zg20; refine zs47 ?_) | apply (zs65 ?_) | apply (zs68 ?_) | apply (zs69 ?_) | apply (zs70 ?_) | (apply zg27; first | refine zs71 ?_ | refine zs72 ?_) | apply (zs73 ?_) | apply (zs76 ?_) | apply (zs79 ?_) | fail)
      apply hK (k + 1)
      · exact ⟨by omega, by rw [List.take_add_one, List.take_add_one, ha, hb, List.map_append, List.map_append, hi]; simp [hab]⟩
      · omega
      · exact zu
      · exact fun w hw => hw
    · rw [decide_eq_false hab] at hss
      repeat' (first | ((first | apply YE (cs := []) | apply Y4 (cs := [])); exact rfl; exact YgL; exact za; exact rfl; exact fun _ hw => (hss hw)) | apply (zs1 ?_) | apply (zs2 ?_) | (apply zg3; refine zs60 ?_) | (apply zg5; refine zs57 ?_) | (apply (zs17 ?_ ?_) <;> intro _ <;> try (exfalso; omega)) | (apply zg20; refine zs48 ?_) | apply (zs65 ?_) | apply (zs68 ?_) | apply (zs69 ?_) | apply (zs70 ?_) | (apply zg27; refine zs71 ?_) | apply (zs73 ?_) | apply (zs74 ?_) | apply (zs76 ?_) | apply (zs77 ?_) | apply (zs78 ?_) | fail)
      apply Yc; exact rfl; exact rfl
      have hne : ¬ (l.map (·.xs) = m.map (·.xs)) := fun e => by
        have h1 : (l.map (·.xs))[k]? = (m.map (·.xs))[k]? := by rw [e]
        rw [List.getElem?_map, List.getElem?_map, ha, hb] at h1
        exact hab (Option.some.inj h1)
      exact ⟨by rw [decide_eq_false hne], rfl⟩
  · repeat' (first | apply (zs2 ?_) | (apply (zs17 ?_ ?_) <;> intro _ <;> try (exfalso; omega)) | apply (zs65 ?_) | apply (zs68 ?_) | apply (zs69 ?_) | apply (zs70 ?_) | (apply zg27; refine zs72 ?_) | apply (zs74 ?_) | apply (zs75 ?_) | apply (zs80 ?_) | apply (zs81 ?_) | fail)
    apply Yc; exact rfl; exact rfl
    rw [List.take_of_length_le (by omega), List.take_of_length_le (by omega)] at hi
    exact ⟨by rw [decide_eq_true hi], rfl⟩
theorem Qs (a b : RowM) {B : Nat} {w0 : World} {H : List HP} {w : World} (hl : a.xs.length ≤ 1000000000000 ∧ b.xs.length ≤ 1000000000000) (hr : Rd B w0 H a.A (a.xs.flatMap numF)) (hr2 : Rd B w0 H b.A (b.xs.flatMap numF)) (hw : St B w0 H w) :
    Calls Tryz.prog 131 [.slice a.A a.xs.length a.cap, .slice b.A b.xs.length b.cap].toArray w (Post B w0 fun u K => u = .bool (decide (a.xs = b.xs)) ∧ K = H) := by
  refine Yd Tryz.func131 Tryz.ntmps131 rfl rfl hw ?_
  repeat' (first | ((first | apply Ya JI | apply Yb JI); exact za; exact rfl; exact fun _ hw => (J7 a.xs b.xs (by omega) (by omega) hr hr2 hw)) | apply (zs1 ?_) | apply (zs2 ?_) | apply (zs65 ?_) | apply (zs68 ?_) | apply (zs69 ?_) | apply (zs70 ?_) | apply (zs74 ?_) | fail)
  apply Yc; exact rfl; exact rfl; exact ⟨rfl, rfl⟩
set_option maxHeartbeats 1000000 in
theorem WH (l m : List RowM) (hlen : l.length ≤ 1000000000000) (_hlen2 : m.length ≤ 1000000000000) (hl2 : ∀ r ∈ l, r.xs.length ≤ 1000000000000) (hm2 : ∀ r ∈ m, r.xs.length ≤ 1000000000000) {A A2 : Option Addr} {cap cap2 B : Nat} {w0 : World} {H : List HP} {w : World} (hr : Rd B w0 H A (l.flatMap rowF)) (hr2 : Rd B w0 H A2 (m.flatMap rowF)) (hrl : ∀ r ∈ l, Rd B w0 H r.A (r.xs.flatMap numF)) (hrm : ∀ r ∈ m, Rd B w0 H r.A (r.xs.flatMap numF)) (hw : St B w0 H w) :
    Calls Tryz.prog 134 [.slice A l.length cap, .slice A2 m.length cap2, .func (.func 131) #[] #[]].toArray w (Post B w0 fun u K => u = .bool (decide (l.map (·.xs) = m.map (·.xs))) ∧ K = H) := by
  refine Yd Tryz.func134 Tryz.ntmps134 rfl rfl hw ?_
  by_cases hll : l.length = m.length
  rotate_left
  · repeat' (first | apply (zs1 ?_) | apply (zs2 ?_) | (apply zg4; refine zs9 ?_) | (apply zg8; (refine zs16 ?_ ?_ <;> intro _ <;> try (exfalso; omega))) | apply (zs65 ?_) | apply (zs68 ?_) | apply (zs69 ?_) | apply (zs70 ?_) | (apply zg27; refine zs71 ?_) | apply (zs74 ?_) | apply (zs77 ?_) | fail)
    apply Yc; exact rfl; exact rfl
    exact ⟨by rw [decide_eq_false fun e => hll (by have := congrArg List.length e; simpa using this)], rfl⟩
  repeat' (first | apply (zs1 ?_) | apply (zs2 ?_) | (apply zg4; refine zs9 ?_) | (apply zg8; (refine zs16 ?_ ?_ <;> intro _ <;> try (exfalso; omega))) | apply (zs65 ?_) | apply (zs68 ?_) | apply (zs69 ?_) | apply (zs70 ?_) | (apply zg27; refine zs72 ?_) | apply (zs73 ?_) | apply (zs76 ?_) | fail)
  refine Yk (fun (k : Nat) => [(17, .int .i64 k), (16, .int .i64 l.length), (15, .slice A l.length cap), (0, .slice A l.length cap), (1, .slice A2 m.length cap2), (2, .func (.func 131) #[] #[])]) (fun _ => H) (fun k => k ≤ l.length ∧ (l.take k).map (·.xs) = (m.take k).map (·.xs)) (fun k => l.length - k) 0 ⟨Nat.zero_le _, by simp⟩ ?_ (fun w hw => hw) ?_
  · exact zu
  rintro k ⟨hk, hi⟩ K hK
  by_cases hlt : k < l.length
  · obtain ⟨a, ha⟩ : ∃ a, l[k]? = some a := ⟨_, List.getElem?_eq_getElem hlt⟩
    obtain ⟨b, hb⟩ : ∃ b, m[k]? = some b := ⟨_, List.getElem?_eq_getElem (by omega)⟩
    have ham := List.mem_of_getElem? ha
    have hbm := List.mem_of_getElem? hb
    have hss := fun {w : World} (hw : St B w0 H w) => Qs a b ⟨hl2 a ham, hm2 b hbm⟩ (hrl a ham) (hrm b hbm) hw
    by_cases hab : a.xs = b.xs
    · rw [decide_eq_true hab] at hss
      repeat' (first | ((first | apply YE (cs := []) | apply Y4 (cs := [])); exact rfl; exact Yg1; exact za; exact rfl; exact fun _ hw => (hss hw)) | apply (zs1 ?_) | apply (zs2 ?_) | (apply zg3; refine zs60 ?_) | (apply zg5; refine zs57 ?_) | (apply (zs17 ?_ ?_) <;> intro _ <;> try (exfalso; omega)) | (apply zg13; refine zs30 ?_) | (apply zg20; refine zs47 ?_) | apply (zs65 ?_) | apply (zs68 ?_) | apply (zs69 ?_) | apply (zs70 ?_) | (apply zg27; first | refine zs71 ?_ | refine zs72 ?_) | apply (zs73 ?_) | apply (zs76 ?_) | apply (zs79 ?_) | fail)
      apply hK (k + 1)
      · exact ⟨by omega, by rw [List.take_add_one, List.take_add_one, ha, hb, List.map_append, List.map_append, hi]; simp [hab]⟩
      · omega
      · exact zu
      · exact fun w hw => hw
    · rw [decide_eq_false hab] at hss
      repeat' (first | ((first | apply YE (cs := []) | apply Y4 (cs := [])); exact rfl; exact Yg1; exact za; exact rfl; exact fun _ hw => (hss hw)) | apply (zs1 ?_) | apply (zs2 ?_) | (apply zg3; refine zs60 ?_) | (apply zg5; refine zs57 ?_) | (apply (zs17 ?_ ?_) <;> intro _ <;> try (exfalso; omega)) | (apply zg20; refine zs48 ?_) | apply (zs65 ?_) | apply (zs68 ?_) | apply (zs69 ?_) | apply (zs70 ?_) | (apply zg27; refine zs71 ?_) | apply (zs73 ?_) | apply (zs74 ?_) | apply (zs76 ?_) | apply (zs77 ?_) | apply (zs78 ?_) | fail)
      apply Yc; exact rfl; exact rfl
      have hne : ¬ (l.map (·.xs) = m.map (·.xs)) := fun e => by
        have h1 : (l.map (·.xs))[k]? = (m.map (·.xs))[k]? := by rw [e]
        rw [List.getElem?_map, List.getElem?_map, ha, hb] at h1
        exact hab (Option.some.inj h1)
      exact ⟨by rw [decide_eq_false hne], rfl⟩
  · repeat' (first | apply (zs2 ?_) | (apply (zs17 ?_ ?_) <;> intro _ <;> try (exfalso; omega)) | apply (zs65 ?_) | apply (zs68 ?_) | apply (zs69 ?_) | apply (zs70 ?_) | (apply zg27; refine zs72 ?_) | apply (zs74 ?_) | apply (zs75 ?_) | apply (zs80 ?_) | apply (zs81 ?_) | fail)
    apply Yc; exact rfl; exact rfl
    rw [List.take_of_length_le (by omega), List.take_of_length_le (by omega)] at hi
    exact ⟨by rw [decide_eq_true hi], rfl⟩
theorem Yft {c d : ClM} : c.clm = d.clm ↔ c.flow = d.flow ∧ c.rs.map (·.xs) = d.rs.map (·.xs) ∧ c.bs = d.bs ∧ c.ws = d.ws ∧ c.ss.map (·.xs) = d.ss.map (·.xs) := by
  unfold ClM.clm
  constructor
  · intro h
    injection h with h1 h2 h3 h4 h5
    exact ⟨h1, h2, h3, h4, h5⟩
  · rintro ⟨h1, h2, h3, h4, h5⟩
    rw [h1, h2, h3, h4, h5]
set_option maxRecDepth 10000 in
set_option maxHeartbeats 4000000 in
theorem YcM (c d : ClM) {B : Nat} {w0 : World} {H : List HP} {w : World} (hc : c.In B w0 H) (hd : d.In B w0 H) (hw : St B w0 H w) :
    Calls Tryz.prog 74 [clV c, clV d].toArray w (Post B w0 fun u K => u = .bool (decide (c.clm = d.clm)) ∧ K = H) := by
  refine Yd Tryz.func74 Tryz.ntmps74 rfl rfl hw ?_
  have hcl := hc.ln
  have hdl := hd.ln
  have p1 := fun {H' : List HP} {w : World} (hc : c.In B w0 H') (hd : d.In B w0 H') (hw : St B w0 H' w) => UL c.rs d.rs (cap := c.rcap) (cap2 := d.rcap) hcl.1 hdl.1 hc.rl hd.rl hc.rt hd.rt hc.rw_ hd.rw_ hw
  have p2 := fun {H' : List HP} {w : World} (hc : c.In B w0 H') (hd : d.In B w0 H') (hw : St B w0 H' w) => J7 c.bs d.bs (cap := c.bcap) (cap2 := d.bcap) (by omega) (by omega) hc.bd hd.bd hw
  have p3 := fun {H' : List HP} {w : World} (hc : c.In B w0 H') (hd : d.In B w0 H') (hw : St B w0 H' w) => J7 c.ws d.ws (cap := c.wcap) (cap2 := d.wcap) (by omega) (by omega) hc.ws hd.ws hw
  have p4 := fun {H' : List HP} {w : World} (hc : c.In B w0 H') (hd : d.In B w0 H') (hw : St B w0 H' w) => WH c.ss d.ss (cap := c.scap) (cap2 := d.scap) hcl.2.2.2 hdl.2.2.2 hc.sl hd.sl hc.st hd.st hc.sw hd.sw hw
  have hce := @Yft c d
  unfold clV
  by_cases h1 : c.flow = d.flow
  rotate_left
  · rw [decide_eq_false (fun h => h1 (hce.1 h).1)]
    repeat' (first | apply (zs1 ?_) | apply (zs2 ?_) | (apply zg1; refine zs3 ?_) | (apply zg2; refine zs6 ?_) | (apply zg3; refine zs7 ?_) | (apply zg6; refine zs12 ?_) | (apply zg7; (refine zs15 ?_ ?_ <;> intro _ <;> try (exfalso; omega))) | (apply zg23; (refine zs52 ?_; intro _)) | apply (zs65 ?_) | apply (zs68 ?_) | apply (zs69 ?_) | apply (zs70 ?_) | apply (zs74 ?_) | fail)
    apply Yj H
    · exact zk
    apply Yc; exact rfl; exact rfl; exact ⟨rfl, rfl⟩
  by_cases h2 : c.rs.map (·.xs) = d.rs.map (·.xs)
  rotate_left
  · rw [decide_eq_false (fun h => h2 (hce.1 h).2.1)]
    rw [decide_eq_false h2] at p1
    repeat' (first | apply (zs1 ?_) | apply (zs2 ?_) | (apply zg1; refine zs4 ?_) | (apply zg2; refine zs6 ?_) | (apply zg3; refine zs7 ?_) | (apply zg7; (refine zs15 ?_ ?_ <;> intro _ <;> try (exfalso; omega))) | (apply zg23; (refine zs52 ?_; intro _)) | apply (zs65 ?_) | apply (zs68 ?_) | apply (zs69 ?_) | apply (zs70 ?_) | fail)
    first | apply Ya Wu | apply Yb Wu
    exact za
    exact rfl
    exact fun _ hw => (p1 (hc.mono zk) (hd.mono zk) hw)
    repeat' (first | apply (zs1 ?_) | apply (zs2 ?_) | (apply zg1; refine zs3 ?_) | (apply zg6; first | refine zs11 ?_ | refine zs12 ?_) | apply (zs65 ?_) | apply (zs68 ?_) | apply (zs74 ?_) | fail)
    apply Yj H
    · exact zk
    apply Yc; exact rfl; exact rfl; exact ⟨rfl, rfl⟩
  rw [decide_eq_true h2] at p1
  by_cases h3 : c.bs = d.bs
  rotate_left
  · rw [decide_eq_false (fun h => h3 (hce.1 h).2.2.1)]
    rw [decide_eq_false h3] at p2
    repeat' (first | apply (zs1 ?_) | apply (zs2 ?_) | (apply zg1; refine zs4 ?_) | (apply zg2; refine zs6 ?_) | (apply zg3; refine zs7 ?_) | (apply zg7; (refine zs15 ?_ ?_ <;> intro _ <;> try (exfalso; omega))) | (apply zg23; (refine zs52 ?_; intro _)) | apply (zs65 ?_) | apply (zs68 ?_) | apply (zs69 ?_) | apply (zs70 ?_) | fail)
    first | apply Ya Wu | apply Yb Wu
    exact za
    exact rfl
    exact fun _ hw => (p1 (hc.mono zk) (hd.mono zk) hw)
    repeat' (first | apply (zs1 ?_) | (apply zg1; refine zs4 ?_) | (apply zg2; refine zs6 ?_) | (apply zg3; refine zs7 ?_) | (apply zg6; refine zs11 ?_) | fail)
    first | apply Ya JI | apply Yb JI
    exact za
    exact rfl
    exact fun _ hw => (p2 (hc.mono zk) (hd.mono zk) hw)
    repeat' (first | apply (zs1 ?_) | apply (zs2 ?_) | (apply zg1; refine zs3 ?_) | (apply zg6; first | refine zs11 ?_ | refine zs12 ?_) | apply (zs65 ?_) | apply (zs68 ?_) | apply (zs74 ?_) | fail)
    apply Yj H
    · exact zk
    apply Yc; exact rfl; exact rfl; exact ⟨rfl, rfl⟩
  rw [decide_eq_true h3] at p2
  by_cases h4 : c.ws = d.ws
  rotate_left
  · rw [decide_eq_false (fun h => h4 (hce.1 h).2.2.2.1)]
    rw [decide_eq_false h4] at p3
    repeat' (first | apply (zs1 ?_) | apply (zs2 ?_) | (apply zg1; refine zs4 ?_) | (apply zg2; refine zs6 ?_) | (apply zg3; refine zs7 ?_) | (apply zg7; (refine zs15 ?_ ?_ <;> intro _ <;> try (exfalso; omega))) | (apply zg23; (refine zs52 ?_; intro _)) | apply (zs65 ?_) | apply (zs68 ?_) | apply (zs69 ?_) | apply (zs70 ?_) | fail)
    first | apply Ya Wu | apply Yb Wu
    exact za
    exact rfl
    exact fun _ hw => (p1 (hc.mono zk) (hd.mono zk) hw)
    repeat' (first | apply (zs1 ?_) | (apply zg1; refine zs4 ?_) | (apply zg2; refine zs6 ?_) | (apply zg3; refine zs7 ?_) | (apply zg6; refine zs11 ?_) | fail)
    first | apply Ya JI | apply Yb JI
    exact za
    exact rfl
    exact fun _ hw => (p2 (hc.mono zk) (hd.mono zk) hw)
    repeat' (first | apply (zs1 ?_) | (apply zg1; refine zs4 ?_) | (apply zg2; refine zs6 ?_) | (apply zg3; refine zs7 ?_) | (apply zg6; refine zs11 ?_) | fail)
    first | apply Ya JI | apply Yb JI
    exact za
    exact rfl
    exact fun _ hw => (p3 (hc.mono zk) (hd.mono zk) hw)
    repeat' (first | apply (zs1 ?_) | apply (zs2 ?_) | (apply zg1; refine zs3 ?_) | (apply zg6; first | refine zs11 ?_ | refine zs12 ?_) | apply (zs65 ?_) | apply (zs68 ?_) | apply (zs74 ?_) | fail)
    apply Yj H
    · exact zk
    apply Yc; exact rfl; exact rfl; exact ⟨rfl, rfl⟩
  rw [decide_eq_true h4] at p3
  have h5 : decide (c.clm = d.clm) = decide (c.ss.map (·.xs) = d.ss.map (·.xs)) := decide_eq_decide.2 ⟨fun h => (hce.1 h).2.2.2.2, fun h => hce.2 ⟨h1, h2, h3, h4, h⟩⟩
  rw [h5]
  repeat' (first | apply (zs1 ?_) | apply (zs2 ?_) | (apply zg1; refine zs4 ?_) | (apply zg2; refine zs6 ?_) | (apply zg3; refine zs7 ?_) | (apply zg7; (refine zs15 ?_ ?_ <;> intro _ <;> try (exfalso; omega))) | (apply zg23; (refine zs52 ?_; intro _)) | apply (zs65 ?_) | apply (zs68 ?_) | apply (zs69 ?_) | apply (zs70 ?_) | fail)
  first | apply Ya Wu | apply Yb Wu
  exact za
  exact rfl
  exact fun _ hw => (p1 (hc.mono zk) (hd.mono zk) hw)
  repeat' (first | apply (zs1 ?_) | (apply zg1; refine zs4 ?_) | (apply zg2; refine zs6 ?_) | (apply zg3; refine zs7 ?_) | (apply zg6; refine zs11 ?_) | fail)
  first | apply Ya JI | apply Yb JI
  exact za
  exact rfl
  exact fun _ hw => (p2 (hc.mono zk) (hd.mono zk) hw)
  repeat' (first | apply (zs1 ?_) | (apply zg1; refine zs4 ?_) | (apply zg2; refine zs6 ?_) | (apply zg3; refine zs7 ?_) | (apply zg6; refine zs11 ?_) | fail)
  first | apply Ya JI | apply Yb JI
  exact za
  exact rfl
  exact fun _ hw => (p3 (hc.mono zk) (hd.mono zk) hw)
  repeat' (first | apply (zs1 ?_) | (apply zg1; refine zs4 ?_) | (apply zg2; refine zs6 ?_) | (apply zg3; refine zs7 ?_) | (apply zg6; refine zs11 ?_) | fail)
  first | apply Ya YgN | apply Yb YgN
  exact za
  exact rfl
  exact fun _ hw => (p4 (hc.mono zk) (hd.mono zk) hw)
  repeat' (first | apply (zs2 ?_) | (apply zg6; refine zs11 ?_) | apply (zs65 ?_) | apply (zs68 ?_) | apply (zs74 ?_) | fail)
  apply Yj H
  · exact zk
  apply Yc; exact rfl; exact rfl; exact ⟨rfl, rfl⟩
open Go.RowKit Go.Eng Go.Nw Go.Rt
theorem Zp {c : List ClM} {i : Nat} {x : ClM} (h : c[i]? = some x) : ZG (c.map ClM.clm) i = x.clm := by
  have h2 : (c.map ClM.clm)[i]? = some x.clm := by rw [List.getElem?_map, h]; rfl
  unfold ZG
  rw [List.getD_eq_getElem?_getD, h2]; rfl
theorem Vd {C : List ClM} {c : ClM} {B : Nat} {w0 : World} {H : List HP} (hm : many (C.map clQ) ∈ H) (hc : c ∈ C) (hl : c.lens) : c.In B w0 H := by
  have hb : ∀ w, St B w0 H w → St B w0 (C.map clQ) w := fun w hw => hw.inM hm
  refine ClM.In.mono (H := C.map clQ) (Yhl (List.mem_map_of_mem hc) ⟨⟨?_, ?_, ?_, ?_⟩, ?_, ?_⟩) hb
  · have := hl.1.1; omega
  · have := hl.1.2.1; omega
  · have := hl.1.2.2.1; omega
  · have := hl.1.2.2.2; omega
  · exact fun r hr => Nat.le_trans (hl.2.1 r hr) (by decide)
  · exact fun r hr => Nat.le_trans (hl.2.2 r hr) (by decide)
set_option maxRecDepth 10000 in
set_option maxHeartbeats 8000000 in
theorem Ya2 (n : NetM) (q : List RqM) (s : SchM) (c : List ClM) {A A1 : Option Addr} {cap cap1 B : Nat} {w0 : World} {H : List HP} {w : World} (ht : TabsB B w0) (hin : n.In B w0 H) (hq : QIn B w0 H A q) (hrs : Rd B w0 H s.A (s.cells.flatMap celF)) (hsl : s.cells.length ≤ 1000000000000) (hc : CIn B w0 H A1 c) (hw : St B w0 H w) :
    Calls Tryz.prog 23 [n.val, .slice A q.length cap, s.val, .slice A1 c.length cap1].toArray w (Post B w0 fun v K => v = .tuple #[.int .i64 (chkE n.net (q.map RqM.rq) s.sch (c.map ClM.clm)).1, .int .i64 (chkE n.net (q.map RqM.rq) s.sch (c.map ClM.clm)).2] ∧ K = H) := by
  refine Yd Tryz.func23 Tryz.ntmps23 rfl rfl hw ?_
  have hcl := hc.ln
  have hcr := hc.rd
  have p1 := fun {H' : List HP} {w : World} (hin : n.In B w0 H') (hq : QIn B w0 H' A q) (hrs : Rd B w0 H' s.A (s.cells.flatMap celF)) (hw : St B w0 H' w) => QN n q s (cap := cap) ht hin hq hrs hsl hw
  obtain ⟨⟨RC, ri, re⟩, hR⟩ : ∃ R, V9 n.net (q.map RqM.rq) s.sch = R := ⟨_, rfl⟩
  unfold chkE
  rw [List.length_map]
  rw [hR] at p1 ⊢
  unfold OutC at p1
  dsimp only at p1 ⊢
  unfold NetM.val SchM.val
  by_cases h0 : re = 0
  rotate_left
  · rw [if_pos h0]
    repeat' (first | apply (zs1 ?_) | apply (zs2 ?_) | (apply zg3; refine zs8 ?_) | (apply zg23; (refine zs52 ?_; intro _)) | apply (zs65 ?_) | apply (zs68 ?_) | apply (zs69 ?_) | apply (zs70 ?_) | fail)
    apply Ys _ en19
    exact za
    exact rfl
    exact fun _ hw => (p1 (hin.mono zk) (hq.mono zk) (hrs.mono zk) (hw))
    rintro _ _ ⟨A2, cap2, C, rfl, hC, hCl, rfl⟩
    repeat' (first | apply (zs1 ?_) | apply (zs2 ?_) | apply (zs13 ?_) | (apply zg8; (refine zs16 ?_ ?_ <;> intro _ <;> try (exfalso; omega))) | apply (zs65 ?_) | apply (zs68 ?_) | apply (zs69 ?_) | apply (zs70 ?_) | (apply zg27; refine zs71 ?_) | apply (zs74 ?_) | apply (zs77 ?_) | fail)
    apply Yj H
    · exact zk
    apply Yt; exact rfl; exact rfl; exact rfl; exact ⟨rfl, rfl⟩
  subst h0
  rw [if_neg (fun e => e rfl)]
  repeat' (first | apply (zs1 ?_) | apply (zs2 ?_) | (apply zg3; refine zs8 ?_) | (apply zg23; (refine zs52 ?_; intro _)) | apply (zs65 ?_) | apply (zs68 ?_) | apply (zs69 ?_) | apply (zs70 ?_) | fail)
  apply Ys _ en19
  exact za
  exact rfl
  exact fun _ hw => (p1 (hin.mono zk) (hq.mono zk) (hrs.mono zk) (hw))
  rintro _ _ ⟨A2, cap2, C, rfl, hC, hCl, rfl⟩
  subst hC
  rw [List.length_map]
  by_cases h1 : c.length = C.length
  rotate_left
  · rw [if_pos h1]
    repeat' (first | apply (zs1 ?_) | apply (zs2 ?_) | (apply zg4; refine zs9 ?_) | apply (zs13 ?_) | (apply zg8; (refine zs16 ?_ ?_ <;> intro _ <;> try (exfalso; omega))) | apply (zs65 ?_) | apply (zs68 ?_) | apply (zs69 ?_) | apply (zs70 ?_) | (apply zg27; first | refine zs71 ?_ | refine zs72 ?_) | apply (zs74 ?_) | apply (zs76 ?_) | apply (zs77 ?_) | fail)
    apply Yj H
    · exact zk
    apply Yt; exact rfl; exact rfl; exact rfl; exact ⟨rfl, rfl⟩
  rw [if_neg (fun e => e h1)]
  obtain ⟨F, hF⟩ : ∃ F : Nat → Int, (fun i => if ZG (c.map ClM.clm) i = ZG (C.map ClM.clm) i then (0 : Int) else 20) = F := ⟨_, rfl⟩
  rw [hF]
  have hFv : ∀ {k : Nat} {x y : ClM}, c[k]? = some x → C[k]? = some y → F k = if x.clm = y.clm then 0 else 20 := fun hx hy => by rw [← hF]; show (if _ = _ then _ else _) = _; rw [Zp hx, Zp hy]
  repeat' (first | apply (zs1 ?_) | apply (zs2 ?_) | (apply zg4; refine zs9 ?_) | apply (zs13 ?_) | (apply zg8; (refine zs16 ?_ ?_ <;> intro _ <;> try (exfalso; omega))) | apply (zs65 ?_) | apply (zs68 ?_) | apply (zs69 ?_) | apply (zs70 ?_) | (apply zg27; refine zs72 ?_) | apply (zs73 ?_) | apply (zs76 ?_) | fail)
  refine Yk (fun k : Nat => [(33, .int .i64 (k : Nat)), (32, .int .i64 C.length), (10, .slice A2 C.length cap2), (3, .slice A1 c.length cap1)]) (fun _ => clsP A2 cap2 C :: many (C.map clQ) :: H) (fun k => k ≤ C.length ∧ ∀ j, 0 ≤ j → j < k → F j = 0) (fun k => C.length - k) 0 ⟨Nat.zero_le _, fun j _ h => absurd h (Nat.not_lt_zero _)⟩ ?_ ?_ ?_
  · exact zu
  · exact zk
  rintro k ⟨hk, hz⟩ K hK
  have hcr' : Rd B w0 (clsP A2 cap2 C :: many (C.map clQ) :: H) A1 (c.flatMap clF) := hcr.cons.cons
  have hCr' : Rd B w0 (clsP A2 cap2 C :: many (C.map clQ) :: H) A2 (C.flatMap clF) := .sl (.head _)
  by_cases hlt : k < C.length
  · obtain ⟨x, hx⟩ : ∃ x, c[k]? = some x := ⟨_, List.getElem?_eq_getElem (by omega)⟩
    obtain ⟨y, hy⟩ : ∃ y, C[k]? = some y := ⟨_, List.getElem?_eq_getElem hlt⟩
    have hym := List.mem_of_getElem? hy
    have hFk := hFv hx hy
    have hxi := hc.x x (List.mem_of_getElem? hx)
    have p2 := fun {H' : List HP} {w : World} (hx : x.In B w0 H') (hy : y.In B w0 H') (hw : St B w0 H' w) => YcM x y hx hy hw
    by_cases he : x.clm = y.clm
    · rw [if_pos he] at hFk
      rw [decide_eq_true he] at p2
      repeat' (first | apply (zs1 ?_) | apply (zs2 ?_) | (apply (zs17 ?_ ?_) <;> intro _ <;> try (exfalso; omega)) | apply (zs65 ?_) | apply (zs68 ?_) | apply (zs69 ?_) | apply (zs70 ?_) | (apply zg27; refine zs71 ?_) | apply (zs73 ?_) | apply (zs76 ?_) | fail)
      apply YF [0, 1, 2, 3, 4, 5, 6, 7, 8, 9] []
      kernel_rfl
      kernel_rfl
      (simp only [Yi, nthO]; rfl)
      exact rfl
      repeat' (first | apply (zs1 ?_) | (apply zg3; refine zs61 ?_) | (apply zg5; first | refine zs10 ?_ | refine zs57 ?_) | apply (zs87 ?_) | fail)
      first | apply Ya en74 | apply Yb en74
      exact za
      exact rfl
      exact fun _ hw => (p2 (hxi.mono zk) (Vd zm hym (hCl y hym)) hw)
      repeat' (first | apply (zs1 ?_) | (apply zg13; refine zs30 ?_) | (apply zg20; refine zs47 ?_) | apply (zs65 ?_) | (apply Yp; exact zp) | apply (zs68 ?_) | apply (zs70 ?_) | (apply zg27; refine zs72 ?_) | apply (zs76 ?_) | apply (zs79 ?_) | (apply Ym; (repeat (first | with_reducible exact Yh | (with_reducible apply Yg; (repeat (first | with_reducible exact Yf | with_reducible apply Ye)))))) | apply (zs93 ?_) | apply (zs94 ?_) | fail)
      · show Perm H (H ++ [])
        rw [List.append_nil]; exact Perm.refl _
      repeat' (first | fail)
      apply hK (k + 1)
      · exact ⟨by omega, fun j h1 h2 => by
          rcases Nat.lt_succ_iff_lt_or_eq.1 h2 with h | rfl
          · exact hz j h1 h
          · exact hFk⟩
      · omega
      · exact zu
      · exact zk
    · rw [if_neg he] at hFk
      rw [decide_eq_false he] at p2
      have hfe := Xa (f := F) (r := c.length) (i0 := 0) (i := k) (fun j h1 h2 => hz j h1 h2) (Nat.zero_le _) (by omega) (by rw [hFk]; decide)
      rw [hfe, hFk]
      clear hK
      repeat' (first | apply (zs1 ?_) | apply (zs2 ?_) | (apply (zs17 ?_ ?_) <;> intro _ <;> try (exfalso; omega)) | apply (zs65 ?_) | apply (zs68 ?_) | apply (zs69 ?_) | apply (zs70 ?_) | (apply zg27; refine zs71 ?_) | apply (zs73 ?_) | apply (zs76 ?_) | fail)
      apply YF [0, 1, 2, 3, 4, 5, 6, 7, 8, 9] []
      kernel_rfl
      kernel_rfl
      (simp only [Yi, nthO]; rfl)
      exact rfl
      repeat' (first | apply (zs1 ?_) | (apply zg3; refine zs61 ?_) | (apply zg5; first | refine zs10 ?_ | refine zs57 ?_) | apply (zs87 ?_) | fail)
      first | apply Ya en74 | apply Yb en74
      exact za
      exact rfl
      exact fun _ hw => (p2 (hxi.mono zk) (Vd zm hym (hCl y hym)) hw)
      repeat' (first | apply (zs1 ?_) | apply (zs2 ?_) | (apply zg20; refine zs48 ?_) | apply (zs65 ?_) | (apply Yp; exact zp) | apply (zs68 ?_) | apply (zs69 ?_) | apply (zs70 ?_) | (apply zg27; refine zs71 ?_) | apply (zs74 ?_) | apply (zs77 ?_) | apply (zs78 ?_) | (apply Ym; (repeat (first | with_reducible exact Yh | (with_reducible apply Yg; (repeat (first | with_reducible exact Yf | with_reducible apply Ye)))))) | apply (zs93 ?_) | apply (zs94 ?_) | fail)
      · show Perm H (H ++ [])
        rw [List.append_nil]; exact Perm.refl _
      repeat' (first | fail)
      apply Yj H
      · exact zk
      apply Yt; exact rfl; exact rfl; exact rfl; exact ⟨rfl, rfl⟩
  · obtain rfl : k = C.length := by omega
    have hfe := Xo (f := F) (r := c.length) (i0 := 0) fun j h1 h2 => hz j h1 (by omega)
    rw [hfe]
    clear hK
    repeat' (first | apply (zs2 ?_) | (apply (zs17 ?_ ?_) <;> intro _ <;> try (exfalso; omega)) | apply (zs65 ?_) | apply (zs68 ?_) | apply (zs69 ?_) | apply (zs70 ?_) | (apply zg27; refine zs72 ?_) | apply (zs74 ?_) | apply (zs75 ?_) | apply (zs80 ?_) | apply (zs81 ?_) | fail)
    apply Yj H
    · exact zk
    apply Yt; exact rfl; exact rfl; exact rfl; exact ⟨rfl, rfl⟩
open Go.RowKit Go.Eng Go.Nw Go.Rt
def wordF : List UInt8 := [102, 108, 111, 119]
def wordR : List UInt8 := [114, 111, 117, 116, 101]
def wordB : List UInt8 := [98, 111, 117, 110, 100]
def wordL : List UInt8 := [115, 108, 111, 116, 115]
def Xj (k : Nat) : List UInt8 := if k = 0 then wordF else if k = 1 then wordR else if k = 2 then wordB else wordL
def Z1 (k : Nat) : Nat := if k = 1 ∨ k = 2 then 2 else 1
def J6 (k : Nat) : Nat := if k = 0 then 1 else if k = 1 then 9 else if k = 2 then 2 else 64
def YV (k : Nat) : Nat := if k = 0 then 3 else k - 1
def inL (l : List Int) (a b : Int) : Bool := l.all fun x => decide (a ≤ x ∧ x ≤ b)
def rtOk (r l : List Int) : Bool := decide (2 ≤ r.length ∧ r.length ≤ 9) && inL r 0 31 && decide (1 ≤ l.length ∧ l.length ≤ 64) && inL l 0 511
def ZP (c : Clm) : Bool := decide (0 ≤ c.flow ∧ c.flow ≤ 255 ∧ 1 ≤ c.routes.length ∧ c.routes.length ≤ 2 ∧ c.bounds.length = c.routes.length ∧ c.worst.length = c.routes.length ∧ c.slots.length = c.routes.length) &&
  inL c.bounds 1 512 && inL c.worst 0 511 && (List.range c.routes.length).all fun i => rtOk (rtAt c.routes i) (rtAt c.slots i)
def Ydl (c : List Clm) (i : Nat) : Bool := ZP (ZG c i) && (decide (i = 0) || decide ((ZG c (i - 1)).flow < (ZG c i).flow))
def ZA (c : List Clm) : Bool := decide (c.length ≤ 16) && (List.range c.length).all (Ydl c)
def Ybk (c : Clm) (i : Nat) : List (List UInt8) :=
  YA wordR (rtAt c.routes i) :: ((if i < c.bounds.length then [YA wordB [c.bounds.getD i 0, c.worst.getD i 0]] else []) ++ (if i < c.slots.length then [YA wordL (rtAt c.slots i)] else []))
def XJ (c : Clm) : List (List UInt8) := YA wordF [c.flow] :: (List.range c.routes.length).flatMap (Ybk c)
def JK (c : List Clm) : List UInt8 := (c.flatMap XJ).flatMap fun p => p ++ [10]
def YU (c : List Clm) : List UInt8 × Int := if ZA c = false then ([], 1) else (JK c, 0)
structure Pst where
  c : List Clm
  last : Nat
def Wk (c : List Clm) : Clm := ZG c (c.length - 1)
def Zc (p : Pst) (k : Nat) : Bool := decide (p.last = YV k) || (decide (k = 1) && decide (p.last = 3) && decide (0 < p.c.length) && decide ((Wk p.c).routes.length < 2))
def YJ (k : Nat) (l : List Int) (x : Clm) : Clm :=
  if k = 1 then ⟨x.flow, x.routes ++ [l], x.bounds, x.worst, x.slots⟩ else if k = 2 then ⟨x.flow, x.routes, x.bounds ++ [l.getD 0 0], x.worst ++ [l.getD 1 0], x.slots⟩ else ⟨x.flow, x.routes, x.bounds, x.worst, x.slots ++ [l]⟩
def WO (c : List Clm) (x : Clm) : List Clm := c.take (c.length - 1) ++ [x]
def X0 (k : Nat) (l : List Int) (c : List Clm) : List Clm := if k = 0 then c ++ [⟨l.getD 0 0, [], [], [], []⟩] else WO c (YJ k l (Wk c))
def O6 (p : Pst) (line : List UInt8) (k : Nat) : Option Pst :=
  match Jb (cutC 32 line).tail with
  | none => none
  | some l => if Z1 k ≤ l.length ∧ l.length ≤ J6 k ∧ Zc p k = true then some ⟨X0 k l p.c, k⟩ else none
def JA (w : List UInt8) : Option Nat := if w = wordF then some 0 else if w = wordR then some 1 else if w = wordB then some 2 else if w = wordL then some 3 else none
def Xt (p : Pst) (line : List UInt8) : Option Pst :=
  match JA ((cutC 32 line).headD []) with
  | none => none
  | some k => O6 p line k
def runL : List (List UInt8) → Pst → Option Pst
  | [], p => some p
  | l :: ls, p => match Xt p l with | none => none | some p' => runL ls p'
def startP : Pst := ⟨[], 3⟩
def XM (ls : List (List UInt8)) (k : Nat) : Option Pst := runL (ls.take k) startP
def badL (ls : List (List UInt8)) (i : Nat) : Int := if (XM ls (i + 1)).isNone = true then 3 else 0
def JJ (ls : List (List UInt8)) (k : Nat) : Pst := (XM ls k).getD startP
def ZU (ls : List (List UInt8)) : List Clm × (Int × Int) :=
  if (Yz (badL ls) (ls.length - 1) 0).2 ≠ 0 then ([], Yz (badL ls) (ls.length - 1) 0)
  else if Xb ls (ls.length - 1) ≠ [] ∨ (JJ ls (ls.length - 1)).last ≠ 3 then ([], (((ls.length - 1 : Nat) : Int), 3))
  else if ZA (JJ ls (ls.length - 1)).c = false then ([], (-1, 1)) else ((JJ ls (ls.length - 1)).c, (-1, 0))
def XO (text : List UInt8) : List Clm × (Int × Int) := ZU (cutC 10 text)
theorem Jd : ∀ (l m : List (List UInt8)) (p : Pst), runL (l ++ m) p = (runL l p).bind (runL m)
  | [], m, p => rfl
  | x :: l, m, p => by
    rw [List.cons_append]
    unfold runL
    cases Xt p x with
    | none => rfl
    | some p' => exact Jd l m p'
theorem YeD {ls : List (List UInt8)} {k : Nat} {p : Pst} (hk : k < ls.length) (h : XM ls k = some p) : XM ls (k + 1) = Xt p (Xb ls k) := by
  unfold XM at h ⊢
  rw [U7 hk, Jd, h]
  show runL [Xb ls k] p = _
  unfold runL
  cases Xt p (Xb ls k) <;> rfl
theorem O1 {k : Nat} (hk : k < 4) : JA (Xj k) = some k ∧ (32 : UInt8) ∉ Xj k ∧ (10 : UInt8) ∉ Xj k := by
  match k, hk with
  | 0, _ => decide
  | 1, _ => decide
  | 2, _ => decide
  | 3, _ => decide
theorem Vo {p : Pst} {k : Nat} {l : List Int} (hk : k < 4) (hl : ∀ n ∈ l, 0 ≤ n ∧ n < 10000) (h1 : Z1 k ≤ l.length ∧ l.length ≤ J6 k) (hf : Zc p k = true) : Xt p (YA (Xj k) l) = some ⟨X0 k l p.c, k⟩ := by
  obtain ⟨w1, w2, _⟩ := O1 hk
  have hr := YeB w2 hl
  unfold Qb at hr
  split at hr
  · cases hr
  rename_i h
  have hh : (cutC 32 (YA (Xj k) l)).headD [] = Xj k := Decidable.byContradiction fun e => h (.inr e)
  unfold Xt
  rw [hh, w1]
  show O6 p _ k = _
  unfold O6
  rw [hr]
  show (if _ then _ else _) = _
  rw [if_pos ⟨h1.1, h1.2, hf⟩]
structure JN (c : Clm) : Prop where
  f : 0 ≤ c.flow ∧ c.flow ≤ 255
  n : 1 ≤ c.routes.length ∧ c.routes.length ≤ 2
  b : c.bounds.length = c.routes.length
  w : c.worst.length = c.routes.length
  s : c.slots.length = c.routes.length
  bs : ∀ x ∈ c.bounds, 1 ≤ x ∧ x ≤ 512
  ws : ∀ x ∈ c.worst, 0 ≤ x ∧ x ≤ 511
  rs : ∀ i, i < c.routes.length → 2 ≤ (rtAt c.routes i).length ∧ (rtAt c.routes i).length ≤ 9 ∧ ∀ x ∈ rtAt c.routes i, 0 ≤ x ∧ x ≤ 31
  ls : ∀ i, i < c.routes.length → 1 ≤ (rtAt c.slots i).length ∧ (rtAt c.slots i).length ≤ 64 ∧ ∀ x ∈ rtAt c.slots i, 0 ≤ x ∧ x ≤ 511
theorem WM {l : List Int} {a b : Int} : inL l a b = true ↔ ∀ x ∈ l, a ≤ x ∧ x ≤ b := by
  unfold inL; rw [List.all_eq_true]; simp
theorem Yc3 {c : Clm} : ZP c = true ↔ JN c := by
  unfold ZP
  simp only [Bool.and_eq_true, decide_eq_true_eq, WM, List.all_eq_true, List.mem_range]
  constructor
  · rintro ⟨⟨⟨⟨h1, h2, h3, h4, h5, h6, h7⟩, h8⟩, h9⟩, h10⟩
    have hr : ∀ i, i < c.routes.length → _ := fun i hi => h10 i hi
    refine ⟨⟨h1, h2⟩, ⟨h3, h4⟩, h5, h6, h7, h8, h9, fun i hi => ?_, fun i hi => ?_⟩
    · have := hr i hi
      unfold rtOk at this
      simp only [Bool.and_eq_true, decide_eq_true_eq, WM] at this
      exact ⟨this.1.1.1.1, this.1.1.1.2, this.1.1.2⟩
    · have := hr i hi
      unfold rtOk at this
      simp only [Bool.and_eq_true, decide_eq_true_eq, WM] at this
      exact ⟨this.1.2.1, this.1.2.2, this.2⟩
  · intro h
    refine ⟨⟨⟨⟨h.f.1, h.f.2, h.n.1, h.n.2, h.b, h.w, h.s⟩, h.bs⟩, h.ws⟩, fun i hi => ?_⟩
    have h1 := h.rs i hi
    have h2 := h.ls i hi
    unfold rtOk
    simp only [Bool.and_eq_true, decide_eq_true_eq, WM]
    exact ⟨⟨⟨⟨h1.1, h1.2.1⟩, h1.2.2⟩, h2.1, h2.2.1⟩, h2.2.2⟩
theorem YN (c : List Clm) (x : Clm) : Wk (c ++ [x]) = x ∧ ∀ y, WO (c ++ [x]) y = c ++ [y] := by
  unfold Wk WO ZG
  rw [List.length_append, List.length_singleton, Nat.add_sub_cancel]
  exact ⟨by rw [List.getD_eq_getElem?_getD, List.getElem?_append_right (Nat.le_refl _)]; simp, fun y => by rw [List.take_left' rfl]⟩
theorem O5 {cs : List Clm} {x : Clm} {last : Nat} {r sl : List Int} {b w : Int} (hlast : last = 0 ∨ (last = 3 ∧ x.routes.length < 2)) (hr : 2 ≤ r.length ∧ r.length ≤ 9 ∧ ∀ z ∈ r, 0 ≤ z ∧ z ≤ 31) (hs : 1 ≤ sl.length ∧ sl.length ≤ 64 ∧ ∀ z ∈ sl, 0 ≤ z ∧ z ≤ 511)
    (hb : 1 ≤ b ∧ b ≤ 512) (hw : 0 ≤ w ∧ w ≤ 511) : runL [YA wordR r, YA wordB [b, w], YA wordL sl] ⟨cs ++ [x], last⟩ = some ⟨cs ++ [⟨x.flow, x.routes ++ [r], x.bounds ++ [b], x.worst ++ [w], x.slots ++ [sl]⟩], 3⟩ := by
  have h1 : Xt ⟨cs ++ [x], last⟩ (YA wordR r) = some ⟨cs ++ [YJ 1 r x], 1⟩ := by
    have := Vo (p := ⟨cs ++ [x], last⟩) (k := 1) (l := r) (by omega) (fun n hn => by have := hr.2.2 n hn; omega) ⟨by show 2 ≤ _; exact hr.1, by show _ ≤ 9; exact hr.2.1⟩ (by
      unfold Zc YV
      simp only [(YN cs x).1]
      rcases hlast with rfl | ⟨rfl, h⟩
      · rfl
      · simp [h])
    rw [show Xj 1 = wordR from rfl] at this
    rw [this]
    unfold X0
    rw [if_neg (by decide), (YN cs x).1, (YN cs x).2]
  have h2 : ∀ y, Xt ⟨cs ++ [y], 1⟩ (YA wordB [b, w]) = some ⟨cs ++ [YJ 2 [b, w] y], 2⟩ := fun y => by
    have := Vo (p := ⟨cs ++ [y], 1⟩) (k := 2) (l := [b, w]) (by omega) (fun n hn => by
      simp only [List.mem_cons, List.not_mem_nil, or_false] at hn
      rcases hn with rfl | rfl <;> omega) ⟨Nat.le_refl 2, Nat.le_refl 2⟩ rfl
    rw [show Xj 2 = wordB from rfl] at this
    rw [this]
    unfold X0
    rw [if_neg (by decide), (YN cs y).1, (YN cs y).2]
  have h3 : ∀ y, Xt ⟨cs ++ [y], 2⟩ (YA wordL sl) = some ⟨cs ++ [YJ 3 sl y], 3⟩ := fun y => by
    have := Vo (p := ⟨cs ++ [y], 2⟩) (k := 3) (l := sl) (by omega) (fun n hn => by have := hs.2.2 n hn; omega) ⟨by show 1 ≤ _; exact hs.1, by show _ ≤ 64; exact hs.2.1⟩ rfl
    rw [show Xj 3 = wordL from rfl] at this
    rw [this]
    unfold X0
    rw [if_neg (by decide), (YN cs y).1, (YN cs y).2]
  unfold runL; rw [h1]; dsimp only
  unfold runL; rw [h2]; dsimp only
  unfold runL; rw [h3]; dsimp only
  unfold runL
  rfl
theorem YdR {c : Clm} (h : JN c) (cs : List Clm) : runL (XJ c) ⟨cs, 3⟩ = some ⟨cs ++ [c], 3⟩ := by
  obtain ⟨fl, rs, bs, ws, ls⟩ := c
  have hf := h.f; have hn := h.n; have hb := h.b; have hw := h.w; have hs := h.s; have hbs := h.bs; have hws := h.ws; have hrs := h.rs; have hls := h.ls
  dsimp only at hf hn hb hw hs hbs hws hrs hls
  have h0 : Xt ⟨cs, 3⟩ (YA wordF [fl]) = some ⟨cs ++ [⟨fl, [], [], [], []⟩], 0⟩ := by
    have := Vo (p := ⟨cs, 3⟩) (k := 0) (l := [fl]) (by omega) (fun n hn => by obtain rfl := List.mem_singleton.1 hn; omega) ⟨Nat.le_refl 1, Nat.le_refl 1⟩ rfl
    rw [show Xj 0 = wordF from rfl] at this
    rw [this]; rfl
  unfold XJ
  unfold runL
  rw [h0]
  dsimp only
  match rs, bs, ws, ls, hn, hb, hw, hs, hbs, hws, hrs, hls with
  | [r], [b], [w], [sl], _, _, _, _, hbs, hws, hrs, hls =>
    exact O5 (x := ⟨fl, [], [], [], []⟩) (.inl rfl) (hrs 0 (by simp)) (hls 0 (by simp)) (hbs b (by simp)) (hws w (by simp))
  | [r, r2], [b, b2], [w, w2], [sl, sl2], _, _, _, _, hbs, hws, hrs, hls =>
    show runL ([YA wordR r, YA wordB [b, w], YA wordL sl] ++ [YA wordR r2, YA wordB [b2, w2], YA wordL sl2]) _ = _
    have h1 := O5 (cs := cs) (x := ⟨fl, [], [], [], []⟩) (r := r) (sl := sl) (.inl rfl) (hrs 0 (by simp)) (hls 0 (by simp)) (hbs b (by simp)) (hws w (by simp))
    rw [Jd, h1]
    exact O5 (x := ⟨fl, [r], [b], [w], [sl]⟩) (.inr ⟨rfl, by simp⟩) (hrs 1 (by simp)) (hls 1 (by simp)) (hbs b2 (by simp)) (hws w2 (by simp))
theorem Oo : ∀ (l cs : List Clm), (∀ c ∈ l, JN c) → runL (l.flatMap XJ) ⟨cs, 3⟩ = some ⟨cs ++ l, 3⟩
  | [], cs, _ => by simp [runL]
  | c :: l, cs, h => by
    rw [List.flatMap_cons, Jd, YdR (h c (by simp)) cs]
    show runL _ _ = _
    rw [Oo l _ fun x hx => h x (by simp [hx])]
    simp
theorem YcC {c : List Clm} {i : Nat} (h : i < c.length) : c[i]? = some (ZG c i) := by
  unfold ZG; rw [List.getD_eq_getElem?_getD, List.getElem?_eq_getElem h]; rfl
theorem Ob {c : List Clm} (h : ZA c = true) : c.length ≤ 16 ∧ ∀ x ∈ c, JN x := by
  unfold ZA at h
  rw [Bool.and_eq_true, decide_eq_true_eq] at h
  refine ⟨h.1, fun x hx => ?_⟩
  obtain ⟨i, hi⟩ := List.mem_iff_getElem?.1 hx
  have hl := (List.getElem?_eq_some_iff.1 hi).1
  have := List.all_eq_true.1 h.2 i (List.mem_range.2 hl)
  unfold Ydl at this
  rw [Bool.and_eq_true] at this
  have e : ZG c i = x := Option.some.inj ((YcC hl).symm.trans hi)
  rw [e] at this
  exact Yc3.1 this.1
theorem Vk {l : List Int} {i : Nat} (h : i < l.length) : l.getD i 0 ∈ l := by
  rw [List.getD_eq_getElem?_getD, List.getElem?_eq_getElem h]; exact List.getElem_mem h
theorem Yeq {c : Clm} (h : JN c) : ∀ p ∈ XJ c, (10 : UInt8) ∉ p := by
  intro p hp
  unfold XJ at hp
  rcases List.mem_cons.1 hp with rfl | hp
  · exact Vu (by decide) fun n hn => by obtain rfl := List.mem_singleton.1 hn; exact h.f.1
  · obtain ⟨i, hi, hp⟩ := List.mem_flatMap.1 hp
    have hi := List.mem_range.1 hi
    unfold Ybk at hp
    rcases List.mem_cons.1 hp with rfl | hp
    · exact Vu (by decide) fun n hn => ((h.rs i hi).2.2 n hn).1
    rcases List.mem_append.1 hp with hp | hp
    · rw [if_pos (by rw [h.b]; exact hi)] at hp
      obtain rfl := List.mem_singleton.1 hp
      refine Vu (by decide) fun n hn => ?_
      simp only [List.mem_cons, List.not_mem_nil, or_false] at hn
      rcases hn with rfl | rfl
      · have := h.bs _ (Vk (l := c.bounds) (i := i) (by rw [h.b]; exact hi)); omega
      · exact (h.ws _ (Vk (l := c.worst) (i := i) (by rw [h.w]; exact hi))).1
    · rw [if_pos (by rw [h.s]; exact hi)] at hp
      obtain rfl := List.mem_singleton.1 hp
      exact Vu (by decide) fun n hn => ((h.ls i hi).2.2 n hn).1
theorem YdW {c : List Clm} (h : ∀ x ∈ c, JN x) : cutC 10 (JK c) = c.flatMap XJ ++ [[]] := by
  unfold JK
  rw [← VO]
  refine Og (by simp) fun p hp => ?_
  rcases List.mem_append.1 hp with hp | hp
  · obtain ⟨x, hx, hp⟩ := List.mem_flatMap.1 hp
    exact Yeq (h x hx) p hp
  · obtain rfl := List.mem_singleton.1 hp
    exact List.not_mem_nil
theorem V7 {c : List Clm} (h : ZA c = true) : XO (JK c) = (c, (-1, 0)) := by
  obtain ⟨h1, h2⟩ := Ob h
  obtain ⟨ls, hls⟩ : ∃ ls, c.flatMap XJ = ls := ⟨_, rfl⟩
  have hrun : runL ls startP = some ⟨c, 3⟩ := by rw [← hls]; exact Oo c [] h2
  have hl : (ls ++ [[]]).length - 1 = ls.length := by simp
  have hat : XM (ls ++ [[]]) ls.length = some ⟨c, 3⟩ := by unfold XM; rw [List.take_left' rfl]; exact hrun
  have hbad : (Yz (badL (ls ++ [[]])) ls.length 0).2 = 0 := Xf.2 fun k _ hk => by
    unfold badL XM
    have h4 : runL (ls.take (k + 1)) startP ≠ none := fun e => by
      have : runL (ls.take (k + 1) ++ ls.drop (k + 1)) startP = some ⟨c, 3⟩ := by rw [List.take_append_drop]; exact hrun
      rw [Jd, e] at this
      cases this
    rw [List.take_append_of_le_length (by omega)]
    cases hr : runL (ls.take (k + 1)) startP with
    | none => exact absurd hr h4
    | some p => rfl
  have hlast : Xb (ls ++ [[]]) ls.length = [] := by
    unfold Xb
    rw [List.getD_eq_getElem?_getD, List.getElem?_append_right (Nat.le_refl _)]
    simp
  unfold XO ZU
  rw [YdW h2, hls, hl, if_neg (fun e => e hbad), hlast]
  unfold JJ
  rw [hat, if_neg (by rintro (e | e) <;> exact e rfl), Option.getD_some, if_neg (by rw [h]; decide)]
structure Rdr (p : Pst) : Prop where
  full : ∀ i x, p.c[i]? = some x → i + 1 < p.c.length → x.bounds.length = x.routes.length ∧ x.worst.length = x.routes.length ∧ x.slots.length = x.routes.length ∧ 1 ≤ x.routes.length ∧ x.routes.length ≤ 2
  some_ : p.c = [] → p.last = 3
  at_ : ∀ cs x, p.c = cs ++ [x] →
    (p.last = 0 ∧ x.routes = [] ∧ x.bounds = [] ∧ x.worst = [] ∧ x.slots = []) ∨
    (p.last = 1 ∧ 1 ≤ x.routes.length ∧ x.routes.length ≤ 2 ∧ x.bounds.length + 1 = x.routes.length ∧ x.worst.length + 1 = x.routes.length ∧ x.slots.length + 1 = x.routes.length) ∨
    (p.last = 2 ∧ 1 ≤ x.routes.length ∧ x.routes.length ≤ 2 ∧ x.bounds.length = x.routes.length ∧ x.worst.length = x.routes.length ∧ x.slots.length + 1 = x.routes.length) ∨
    (p.last = 3 ∧ 1 ≤ x.routes.length ∧ x.routes.length ≤ 2 ∧ x.bounds.length = x.routes.length ∧ x.worst.length = x.routes.length ∧ x.slots.length = x.routes.length)
theorem Yei {w : List UInt8} {k : Nat} (h : JA w = some k) : k < 4 ∧ w = Xj k := by
  unfold JA at h
  split at h
  · rename_i e; cases h; exact ⟨by omega, e⟩
  split at h
  · rename_i e; cases h; exact ⟨by omega, e⟩
  split at h
  · rename_i e; cases h; exact ⟨by omega, e⟩
  split at h
  · rename_i e; cases h; exact ⟨by omega, e⟩
  cases h
theorem QJ {p p' : Pst} {line : List UInt8} (h : Xt p line = some p') : ∃ k l, k < 4 ∧ line = YA (Xj k) l ∧ Z1 k ≤ l.length ∧ l.length ≤ J6 k ∧ Zc p k = true ∧ p' = ⟨X0 k l p.c, k⟩ := by
  unfold Xt at h
  split at h
  · cases h
  rename_i k hk
  obtain ⟨hk4, hw⟩ := Yei hk
  unfold O6 at h
  split at h
  · cases h
  rename_i l hl
  split at h
  · rename_i hc
    refine ⟨k, l, hk4, ?_, hc.1, hc.2.1, hc.2.2, (Option.some.inj h).symm⟩
    have hll : l.length = (cutC 32 line).length - 1 := by
      unfold Jb at hl
      split at hl
      · cases hl
      · have := Option.some.inj hl
        rw [← this, List.length_map, List.length_tail]
    have hne := VK 32 line
    have hpos : 1 ≤ (cutC 32 line).length := by
      cases hx : cutC 32 line with
      | nil => exact absurd hx hne
      | cons _ _ => simp
    have hr : Qb line (Xj k) l.length = some l := by
      unfold Qb
      rw [if_neg (by rintro (e | e) <;> first | exact absurd hw e | omega)]
      exact hl
    exact (YdS hr).1
  · cases h
theorem V5 {α : Type} {l : List α} (h : l ≠ []) : ∃ cs x, l = cs ++ [x] := ⟨l.dropLast, l.getLast h, (List.dropLast_concat_getLast h).symm⟩
theorem Rdr.start : Rdr startP := ⟨fun i x h => by simp [startP] at h, fun _ => rfl, fun cs x h => by simp [startP] at h⟩
theorem YdE {cs : List Clm} {x y : Clm} {P : Clm → Prop} (h : ∀ i z, (cs ++ [x])[i]? = some z → i + 1 < (cs ++ [x]).length → P z) : ∀ i z, (cs ++ [y])[i]? = some z → i + 1 < (cs ++ [y]).length → P z := fun i z hz hi => by
  rw [List.length_append, List.length_singleton] at hi
  rw [List.getElem?_append_left (by omega)] at hz
  exact h i z (by rw [List.getElem?_append_left (by omega)]; exact hz) (by rw [List.length_append, List.length_singleton]; omega)
theorem le12 : 1 ≤ 2 := by decide
theorem YfJ {p p' : Pst} {line : List UInt8} (h : Rdr p) (hl : Xt p line = some p') : Rdr p' ∧ p'.c.flatMap XJ = p.c.flatMap XJ ++ [line] := by
  obtain ⟨k, l, hk, rfl, hl1, hl2, hf, rfl⟩ := QJ hl
  obtain ⟨c, last⟩ := p
  have hfull := h.full; have hsome := h.some_; have hat := h.at_
  dsimp only at hfull hsome hat hf ⊢
  have hone : ∀ {cs cs' : List Clm} {x x' : Clm}, cs ++ [x] = cs' ++ [x'] → x = x' := fun e => by
    have := (List.append_inj' e rfl).2; simpa using this
  match k, hk with
  | 0, _ =>
    have hl3 : last = 3 := by
      unfold Zc at hf
      simpa [YV] using hf
    subst hl3
    match l, hl1, hl2 with
    | [f], _, _ =>
      have e : X0 0 [f] c = c ++ [⟨f, [], [], [], []⟩] := rfl
      rw [e]
      refine ⟨⟨fun i x hx hi => ?_, fun e => by simp at e, fun cs x he => ?_⟩, by rw [List.flatMap_append]; simp [XJ, Xj]⟩
      · dsimp only at hx hi
        rw [List.length_append, List.length_singleton] at hi
        rw [List.getElem?_append_left (by omega)] at hx
        by_cases hi2 : i + 1 < c.length
        · exact hfull i x hx hi2
        · obtain ⟨cs, y, hc⟩ := V5 (l := c) (fun e => by rw [e] at hi; simp at hi)
          have hcl : c.length = cs.length + 1 := by rw [hc]; simp
          rw [hc, List.getElem?_append_right (by omega), show i - cs.length = 0 by omega] at hx
          obtain rfl := Option.some.inj hx
          rcases hat cs y hc with h | h | h | h
          · omega
          · omega
          · omega
          · exact ⟨h.2.2.2.1, h.2.2.2.2.1, h.2.2.2.2.2, h.2.1, h.2.2.1⟩
      · dsimp only at he
        obtain rfl := hone he
        exact .inl ⟨rfl, rfl, rfl, rfl, rfl⟩
  | k + 1, hk =>
    have hne : c ≠ [] := fun e => by
      have h3 := hsome e
      subst h3; subst e
      unfold Zc YV at hf
      simp at hf
      omega
    obtain ⟨cs, x, rfl⟩ := V5 hne
    have e : X0 (k + 1) l (cs ++ [x]) = cs ++ [YJ (k + 1) l x] := by
      unfold X0
      rw [if_neg (by omega), (YN cs x).1, (YN cs x).2]
    rw [e]
    have hx := hat cs x rfl
    have key : (∀ cs' x', cs ++ [YJ (k + 1) l x] = cs' ++ [x'] → x' = YJ (k + 1) l x) := fun cs' x' he => (hone he).symm
    suffices hs : XJ (YJ (k + 1) l x) = XJ x ++ [YA (Xj (k + 1)) l] ∧
        ((k + 1 = 1 ∧ 1 ≤ (YJ (k + 1) l x).routes.length ∧ (YJ (k + 1) l x).routes.length ≤ 2 ∧ (YJ (k + 1) l x).bounds.length + 1 = (YJ (k + 1) l x).routes.length ∧ (YJ (k + 1) l x).worst.length + 1 = (YJ (k + 1) l x).routes.length ∧ (YJ (k + 1) l x).slots.length + 1 = (YJ (k + 1) l x).routes.length) ∨
        (k + 1 = 2 ∧ 1 ≤ (YJ (k + 1) l x).routes.length ∧ (YJ (k + 1) l x).routes.length ≤ 2 ∧ (YJ (k + 1) l x).bounds.length = (YJ (k + 1) l x).routes.length ∧ (YJ (k + 1) l x).worst.length = (YJ (k + 1) l x).routes.length ∧ (YJ (k + 1) l x).slots.length + 1 = (YJ (k + 1) l x).routes.length) ∨
        (k + 1 = 3 ∧ 1 ≤ (YJ (k + 1) l x).routes.length ∧ (YJ (k + 1) l x).routes.length ≤ 2 ∧ (YJ (k + 1) l x).bounds.length = (YJ (k + 1) l x).routes.length ∧ (YJ (k + 1) l x).worst.length = (YJ (k + 1) l x).routes.length ∧ (YJ (k + 1) l x).slots.length = (YJ (k + 1) l x).routes.length)) by
      refine ⟨⟨YdE hfull, fun e => by simp at e, fun cs' x' he => .inr ?_⟩, ?_⟩
      · rw [key cs' x' he]; exact hs.2
      · rw [List.flatMap_append, List.flatMap_append, List.append_assoc]
        simp [hs.1]
    obtain ⟨fl, rs, bs, ws, ss⟩ := x
    dsimp only at hx
    match k, hk with
    | 0, _ =>
      have hc : (last = 0 ∧ rs = [] ∧ bs = [] ∧ ws = [] ∧ ss = []) ∨ (last = 3 ∧ rs.length = 1 ∧ bs.length = 1 ∧ ws.length = 1 ∧ ss.length = 1) := by
        unfold Zc YV at hf
        simp only [(YN cs _).1] at hf
        simp at hf
        rcases hx with h | h | h | h
        · exact .inl h
        · omega
        · omega
        · exact .inr (by omega)
      rcases hc with ⟨_, rfl, rfl, rfl, rfl⟩ | ⟨_, h1, h2, h3, h4⟩
      · exact ⟨rfl, .inl ⟨rfl, Nat.le_refl 1, le12, rfl, rfl, rfl⟩⟩
      · match rs, bs, ws, ss, h1, h2, h3, h4 with
        | [r], [b], [w], [s], _, _, _, _ => exact ⟨rfl, .inl ⟨rfl, le12, Nat.le_refl 2, rfl, rfl, rfl⟩⟩
    | 1, _ =>
      have hc : last = 1 := by
        unfold Zc YV at hf
        simpa using hf
      have hx : 1 ≤ rs.length ∧ rs.length ≤ 2 ∧ bs.length + 1 = rs.length ∧ ws.length + 1 = rs.length ∧ ss.length + 1 = rs.length := by
        rcases hx with h | h | h | h <;> first | exact h.2 | omega
      match l, hl1, hl2 with
      | [b, w], _, _ =>
        match rs, bs, ws, ss, hx with
        | [r], [], [], [], _ => exact ⟨rfl, .inr (.inl ⟨rfl, Nat.le_refl 1, le12, rfl, rfl, rfl⟩)⟩
        | [r, r2], [b0], [w0], [s0], _ => exact ⟨rfl, .inr (.inl ⟨rfl, le12, Nat.le_refl 2, rfl, rfl, rfl⟩)⟩
    | 2, _ =>
      have hc : last = 2 := by
        unfold Zc YV at hf
        simpa using hf
      have hx : 1 ≤ rs.length ∧ rs.length ≤ 2 ∧ bs.length = rs.length ∧ ws.length = rs.length ∧ ss.length + 1 = rs.length := by
        rcases hx with h | h | h | h <;> first | exact h.2 | omega
      match rs, bs, ws, ss, hx with
      | [r], [b], [w], [], _ => exact ⟨rfl, .inr (.inr ⟨rfl, Nat.le_refl 1, le12, rfl, rfl, rfl⟩)⟩
      | [r, r2], [b, b2], [w, w2], [s0], _ => exact ⟨rfl, .inr (.inr ⟨rfl, le12, Nat.le_refl 2, rfl, rfl, rfl⟩)⟩
theorem Yar : ∀ (ls : List (List UInt8)) {p p' : Pst}, Rdr p → runL ls p = some p' → Rdr p' ∧ p'.c.flatMap XJ = p.c.flatMap XJ ++ ls
  | [], p, p', h, hr => by
    cases hr
    exact ⟨h, by simp⟩
  | l :: ls, p, p', h, hr => by
    unfold runL at hr
    cases hl : Xt p l with
    | none => rw [hl] at hr; cases hr
    | some q =>
      rw [hl] at hr
      obtain ⟨h1, h2⟩ := YfJ h hl
      obtain ⟨h3, h4⟩ := Yar ls h1 hr
      exact ⟨h3, by rw [h4, h2]; simp⟩
theorem V1 {text : List UInt8} {c : List Clm} {i : Int} (h : XO text = (c, (i, 0))) : ZA c = true ∧ JK c = text ∧ i = -1 := by
  unfold XO ZU at h
  obtain ⟨ls, hls⟩ : ∃ ls, cutC 10 text = ls := ⟨_, rfl⟩
  have hj := Om (c := 10) text
  have hne := VK 10 text
  rw [hls] at h hj hne
  have hpos : 1 ≤ ls.length := by
    cases ls with
    | nil => exact absurd rfl hne
    | cons _ _ => simp
  split at h
  · rename_i h1
    injection h with _ h2
    rw [h2] at h1
    exact absurd rfl h1
  rename_i h1
  have h1 := Xf.1 (Decidable.not_not.1 h1)
  split at h
  · injection h with _ h2
    injection h2 with _ h2
    cases h2
  rename_i h2
  have h4 : Xb ls (ls.length - 1) = [] := Decidable.byContradiction fun e => h2 (.inl e)
  split at h
  · injection h with _ h5
    injection h5 with _ h5
    cases h5
  rename_i h5
  injection h with h6 h7
  injection h7 with h7 _
  have h5 : ZA (JJ ls (ls.length - 1)).c = true := by simpa using h5
  rw [h6] at h5
  refine ⟨h5, ?_, h7.symm⟩
  have hsome : ∃ p, XM ls (ls.length - 1) = some p := by
    cases hl : ls.length - 1 with
    | zero => exact ⟨startP, by unfold XM; rw [List.take_zero]; rfl⟩
    | succ k =>
      have := h1 k (Nat.zero_le _) (by omega)
      unfold badL at this
      cases hp : XM ls (k + 1) with
      | none => rw [hp] at this; simp at this
      | some p => exact ⟨p, rfl⟩
  obtain ⟨p, hp⟩ := hsome
  have hpc : p.c = c := by rw [← h6]; unfold JJ; rw [hp]; rfl
  have := (Yar _ Rdr.start hp).2
  rw [hpc] at this
  have hlast : ls = ls.take (ls.length - 1) ++ [[]] := by
    have := U7 (ls := ls) (k := ls.length - 1) (by omega)
    rw [show ls.length - 1 + 1 = ls.length by omega, List.take_length, h4] at this
    exact this
  unfold JK
  rw [this, show startP.c.flatMap XJ = [] from rfl, List.nil_append, ← VO, ← hlast, hj]
open Go.RowKit Go.Eng Go.Nw Go.Rt
theorem Qn (z a b : Int) (ga gb : Nat) {B : Nat} {w0 : World} {H : List HP} {w : World} (h1 : blk ga (.cells #[.int .i64 a] 3 (0, 0)) ∈ H) (h2 : blk gb (.cells #[.int .i64 b] 3 (0, 0)) ∈ H) (hw : St B w0 H w) :
    Calls Tryz.prog 238 [.int .i64 z, .pointer (some ⟨ga, 0, none⟩), .pointer (some ⟨gb, 0, none⟩)].toArray w (Post B w0 fun v K => v = .bool (!decide (a ≤ z ∧ z ≤ b)) ∧ K = H) := by
  refine Yd Tryz.func238 Tryz.ntmps238 rfl rfl hw ?_
  by_cases h : a ≤ z ∧ z ≤ b
  · rw [decide_eq_true h]
    repeat' (first | apply (zs1 ?_) | apply (zs2 ?_) | (apply zg1; refine zs4 ?_) | (apply zg3; refine zs7 ?_) | (apply zg6; refine zs12 ?_) | (apply (zs17 ?_ ?_) <;> intro _ <;> try (exfalso; omega)) | (apply (zs19 ?_ ?_) <;> intro _ <;> try (exfalso; omega)) | apply (zs65 ?_) | apply (zs68 ?_) | apply (zs69 ?_) | apply (zs70 ?_) | apply (zs74 ?_) | fail)
    apply Yc; exact rfl; exact rfl; exact ⟨rfl, rfl⟩
  · rw [decide_eq_false h]
    repeat' (first | apply (zs1 ?_) | apply (zs2 ?_) | (apply zg1; first | refine zs3 ?_ | refine zs4 ?_) | (apply zg3; refine zs7 ?_) | (apply zg6; first | refine zs11 ?_ | refine zs12 ?_) | (apply (zs17 ?_ ?_) <;> intro _ <;> try (exfalso; omega)) | (apply (zs19 ?_ ?_) <;> intro _ <;> try (exfalso; omega)) | apply (zs65 ?_) | apply (zs68 ?_) | apply (zs69 ?_) | apply (zs70 ?_) | apply (zs74 ?_) | fail)
    all_goals (apply Yc; exact rfl; exact rfl; exact ⟨rfl, rfl⟩)
theorem Zl (l : List Int) (a b : Int) (hl : l.length ≤ 1000000000000) {A : Option Addr} {cap B : Nat} {w0 : World} {H : List HP} {w : World} (hr : Rd B w0 H A (l.flatMap numF)) (hw : St B w0 H w) :
    Calls Tryz.prog 195 [.slice A l.length cap, .int .i64 a, .int .i64 b].toArray w (Post B w0 fun v K => v = .bool (inL l a b) ∧ K = H) := by
  refine Yd Tryz.func195 Tryz.ntmps195 rfl rfl hw ?_
  have e1 : inL l a b = !(l.any fun z => !decide (a ≤ z ∧ z ≤ b)) := by
    unfold inL
    rw [List.not_any_eq_all_not]
    exact congrArg _ (funext fun z => (Bool.not_not _).symm)
  rw [e1]
  obtain ⟨o, ho⟩ : ∃ o, (l.any fun z => !decide (a ≤ z ∧ z ≤ b)) = o := ⟨_, rfl⟩
  rw [ho]
  repeat' (first | apply (zs1 ?_) | apply (zs2 ?_) | (apply zg23; (refine zs53 ?_; intro _)) | apply (zs65 ?_) | apply (zs68 ?_) | apply (zs69 ?_) | apply (zs70 ?_) | (apply zg29; (apply Yo; exact za ; exact rfl)) | fail)
  rename_i ga gb
  have p1 : ∀ w, St B w0 (blk gb (.cells #[.int .i64 b] 3 (0, 0)) :: blk ga (.cells #[.int .i64 a] 3 (0, 0)) :: H) w → Calls Tryz.prog 164 [.slice A l.length cap, .func (.func 238) #[] [Value.pointer (some ⟨ga, 0, none⟩), Value.pointer (some ⟨gb, 0, none⟩)].toArray].toArray w (Post B w0 fun v K => v = .bool o ∧ K = blk gb (.cells #[.int .i64 b] 3 (0, 0)) :: blk ga (.cells #[.int .i64 a] 3 (0, 0)) :: H) := fun w hw => by
    have h := Je (fun z => Value.int .i64 z) (fun z => !decide (a ≤ z ∧ z ≤ b)) l 238 [.pointer (some ⟨ga, 0, none⟩), .pointer (some ⟨gb, 0, none⟩)] YhM (by omega) (cap := cap) (show Rd B w0 _ A (l.flatMap numF) from hr.cons.cons) (fun z _ w hw => Qn z a b ga gb (.tail _ (.head _)) (.head _) hw) hw
    rw [ho] at h
    exact h
  cases o <;> (
    first | apply Ya Ydd | apply Yb Ydd
    exact za
    exact rfl
    exact fun _ hw => (p1 _ hw)
    repeat' (first | apply (zs2 ?_) | (apply zg20; first | refine zs47 ?_ | refine zs48 ?_) | apply (zs65 ?_) | apply (zs68 ?_) | apply (zs74 ?_) | fail)
    apply Yj H
    · exact zk
    apply Yc; exact rfl; exact rfl; exact ⟨rfl, rfl⟩)
theorem Vp {rs : List RowM} {k : Nat} {r : RowM} (h : rs[k]? = some r) : rtAt (rs.map (·.xs)) k = r.xs := by
  have h2 : (rs.map (·.xs))[k]? = some r.xs := by rw [List.getElem?_map, h]; rfl
  exact Option.some.inj ((QK (List.getElem?_eq_some_iff.1 h2).1).symm.trans h2)
set_option maxRecDepth 10000 in
set_option maxHeartbeats 8000000 in
theorem YaL (c : ClM) {B : Nat} {w0 : World} {H : List HP} {w : World} (hc : c.In B w0 H) (hw : St B w0 H w) :
    Calls Tryz.prog 135 [clV c].toArray w (Post B w0 fun v K => v = .bool (ZP c.clm) ∧ K = H) := by
  refine Yd Tryz.func135 Tryz.ntmps135 rfl rfl hw ?_
  obtain ⟨hl1, hl2, hl3, hl4⟩ := hc.ln
  have q1 := fun {H' : List HP} {w : World} (hc : c.In B w0 H') (hw : St B w0 H' w) => Zl c.bs 1 512 hl2 (cap := c.bcap) hc.bd hw
  have q2 := fun {H' : List HP} {w : World} (hc : c.In B w0 H') (hw : St B w0 H' w) => Zl c.ws 0 511 hl3 (cap := c.wcap) hc.ws hw
  obtain ⟨F, hF⟩ : ∃ F, ZP c.clm = F := ⟨_, rfl⟩
  have hFe : F = (decide (0 ≤ c.flow ∧ c.flow ≤ 255 ∧ 1 ≤ c.rs.length ∧ c.rs.length ≤ 2 ∧ c.bs.length = c.rs.length ∧ c.ws.length = c.rs.length ∧ c.ss.length = c.rs.length) && inL c.bs 1 512 && inL c.ws 0 511 && (List.range c.rs.length).all fun i => rtOk (rtAt (c.rs.map (·.xs)) i) (rtAt (c.ss.map (·.xs)) i)) := by
    rw [← hF]
    unfold ZP ClM.clm
    simp only [List.length_map]
  rw [hF]
  unfold clV
  obtain ⟨b1, hb1⟩ : ∃ b, inL c.bs 1 512 = b := ⟨_, rfl⟩
  obtain ⟨b2, hb2⟩ : ∃ b, inL c.ws 0 511 = b := ⟨_, rfl⟩
  rw [hb1] at q1 hFe
  rw [hb2] at q2 hFe
  by_cases hP : 0 ≤ c.flow ∧ c.flow ≤ 255 ∧ 1 ≤ c.rs.length ∧ c.rs.length ≤ 2 ∧ c.bs.length = c.rs.length ∧ c.ws.length = c.rs.length ∧ c.ss.length = c.rs.length
  rotate_left
  · rw [decide_eq_false hP] at hFe
    simp only [Bool.false_and] at hFe
    subst hFe
    repeat' (first | apply (zs1 ?_) | apply (zs2 ?_) | (apply zg1; first | refine zs3 ?_ | refine zs4 ?_) | (apply zg2; refine zs6 ?_) | (apply zg3; refine zs7 ?_) | (apply zg4; refine zs9 ?_) | (apply zg6; first | refine zs11 ?_ | refine zs12 ?_) | (apply zg8; (refine zs16 ?_ ?_ <;> intro _ <;> try (exfalso; omega))) | (apply (zs17 ?_ ?_) <;> intro _ <;> try (exfalso; omega)) | (apply (zs19 ?_ ?_) <;> intro _ <;> try (exfalso; omega)) | (apply zg23; (refine zs52 ?_; intro _)) | apply (zs65 ?_) | apply (zs68 ?_) | apply (zs69 ?_) | apply (zs70 ?_) | (apply zg27; refine zs71 ?_) | apply (zs74 ?_) | apply (zs77 ?_) | fail)
    all_goals (
      apply Yj H
      · exact zk
      apply Yc; exact rfl; exact rfl; exact ⟨rfl, rfl⟩)
  rw [decide_eq_true hP, Bool.true_and] at hFe
  obtain ⟨f0, f1, n1, n2, e1, e2, e3⟩ := hP
  cases b1 with
  | false =>
    simp only [Bool.false_and] at hFe
    subst hFe
    repeat' (first | apply (zs1 ?_) | apply (zs2 ?_) | (apply zg1; refine zs4 ?_) | (apply zg2; refine zs6 ?_) | (apply zg3; refine zs7 ?_) | (apply zg4; refine zs9 ?_) | (apply zg6; refine zs12 ?_) | (apply zg8; (refine zs16 ?_ ?_ <;> intro _ <;> try (exfalso; omega))) | (apply (zs17 ?_ ?_) <;> intro _ <;> try (exfalso; omega)) | (apply (zs19 ?_ ?_) <;> intro _ <;> try (exfalso; omega)) | (apply zg23; (refine zs52 ?_; intro _)) | apply (zs65 ?_) | apply (zs68 ?_) | apply (zs69 ?_) | apply (zs70 ?_) | fail)
    first | apply Ya Xg | apply Yb Xg
    exact za
    exact rfl
    exact fun _ hw => (q1 (hc.mono zk) hw)
    repeat' (first | apply (zs1 ?_) | apply (zs2 ?_) | (apply zg1; first | refine zs3 ?_ | refine zs4 ?_) | (apply zg6; first | refine zs11 ?_ | refine zs12 ?_) | (apply zg20; refine zs48 ?_) | apply (zs65 ?_) | apply (zs68 ?_) | apply (zs69 ?_) | apply (zs70 ?_) | (apply zg27; refine zs71 ?_) | apply (zs74 ?_) | apply (zs77 ?_) | fail)
    apply Yj H
    · exact zk
    apply Yc; exact rfl; exact rfl; exact ⟨rfl, rfl⟩
  | true =>
  cases b2 with
  | false =>
    simp only [Bool.false_and, Bool.and_false] at hFe
    subst hFe
    repeat' (first | apply (zs1 ?_) | apply (zs2 ?_) | (apply zg1; refine zs4 ?_) | (apply zg2; refine zs6 ?_) | (apply zg3; refine zs7 ?_) | (apply zg4; refine zs9 ?_) | (apply zg6; refine zs12 ?_) | (apply zg8; (refine zs16 ?_ ?_ <;> intro _ <;> try (exfalso; omega))) | (apply (zs17 ?_ ?_) <;> intro _ <;> try (exfalso; omega)) | (apply (zs19 ?_ ?_) <;> intro _ <;> try (exfalso; omega)) | (apply zg23; (refine zs52 ?_; intro _)) | apply (zs65 ?_) | apply (zs68 ?_) | apply (zs69 ?_) | apply (zs70 ?_) | fail)
    first | apply Ya Xg | apply Yb Xg
    exact za
    exact rfl
    exact fun _ hw => (q1 (hc.mono zk) hw)
    repeat' (first | apply (zs1 ?_) | (apply zg1; refine zs4 ?_) | (apply zg2; refine zs6 ?_) | (apply zg3; refine zs7 ?_) | (apply zg6; refine zs12 ?_) | (apply zg20; refine zs47 ?_) | fail)
    first | apply Ya Xg | apply Yb Xg
    exact za
    exact rfl
    exact fun _ hw => (q2 (hc.mono zk) hw)
    repeat' (first | apply (zs2 ?_) | (apply zg1; refine zs4 ?_) | (apply zg6; refine zs12 ?_) | (apply zg20; refine zs48 ?_) | apply (zs65 ?_) | apply (zs68 ?_) | apply (zs69 ?_) | apply (zs70 ?_) | (apply zg27; refine zs71 ?_) | apply (zs74 ?_) | apply (zs77 ?_) | fail)
    apply Yj H
    · exact zk
    apply Yc; exact rfl; exact rfl; exact ⟨rfl, rfl⟩
  | true =>
  simp only [Bool.true_and] at hFe
  repeat' (first | apply (zs1 ?_) | apply (zs2 ?_) | (apply zg1; refine zs4 ?_) | (apply zg2; refine zs6 ?_) | (apply zg3; refine zs7 ?_) | (apply zg4; refine zs9 ?_) | (apply zg6; refine zs12 ?_) | (apply zg8; (refine zs16 ?_ ?_ <;> intro _ <;> try (exfalso; omega))) | (apply (zs17 ?_ ?_) <;> intro _ <;> try (exfalso; omega)) | (apply (zs19 ?_ ?_) <;> intro _ <;> try (exfalso; omega)) | (apply zg23; (refine zs52 ?_; intro _)) | apply (zs65 ?_) | apply (zs68 ?_) | apply (zs69 ?_) | apply (zs70 ?_) | fail)
  rename_i g _ _ _ _ _ _ _
  first | apply Ya Xg | apply Yb Xg
  exact za
  exact rfl
  exact fun _ hw => (q1 (hc.mono zk) hw)
  repeat' (first | apply (zs1 ?_) | (apply zg1; refine zs4 ?_) | (apply zg2; refine zs6 ?_) | (apply zg3; refine zs7 ?_) | (apply zg6; refine zs12 ?_) | (apply zg20; refine zs47 ?_) | fail)
  first | apply Ya Xg | apply Yb Xg
  exact za
  exact rfl
  exact fun _ hw => (q2 (hc.mono zk) hw)
  repeat' (first | apply (zs1 ?_) | (apply zg1; refine zs4 ?_) | (apply zg2; refine zs6 ?_) | (apply zg3; refine zs7 ?_) | (apply zg4; refine zs9 ?_) | (apply zg6; refine zs12 ?_) | (apply zg20; refine zs47 ?_) | apply (zs65 ?_) | apply (zs68 ?_) | apply (zs69 ?_) | apply (zs70 ?_) | (apply zg27; refine zs72 ?_) | apply (zs73 ?_) | apply (zs76 ?_) | fail)
  obtain ⟨ok, hok⟩ : ∃ ok : Nat → Bool, (fun i => rtOk (rtAt (c.rs.map (·.xs)) i) (rtAt (c.ss.map (·.xs)) i)) = ok := ⟨_, rfl⟩
  rw [hok] at hFe
  refine Yk (fun k : Nat => [(61, .int .i64 (k : Nat)), (60, .int .i64 c.rs.length), (59, .slice c.rA c.rs.length c.rcap), (1, .pointer (some ⟨g, 0, none⟩))]) (fun _ => clA g c :: H) (fun k => k ≤ c.rs.length ∧ ∀ j, j < k → ok j = true) (fun k => c.rs.length - k) 0 ⟨Nat.zero_le _, fun j h => absurd h (Nat.not_lt_zero _)⟩ ?_ (fun w hw => hw) ?_
  · exact zu
  rintro k ⟨hk, hz⟩ K hK
  have hcr : Rd B w0 (clA g c :: H) c.rA (c.rs.flatMap rowF) := hc.rt.cons
  have hcs : Rd B w0 (clA g c :: H) c.sA (c.ss.flatMap rowF) := hc.st.cons
  by_cases hlt : k < c.rs.length
  rotate_left
  · obtain rfl : k = c.rs.length := by omega
    have hFt : F = true := by
      rw [hFe, List.all_eq_true]
      exact fun j hj => hz j (List.mem_range.1 hj)
    subst hFt
    clear hK
    repeat' (first | apply (zs2 ?_) | (apply (zs17 ?_ ?_) <;> intro _ <;> try (exfalso; omega)) | apply (zs65 ?_) | apply (zs68 ?_) | apply (zs69 ?_) | apply (zs70 ?_) | (apply zg27; refine zs72 ?_) | apply (zs74 ?_) | apply (zs75 ?_) | apply (zs80 ?_) | apply (zs81 ?_) | fail)
    apply Yj H
    · exact zk
    apply Yc; exact rfl; exact rfl; exact ⟨rfl, rfl⟩
  obtain ⟨r, hr⟩ : ∃ r, c.rs[k]? = some r := ⟨_, List.getElem?_eq_getElem hlt⟩
  obtain ⟨z, hzz⟩ : ∃ z, c.ss[k]? = some z := ⟨_, List.getElem?_eq_getElem (by omega)⟩
  have hrm := List.mem_of_getElem? hr
  have hzm := List.mem_of_getElem? hzz
  have hkk : ok k = rtOk r.xs z.xs := by rw [← hok]; show rtOk (rtAt _ _) (rtAt _ _) = _; rw [Vp hr, Vp hzz]
  unfold rtOk at hkk
  have hrl := hc.rl r hrm
  have hzl := hc.sl z hzm
  have q3 := fun {H' : List HP} {w : World} (hc : c.In B w0 H') (hw : St B w0 H' w) => Zl r.xs 0 31 hrl (cap := r.cap) (hc.rw_ r hrm) hw
  have q4 := fun {H' : List HP} {w : World} (hc : c.In B w0 H') (hw : St B w0 H' w) => Zl z.xs 0 511 hzl (cap := z.cap) (hc.sw z hzm) hw
  obtain ⟨b3, hb3⟩ : ∃ b, inL r.xs 0 31 = b := ⟨_, rfl⟩
  obtain ⟨b4, hb4⟩ : ∃ b, inL z.xs 0 511 = b := ⟨_, rfl⟩
  rw [hb3] at q3 hkk
  rw [hb4] at q4 hkk
  have hno : ok k = false → F = false := fun h => by
    rw [hFe, List.all_eq_false]
    exact ⟨k, List.mem_range.2 hlt, by rw [h]; decide⟩
  by_cases hA : 2 ≤ r.xs.length ∧ r.xs.length ≤ 9
  rotate_left
  · rw [decide_eq_false hA] at hkk
    have hFf := hno (by rw [hkk]; rfl)
    subst hFf
    clear hK
    repeat' (first | apply (zs1 ?_) | apply (zs2 ?_) | (apply zg1; first | refine zs3 ?_ | refine zs4 ?_) | (apply zg3; refine zs60 ?_) | (apply zg4; refine zs9 ?_) | (apply zg5; refine zs57 ?_) | (apply zg6; first | refine zs11 ?_ | refine zs12 ?_) | (apply (zs17 ?_ ?_) <;> intro _ <;> try (exfalso; omega)) | (apply (zs19 ?_ ?_) <;> intro _ <;> try (exfalso; omega)) | apply (zs65 ?_) | apply (zs68 ?_) | apply (zs69 ?_) | apply (zs70 ?_) | (apply zg27; refine zs71 ?_) | apply (zs73 ?_) | apply (zs74 ?_) | apply (zs76 ?_) | apply (zs77 ?_) | apply (zs78 ?_) | fail)
    all_goals (
      apply Yj H
      · exact zk
      apply Yc; exact rfl; exact rfl; exact ⟨rfl, rfl⟩)
  rw [decide_eq_true hA] at hkk
  cases b3 with
  | false =>
    have hFf := hno (by rw [hkk]; rfl)
    subst hFf
    clear hK
    repeat' (first | apply (zs1 ?_) | apply (zs2 ?_) | (apply zg1; refine zs4 ?_) | (apply zg3; refine zs60 ?_) | (apply zg4; refine zs9 ?_) | (apply zg5; refine zs57 ?_) | (apply zg6; refine zs12 ?_) | (apply (zs17 ?_ ?_) <;> intro _ <;> try (exfalso; omega)) | (apply (zs19 ?_ ?_) <;> intro _ <;> try (exfalso; omega)) | apply (zs65 ?_) | apply (zs68 ?_) | apply (zs69 ?_) | apply (zs70 ?_) | (apply zg27; refine zs71 ?_) | apply (zs73 ?_) | apply (zs76 ?_) | fail)
    first | apply Ya Xg | apply Yb Xg
    exact za
    exact rfl
    exact fun _ hw => (q3 (hc.mono zk) hw)
    repeat' (first | apply (zs1 ?_) | apply (zs2 ?_) | (apply zg1; first | refine zs3 ?_ | refine zs4 ?_) | (apply zg6; first | refine zs11 ?_ | refine zs12 ?_) | (apply zg20; refine zs48 ?_) | apply (zs65 ?_) | apply (zs68 ?_) | apply (zs69 ?_) | apply (zs70 ?_) | (apply zg27; refine zs71 ?_) | apply (zs74 ?_) | apply (zs77 ?_) | apply (zs78 ?_) | fail)
    all_goals (
      apply Yj H
      · exact zk
      apply Yc; exact rfl; exact rfl; exact ⟨rfl, rfl⟩)
  | true =>
  by_cases hB : 1 ≤ z.xs.length ∧ z.xs.length ≤ 64
  rotate_left
  · rw [decide_eq_false hB] at hkk
    have hFf := hno (by rw [hkk]; rfl)
    subst hFf
    clear hK
    repeat' (first | apply (zs1 ?_) | apply (zs2 ?_) | (apply zg1; refine zs4 ?_) | (apply zg3; refine zs60 ?_) | (apply zg4; refine zs9 ?_) | (apply zg5; refine zs57 ?_) | (apply zg6; refine zs12 ?_) | (apply (zs17 ?_ ?_) <;> intro _ <;> try (exfalso; omega)) | (apply (zs19 ?_ ?_) <;> intro _ <;> try (exfalso; omega)) | apply (zs65 ?_) | apply (zs68 ?_) | apply (zs69 ?_) | apply (zs70 ?_) | (apply zg27; refine zs71 ?_) | apply (zs73 ?_) | apply (zs76 ?_) | fail)
    first | apply Ya Xg | apply Yb Xg
    exact za
    exact rfl
    exact fun _ hw => (q3 (hc.mono zk) hw)
    repeat' (first | apply (zs1 ?_) | apply (zs2 ?_) | (apply zg1; first | refine zs3 ?_ | refine zs4 ?_) | (apply zg2; refine zs6 ?_) | (apply zg3; first | refine zs7 ?_ | refine zs60 ?_) | (apply zg4; refine zs9 ?_) | (apply zg5; refine zs57 ?_) | (apply zg6; first | refine zs11 ?_ | refine zs12 ?_) | (apply (zs17 ?_ ?_) <;> intro _ <;> try (exfalso; omega)) | (apply (zs19 ?_ ?_) <;> intro _ <;> try (exfalso; omega)) | (apply zg20; refine zs47 ?_) | apply (zs65 ?_) | apply (zs68 ?_) | apply (zs69 ?_) | apply (zs70 ?_) | (apply zg27; refine zs71 ?_) | apply (zs74 ?_) | apply (zs77 ?_) | apply (zs78 ?_) | fail)
    all_goals (
      apply Yj H
      · exact zk
      apply Yc; exact rfl; exact rfl; exact ⟨rfl, rfl⟩)
  rw [decide_eq_true hB] at hkk
  cases b4 with
  | false =>
    have hFf := hno (by rw [hkk]; rfl)
    subst hFf
    clear hK
    repeat' (first | apply (zs1 ?_) | apply (zs2 ?_) | (apply zg1; refine zs4 ?_) | (apply zg3; refine zs60 ?_) | (apply zg4; refine zs9 ?_) | (apply zg5; refine zs57 ?_) | (apply zg6; refine zs12 ?_) | (apply (zs17 ?_ ?_) <;> intro _ <;> try (exfalso; omega)) | (apply (zs19 ?_ ?_) <;> intro _ <;> try (exfalso; omega)) | apply (zs65 ?_) | apply (zs68 ?_) | apply (zs69 ?_) | apply (zs70 ?_) | (apply zg27; refine zs71 ?_) | apply (zs73 ?_) | apply (zs76 ?_) | fail)
    first | apply Ya Xg | apply Yb Xg
    exact za
    exact rfl
    exact fun _ hw => (q3 (hc.mono zk) hw)
    repeat' (first | apply (zs1 ?_) | (apply zg1; refine zs4 ?_) | (apply zg2; refine zs6 ?_) | (apply zg3; first | refine zs7 ?_ | refine zs60 ?_) | (apply zg4; refine zs9 ?_) | (apply zg5; refine zs57 ?_) | (apply zg6; refine zs12 ?_) | (apply (zs17 ?_ ?_) <;> intro _ <;> try (exfalso; omega)) | (apply (zs19 ?_ ?_) <;> intro _ <;> try (exfalso; omega)) | (apply zg20; refine zs47 ?_) | fail)
    first | apply Ya Xg | apply Yb Xg
    exact za
    exact rfl
    exact fun _ hw => (q4 (hc.mono zk) hw)
    repeat' (first | apply (zs2 ?_) | (apply zg1; refine zs4 ?_) | (apply zg6; refine zs12 ?_) | (apply zg20; refine zs48 ?_) | apply (zs65 ?_) | apply (zs68 ?_) | apply (zs69 ?_) | apply (zs70 ?_) | (apply zg27; refine zs71 ?_) | apply (zs74 ?_) | apply (zs77 ?_) | apply (zs78 ?_) | fail)
    all_goals (
      apply Yj H
      · exact zk
      apply Yc; exact rfl; exact rfl; exact ⟨rfl, rfl⟩)
  | true =>
    have hkt : ok k = true := hkk
    repeat' (first | apply (zs1 ?_) | apply (zs2 ?_) | (apply zg1; refine zs4 ?_) | (apply zg3; refine zs60 ?_) | (apply zg4; refine zs9 ?_) | (apply zg5; refine zs57 ?_) | (apply zg6; refine zs12 ?_) | (apply (zs17 ?_ ?_) <;> intro _ <;> try (exfalso; omega)) | (apply (zs19 ?_ ?_) <;> intro _ <;> try (exfalso; omega)) | apply (zs65 ?_) | apply (zs68 ?_) | apply (zs69 ?_) | apply (zs70 ?_) | (apply zg27; refine zs71 ?_) | apply (zs73 ?_) | apply (zs76 ?_) | fail)
    first | apply Ya Xg | apply Yb Xg
    exact za
    exact rfl
    exact fun _ hw => (q3 (hc.mono zk) hw)
    repeat' (first | apply (zs1 ?_) | (apply zg1; refine zs4 ?_) | (apply zg2; refine zs6 ?_) | (apply zg3; first | refine zs7 ?_ | refine zs60 ?_) | (apply zg4; refine zs9 ?_) | (apply zg5; refine zs57 ?_) | (apply zg6; refine zs12 ?_) | (apply (zs17 ?_ ?_) <;> intro _ <;> try (exfalso; omega)) | (apply (zs19 ?_ ?_) <;> intro _ <;> try (exfalso; omega)) | (apply zg20; refine zs47 ?_) | fail)
    first | apply Ya Xg | apply Yb Xg
    exact za
    exact rfl
    exact fun _ hw => (q4 (hc.mono zk) hw)
    repeat' (first | apply (zs1 ?_) | (apply zg1; refine zs4 ?_) | (apply zg6; refine zs12 ?_) | (apply zg13; refine zs30 ?_) | (apply zg20; refine zs47 ?_) | apply (zs65 ?_) | apply (zs68 ?_) | apply (zs70 ?_) | (apply zg27; refine zs72 ?_) | apply (zs76 ?_) | apply (zs79 ?_) | fail)
    apply hK (k + 1)
    · exact ⟨by omega, fun j h2 => by
        rcases Nat.lt_succ_iff_lt_or_eq.1 h2 with h | rfl
        · exact hz j h
        · exact hkt⟩
    · omega
    · exact zu
    · exact zk
open Go.RowKit Go.Eng Go.Nw Go.Rt
set_option maxRecDepth 10000 in
set_option maxHeartbeats 8000000 in
theorem OK (c : List ClM) {A : Option Addr} {cap B : Nat} {w0 : World} {H : List HP} {w : World} (hc : CIn B w0 H A c) (hw : St B w0 H w) :
    Calls Tryz.prog 75 [.slice A c.length cap].toArray w (Post B w0 fun v K => v = .bool (ZA (c.map ClM.clm)) ∧ K = H) := by
  refine Yd Tryz.func75 Tryz.ntmps75 rfl rfl hw ?_
  have hcl := hc.ln
  have hcr := hc.rd
  obtain ⟨ok, hok⟩ : ∃ ok : Nat → Bool, Ydl (c.map ClM.clm) = ok := ⟨_, rfl⟩
  obtain ⟨F, hF⟩ : ∃ F, ZA (c.map ClM.clm) = F := ⟨_, rfl⟩
  have hFe : F = (decide (c.length ≤ 16) && (List.range c.length).all ok) := by
    rw [← hF]; unfold ZA; rw [List.length_map, hok]
  rw [hF]
  repeat' (first | apply (zs1 ?_) | apply (zs2 ?_) | (apply zg4; refine zs9 ?_) | apply (zs65 ?_) | apply (zs68 ?_) | apply (zs69 ?_) | apply (zs70 ?_) | apply (zs73 ?_) | fail)
  refine Yk (fun k : Nat => [(7, .int .i64 (k : Nat)), (6, .int .i64 c.length), (5, .slice A c.length cap), (0, .slice A c.length cap)]) (fun _ => H) (fun k => k ≤ c.length ∧ ∀ j, j < k → ok j = true) (fun k => c.length - k) 0 ⟨Nat.zero_le _, fun j h => absurd h (Nat.not_lt_zero _)⟩ ?_ (fun w hw => hw) ?_
  · exact zu
  rintro k ⟨hk, hz⟩ K hK
  by_cases hlt : k < c.length
  rotate_left
  · obtain rfl : k = c.length := by omega
    have hFt : (List.range c.length).all ok = true := by
      rw [List.all_eq_true]
      exact fun j hj => hz j (List.mem_range.1 hj)
    rw [hFt, Bool.and_true] at hFe
    clear hK
    by_cases h16 : c.length ≤ 16
    · rw [decide_eq_true h16] at hFe
      subst hFe
      repeat' (first | apply (zs1 ?_) | apply (zs2 ?_) | (apply zg4; refine zs9 ?_) | (apply (zs17 ?_ ?_) <;> intro _ <;> try (exfalso; omega)) | (apply (zs18 ?_ ?_) <;> intro _ <;> try (exfalso; omega)) | apply (zs65 ?_) | apply (zs68 ?_) | apply (zs69 ?_) | apply (zs70 ?_) | (apply zg27; refine zs72 ?_) | apply (zs74 ?_) | apply (zs75 ?_) | apply (zs80 ?_) | apply (zs81 ?_) | fail)
      apply Yc; exact rfl; exact rfl; exact ⟨rfl, rfl⟩
    · rw [decide_eq_false h16] at hFe
      subst hFe
      repeat' (first | apply (zs1 ?_) | apply (zs2 ?_) | (apply zg4; refine zs9 ?_) | (apply (zs17 ?_ ?_) <;> intro _ <;> try (exfalso; omega)) | (apply (zs18 ?_ ?_) <;> intro _ <;> try (exfalso; omega)) | apply (zs65 ?_) | apply (zs68 ?_) | apply (zs69 ?_) | apply (zs70 ?_) | (apply zg27; refine zs72 ?_) | apply (zs74 ?_) | apply (zs75 ?_) | apply (zs80 ?_) | apply (zs81 ?_) | fail)
      apply Yc; exact rfl; exact rfl; exact ⟨rfl, rfl⟩
  obtain ⟨x, hx⟩ : ∃ x, c[k]? = some x := ⟨_, List.getElem?_eq_getElem hlt⟩
  have hxi := hc.x x (List.mem_of_getElem? hx)
  have q1 := fun {H' : List HP} {w : World} (hx : x.In B w0 H') (hw : St B w0 H' w) => YaL x hx hw
  have hok1 : ok k = (ZP x.clm && (decide (k = 0) || decide ((ZG (c.map ClM.clm) (k - 1)).flow < x.flow))) := by
    rw [← hok]; unfold Ydl; rw [Zp hx]; rfl
  have hno : ok k = false → F = false := fun h => by
    rw [hFe, Bool.and_eq_false_iff]
    exact .inr (List.all_eq_false.2 ⟨k, List.mem_range.2 hlt, by rw [h]; decide⟩)
  obtain ⟨b, hb⟩ : ∃ b, ZP x.clm = b := ⟨_, rfl⟩
  rw [hb] at q1 hok1
  cases b with
  | false =>
    have hFf := hno hok1
    subst hFf
    clear hK
    repeat' (first | apply (zs1 ?_) | apply (zs2 ?_) | (apply zg3; refine zs61 ?_) | (apply zg5; refine zs57 ?_) | (apply (zs17 ?_ ?_) <;> intro _ <;> try (exfalso; omega)) | (apply zg22; refine zs51 ?_) | (apply zg24; (refine zs54 ?_; intro _)) | apply (zs65 ?_) | apply (zs68 ?_) | apply (zs69 ?_) | apply (zs70 ?_) | (apply zg27; refine zs71 ?_) | apply (zs73 ?_) | apply (zs76 ?_) | fail)
    apply YF [0, 1, 2, 3, 4, 5, 6, 7, 8, 9, 10, 11, 12, 13, 14, 15, 16, 17] []
    kernel_rfl
    kernel_rfl
    (simp only [Yi, nthO]; rfl)
    exact rfl
    repeat' (first | (apply zg3; refine zs8 ?_) | apply (zs87 ?_) | fail)
    first | apply Ya Wj | apply Yb Wj
    exact za
    exact rfl
    exact fun _ hw => (q1 (hxi.mono zk) hw)
    repeat' (first | apply (zs1 ?_) | apply (zs2 ?_) | (apply zg1; refine zs3 ?_) | (apply zg6; refine zs11 ?_) | (apply zg20; refine zs48 ?_) | apply (zs65 ?_) | (apply Yp; exact zp) | apply (zs68 ?_) | apply (zs69 ?_) | apply (zs70 ?_) | (apply zg27; refine zs71 ?_) | apply (zs74 ?_) | apply (zs77 ?_) | apply (zs78 ?_) | (apply Ym; (repeat (first | with_reducible exact Yh | (with_reducible apply Yg; (repeat (first | with_reducible exact Yf | with_reducible apply Ye)))))) | apply (zs93 ?_) | apply (zs94 ?_) | fail)
    · show Perm H (H ++ [])
      rw [List.append_nil]; exact Perm.refl _
    repeat' (first | fail)
    apply Yj H
    · exact zk
    apply Yc; exact rfl; exact rfl; exact ⟨rfl, rfl⟩
  | true =>
    rw [Bool.true_and] at hok1
    by_cases hk0 : k = 0
    · have hkt : ok k = true := by rw [hok1, decide_eq_true hk0]; rfl
      repeat' (first | apply (zs1 ?_) | apply (zs2 ?_) | (apply zg3; refine zs61 ?_) | (apply zg5; refine zs57 ?_) | (apply (zs17 ?_ ?_) <;> intro _ <;> try (exfalso; omega)) | (apply zg22; refine zs51 ?_) | (apply zg24; (refine zs54 ?_; intro _)) | apply (zs65 ?_) | apply (zs68 ?_) | apply (zs69 ?_) | apply (zs70 ?_) | (apply zg27; refine zs71 ?_) | apply (zs73 ?_) | apply (zs76 ?_) | fail)
      apply YF [0, 1, 2, 3, 4, 5, 6, 7, 8, 9, 10, 11, 12, 13, 14, 15, 16, 17] []
      kernel_rfl
      kernel_rfl
      (simp only [Yi, nthO]; rfl)
      exact rfl
      repeat' (first | (apply zg3; refine zs8 ?_) | apply (zs87 ?_) | fail)
      first | apply Ya Wj | apply Yb Wj
      exact za
      exact rfl
      exact fun _ hw => (q1 (hxi.mono zk) hw)
      repeat' (first | apply (zs1 ?_) | (apply zg1; refine zs4 ?_) | (apply zg20; refine zs47 ?_) | apply (zs65 ?_) | (apply Ym; (repeat (first | with_reducible exact Yh | (with_reducible apply Yg; (repeat (first | with_reducible exact Yf | with_reducible apply Ye)))))) | fail)
      · show Perm H (H ++ [])
        rw [List.append_nil]; exact Perm.refl _
      repeat' (first | apply (zs1 ?_) | (apply zg1; first | refine zs3 ?_ | refine zs4 ?_) | (apply zg6; refine zs12 ?_) | (apply (zs19 ?_ ?_) <;> intro _ <;> try (exfalso; omega)) | (apply zg13; refine zs30 ?_) | apply (zs65 ?_) | (apply Yp; exact zp) | apply (zs68 ?_) | apply (zs70 ?_) | (apply zg27; refine zs72 ?_) | apply (zs76 ?_) | apply (zs79 ?_) | apply (zs93 ?_) | apply (zs94 ?_) | fail)
      apply hK (k + 1)
      · exact ⟨by omega, fun j h2 => by
          rcases Nat.lt_succ_iff_lt_or_eq.1 h2 with h | rfl
          · exact hz j h
          · exact hkt⟩
      · omega
      · exact zu
      · exact zk
    obtain ⟨y, hy⟩ : ∃ y, c[k - 1]? = some y := ⟨_, List.getElem?_eq_getElem (by omega)⟩
    have hy2 : c[((k : Int) - 1).toNat]? = some y := by rw [show ((k : Int) - 1).toNat = k - 1 by omega]; exact hy
    rw [decide_eq_false hk0, Bool.false_or, Zp hy] at hok1
    have hok1 : ok k = decide (y.flow < x.flow) := hok1
    by_cases hfl : y.flow < x.flow
    · rw [decide_eq_true hfl] at hok1
      repeat' (first | apply (zs1 ?_) | apply (zs2 ?_) | (apply zg3; refine zs61 ?_) | (apply zg5; refine zs57 ?_) | (apply (zs17 ?_ ?_) <;> intro _ <;> try (exfalso; omega)) | (apply zg22; refine zs51 ?_) | (apply zg24; (refine zs54 ?_; intro _)) | apply (zs65 ?_) | apply (zs68 ?_) | apply (zs69 ?_) | apply (zs70 ?_) | (apply zg27; refine zs71 ?_) | apply (zs73 ?_) | apply (zs76 ?_) | fail)
      apply YF [0, 1, 2, 3, 4, 5, 6, 7, 8, 9, 10, 11, 12, 13, 14, 15, 16, 17] []
      kernel_rfl
      kernel_rfl
      (simp only [Yi, nthO]; rfl)
      exact rfl
      repeat' (first | (apply zg3; refine zs8 ?_) | apply (zs87 ?_) | fail)
      first | apply Ya Wj | apply Yb Wj
      exact za
      exact rfl
      exact fun _ hw => (q1 (hxi.mono zk) hw)
      repeat' (first | apply (zs1 ?_) | (apply zg1; refine zs4 ?_) | (apply zg20; refine zs47 ?_) | apply (zs65 ?_) | (apply Ym; (repeat (first | with_reducible exact Yh | (with_reducible apply Yg; (repeat (first | with_reducible exact Yf | with_reducible apply Ye)))))) | fail)
      · show Perm H (H ++ [])
        rw [List.append_nil]; exact Perm.refl _
      repeat' (first | apply (zs1 ?_) | (apply zg1; refine zs4 ?_) | (apply zg2; first | refine zs6 ?_ | refine zs58 ?_) | (apply zg3; first | refine zs7 ?_ | refine zs59 ?_) | (apply zg5; refine zs57 ?_) | (apply zg6; first | refine zs11 ?_ | refine zs12 ?_) | (apply (zs19 ?_ ?_) <;> intro _ <;> try (exfalso; omega)) | (apply (zs20 ?_ ?_) <;> intro _ <;> try (exfalso; omega)) | (apply zg13; refine zs30 ?_) | (apply zg14; refine zs31 ?_) | apply (zs65 ?_) | (apply Yp; exact zp) | apply (zs68 ?_) | apply (zs70 ?_) | (apply zg27; refine zs72 ?_) | apply (zs76 ?_) | apply (zs79 ?_) | apply (zs93 ?_) | apply (zs94 ?_) | fail)
      apply hK (k + 1)
      · exact ⟨by omega, fun j h2 => by
          rcases Nat.lt_succ_iff_lt_or_eq.1 h2 with h | rfl
          · exact hz j h
          · exact hok1⟩
      · omega
      · exact zu
      · exact zk
    · rw [decide_eq_false hfl] at hok1
      have hFf := hno hok1
      subst hFf
      clear hK
      repeat' (first | apply (zs1 ?_) | apply (zs2 ?_) | (apply zg3; refine zs61 ?_) | (apply zg5; refine zs57 ?_) | (apply (zs17 ?_ ?_) <;> intro _ <;> try (exfalso; omega)) | (apply zg22; refine zs51 ?_) | (apply zg24; (refine zs54 ?_; intro _)) | apply (zs65 ?_) | apply (zs68 ?_) | apply (zs69 ?_) | apply (zs70 ?_) | (apply zg27; refine zs71 ?_) | apply (zs73 ?_) | apply (zs76 ?_) | fail)
      apply YF [0, 1, 2, 3, 4, 5, 6, 7, 8, 9, 10, 11, 12, 13, 14, 15, 16, 17] []
      kernel_rfl
      kernel_rfl
      (simp only [Yi, nthO]; rfl)
      exact rfl
      repeat' (first | (apply zg3; refine zs8 ?_) | apply (zs87 ?_) | fail)
      first | apply Ya Wj | apply Yb Wj
      exact za
      exact rfl
      exact fun _ hw => (q1 (hxi.mono zk) hw)
      repeat' (first | apply (zs1 ?_) | (apply zg1; refine zs4 ?_) | (apply zg20; refine zs47 ?_) | apply (zs65 ?_) | (apply Ym; (repeat (first | with_reducible exact Yh | (with_reducible apply Yg; (repeat (first | with_reducible exact Yf | with_reducible apply Ye)))))) | fail)
      · show Perm H (H ++ [])
        rw [List.append_nil]; exact Perm.refl _
      repeat' (first | apply (zs1 ?_) | apply (zs2 ?_) | (apply zg1; refine zs4 ?_) | (apply zg2; first | refine zs6 ?_ | refine zs58 ?_) | (apply zg3; first | refine zs7 ?_ | refine zs59 ?_) | (apply zg5; refine zs57 ?_) | (apply zg6; first | refine zs11 ?_ | refine zs12 ?_) | (apply (zs19 ?_ ?_) <;> intro _ <;> try (exfalso; omega)) | (apply (zs20 ?_ ?_) <;> intro _ <;> try (exfalso; omega)) | (apply zg14; refine zs31 ?_) | apply (zs65 ?_) | (apply Yp; exact zp) | apply (zs68 ?_) | apply (zs69 ?_) | apply (zs70 ?_) | (apply zg27; refine zs71 ?_) | apply (zs74 ?_) | apply (zs77 ?_) | apply (zs78 ?_) | apply (zs93 ?_) | apply (zs94 ?_) | fail)
      apply Yj H
      · exact zk
      apply Yc; exact rfl; exact rfl; exact ⟨rfl, rfl⟩
open Go.RowKit Go.Eng Go.Nw
set_option maxRecDepth 10000 in
theorem JH (word : List UInt8) (l : List Int) (h : ∀ n ∈ l, 0 ≤ n ∧ n < 10000) (h5 : l.length ≤ 100) (hwd : word.length ≤ 100) {A : Option Addr} {cap B : Nat} {w0 : World} {H : List HP} {w : World} (ht : TabsB B w0) (hr : Rd B w0 H A (l.flatMap numF)) (hw : St B w0 H w) :
    Calls Tryz.prog 77 [strV word, .slice A l.length cap].toArray w (Post B w0 fun v K => v = strV (Xi word l) ∧ K = H) := by
  refine Yd Tryz.func77 Tryz.ntmps77 rfl rfl hw ?_
  repeat' (first | apply (zs1 ?_) | apply (zs2 ?_) | (apply zg4; refine zs9 ?_) | apply (zs65 ?_) | apply (zs68 ?_) | apply (zs69 ?_) | apply (zs70 ?_) | apply (zs73 ?_) | fail)
  refine Yk (fun (i : Nat) => [(9, .int .i64 i), (8, .int .i64 l.length), (7, .slice A l.length cap), (0, strV (YA word (l.take i)))]) (fun _ => H) (fun i => i ≤ l.length) (fun i => l.length - i) 0 (Nat.zero_le _) ?_ (fun w hw => hw) ?_
  · have e0 : YA word (l.take 0) = word := by simp [YA]
    rw [e0]
    exact zu
  intro i hi K hK
  have hbl := Ui (w := word) (l := l.take i) fun n hn => h n (List.mem_of_mem_take hn)
  have hlt0 : (l.take i).length ≤ 100 := by rw [List.length_take]; omega
  by_cases hlt : i < l.length
  · obtain ⟨n, hn⟩ : ∃ n, l[i]? = some n := ⟨_, List.getElem?_eq_getElem hlt⟩
    have hnb := h n (List.mem_of_getElem? hn)
    have hil := WZ hnb
    repeat' (first | ((first | apply Ya Q5 | apply Yb Q5); exact za; exact rfl; exact fun _ hw => (UZ n (by omega) (by omega) ht hw)) | (apply Vh [32] (Lib.itoa n); exact rfl; exact rfl; exact rfl; (show 1 + _ ≤ _; omega)) | (apply Vh (YA word (l.take i)) ([32] ++ Lib.itoa n); exact rfl; exact rfl; exact rfl; (rw [List.length_append]; show _ + (1 + _) ≤ _; omega)) | apply (zs1 ?_) | apply (zs2 ?_) | (apply zg3; refine zs60 ?_) | (apply zg5; refine zs57 ?_) | (apply (zs17 ?_ ?_) <;> intro _ <;> try (exfalso; omega)) | (apply zg13; refine zs30 ?_) | apply (zs65 ?_) | apply (zs68 ?_) | apply (zs69 ?_) | apply (zs70 ?_) | (apply zg27; refine zs71 ?_) | apply (zs73 ?_) | apply (zs76 ?_) | apply (zs79 ?_) | fail)
    apply hK (i + 1)
    · show i + 1 ≤ l.length
      omega
    · omega
    · rw [List.take_add_one, hn, Option.toList_some, Yad]
      exact zu
    · exact fun w hw => hw
  · skip
    repeat' (first | (apply Vh (YA word (l.take i)) [10]; exact rfl; exact rfl; exact rfl; (show _ + 1 ≤ _; omega)) | apply (zs1 ?_) | apply (zs2 ?_) | (apply (zs17 ?_ ?_) <;> intro _ <;> try (exfalso; omega)) | apply (zs65 ?_) | apply (zs68 ?_) | apply (zs69 ?_) | apply (zs70 ?_) | (apply zg27; refine zs72 ?_) | apply (zs74 ?_) | apply (zs75 ?_) | apply (zs80 ?_) | apply (zs81 ?_) | fail)
    apply Yc; exact rfl; exact rfl
    rw [show i = l.length by omega, List.take_length]
    exact ⟨rfl, rfl⟩
set_option maxRecDepth 10000 in
set_option maxHeartbeats 2000000 in
theorem QC (ws : List (List UInt8)) (hwl : ws.length ≤ 1000000) (hwm : ∀ p ∈ ws, p.length ≤ 100000) {A0 : Option Addr} {cap0 B : Nat} {w0 : World} {H : List HP} {w : World} (ht : TabsB B w0) (hrw : Rd B w0 H A0 (ws.flatMap strL)) (hw : St B w0 H w) :
    Calls Tryz.prog 143 [.slice A0 ws.length cap0].toArray w (Post B w0 (OutR H (Jb ws))) := by
  refine Yd Tryz.func143 Tryz.ntmps143 rfl rfl hw ?_
  repeat' (first | apply (zs1 ?_) | apply (zs2 ?_) | (apply zg4; refine zs9 ?_) | apply (zs65 ?_) | apply (zs68 ?_) | apply (zs69 ?_) | apply (zs70 ?_) | apply (zs73 ?_) | fail)
  have hnone : ∀ {p : List UInt8}, p ∈ ws → numW p < 0 → Jb ws = none := fun hp hn => Yd5 hp hn
  refine Yk (fun (z : Nat × Option Addr × Nat) => [(11, .int .i64 z.1), (10, .int .i64 ws.length), (9, .slice A0 ws.length cap0), (4, .slice z.2.1 ((ws.take z.1).map numW).length z.2.2)]) (fun z => nrs z.2.1 z.2.2 ((ws.take z.1).map numW) :: H) (fun z => z.1 ≤ ws.length ∧ ∀ p ∈ ws.take z.1, 0 ≤ numW p) (fun z => ws.length - z.1) (0, none, 0) ⟨Nat.zero_le _, by simp⟩ ?_ (fun w hw => hw.nilSlice _ _) ?_
  · exact zu
  rintro ⟨i, A, cap⟩ ⟨hi, hall⟩ K hK
  dsimp only at hi hall ⊢
  have hlen : ((ws.take i).map numW).length = i := by rw [List.length_map, List.length_take]; omega
  have hrw' := hrw.cons (X := nrs A cap ((ws.take i).map numW))
  by_cases hlt : i < ws.length
  · obtain ⟨p, hp⟩ : ∃ p, ws[i]? = some p := ⟨_, List.getElem?_eq_getElem hlt⟩
    have hpm := List.mem_of_getElem? hp
    have hpl := hwm p hpm
    have hs : (⟨p.toArray⟩ : ByteArray).size = p.length := by simp [ByteArray.size]
    by_cases hv : ∃ v, Lib.atoiAll p = .ok v
    · obtain ⟨v, hv⟩ := hv
      have hvb := Lib.atoiAll_bounds hv
      obtain ⟨q1, q2⟩ := YeW hv
      repeat' (first | ((first | apply Ya Yfb | apply Yb Yfb); exact za; exact rfl; exact fun _ hw => (Ygb p (by omega) v hv hw)) | ((first | apply Ya Q5 | apply Yb Q5); exact za; exact rfl; exact fun _ hw => (UZ v hvb.1 hvb.2 ht hw)) | (apply Ygm; exact rfl; exact rfl) | (apply YaR (Lib.itoa v) p; exact rfl; exact rfl; exact rfl; all_goals intro hwd2) | apply (zs1 ?_) | apply (zs2 ?_) | (apply zg1; first | refine zs3 ?_ | refine zs4 ?_) | (apply zg3; refine zs60 ?_) | (apply zg4; refine zs14 ?_) | (apply zg5; refine zs57 ?_) | (apply zg6; first | refine zs11 ?_ | refine zs12 ?_) | apply (zs13 ?_) | (apply (zs17 ?_ ?_) <;> intro _ <;> try (exfalso; omega)) | (apply (zs19 ?_ ?_) <;> intro _ <;> try (exfalso; omega)) | (apply zg13; refine zs30 ?_) | (apply zg21; (refine zs49 ?_; intro _ _)) | (apply zg26; (refine zs56 ?_; intro _)) | apply (zs65 ?_) | apply (zs68 ?_) | apply (zs69 ?_) | apply (zs70 ?_) | (apply zg27; first | refine zs71 ?_ | refine zs72 ?_) | apply (zs73 ?_) | apply (zs74 ?_) | apply (zs76 ?_) | apply (zs77 ?_) | apply (zs78 ?_) | apply (zs79 ?_) | fail)
      all_goals first
        | (apply Yj H
           · exact zk
           apply Yt; exact rfl; exact rfl; exact rfl
           rw [hnone hpm (q2 (by rintro ⟨c1, c2, c3⟩; first | omega | exact hwd2 c2))]
           exact ⟨rfl, rfl⟩)
        | (rename_i xA xcap
           have hq := q1 ⟨by omega, hwd2, by omega⟩
           have e5 : (ws.take i).map numW ++ [v] = (ws.take (i + 1)).map numW := by rw [List.take_add_one, hp, Option.toList_some, List.map_append, List.map_cons, List.map_nil, hq]
           rw [Jf, e5]
           apply hK (i + 1, xA, xcap)
           · refine ⟨by show i + 1 ≤ _; omega, fun p' hp' => ?_⟩
             dsimp only at hp'
             rw [List.take_add_one, hp, Option.toList_some, List.mem_append, List.mem_singleton] at hp'
             rcases hp' with hp' | rfl
             · exact hall p' hp'
             · omega
           · dsimp only; omega
           · rw [show ((ws.take i).map numW).length + 1 = ((ws.take (i + 1)).map numW).length from (by rw [← e5]; simp)]
             exact zu
           · exact zk)
    · have hbad := YfI (fun n hn => hv ⟨n, hn⟩)
      repeat' (first | apply (zs1 ?_) | apply (zs2 ?_) | (apply zg3; refine zs60 ?_) | (apply zg5; refine zs57 ?_) | (apply (zs17 ?_ ?_) <;> intro _ <;> try (exfalso; omega)) | apply (zs65 ?_) | apply (zs68 ?_) | apply (zs69 ?_) | apply (zs70 ?_) | (apply zg27; refine zs71 ?_) | apply (zs73 ?_) | apply (zs76 ?_) | fail)
      apply Ys _ Yfb
      exact za
      exact rfl
      exact fun _ hw => (YfH p (by omega) (fun n hn => hv ⟨n, hn⟩) ht (hw))
      rintro _ _ ⟨⟨n9, t9, p9, rfl⟩, rfl⟩
      repeat' (first | (apply YgC; exact rfl; exact rfl) | apply (zs1 ?_) | apply (zs2 ?_) | (apply zg1; refine zs3 ?_) | (apply zg6; refine zs11 ?_) | apply (zs13 ?_) | apply (zs65 ?_) | apply (zs68 ?_) | apply (zs69 ?_) | apply (zs70 ?_) | (apply zg27; refine zs71 ?_) | apply (zs74 ?_) | apply (zs77 ?_) | apply (zs78 ?_) | fail)
      rw [hnone hpm hbad]
      apply Yj H
      · exact zk
      apply Yt; exact rfl; exact rfl; exact rfl; exact ⟨rfl, rfl⟩
  · have hie : i = ws.length := by omega
    rw [hie, List.take_length] at hall
    rw [Yd2 hall]
    repeat' (first | apply (zs1 ?_) | apply (zs2 ?_) | (apply (zs17 ?_ ?_) <;> intro _ <;> try (exfalso; omega)) | apply (zs65 ?_) | apply (zs68 ?_) | apply (zs69 ?_) | apply (zs70 ?_) | (apply zg27; refine zs72 ?_) | apply (zs74 ?_) | apply (zs75 ?_) | apply (zs80 ?_) | apply (zs81 ?_) | fail)
    rw [hie, List.take_length]
    apply Yt; exact rfl; exact rfl; exact rfl
    exact ⟨A, cap, by rw [List.length_map], rfl⟩
open Go.RowKit Go.Eng Go.Nw Go.Rt
def rt3 (x : Clm) (i : Nat) : List UInt8 := Xi wordR (rtAt x.routes i) ++ Xi wordB [x.bounds.getD i 0, x.worst.getD i 0] ++ Xi wordL (rtAt x.slots i)
def clT (x : Clm) (k : Nat) : List UInt8 := Xi wordF [x.flow] ++ (List.range k).flatMap (rt3 x)
def XN (c : List Clm) (k : Nat) : List UInt8 := (c.take k).flatMap fun x => clT x x.routes.length
theorem YdJ {x : Clm} (h : JN x) : ((XJ x).flatMap fun p => p ++ [10]) = clT x x.routes.length := by
  have e : ∀ ks : List Nat, (∀ i ∈ ks, i < x.routes.length) → (ks.flatMap (Ybk x)).flatMap (fun p => p ++ [10]) = ks.flatMap (rt3 x) := by
    intro ks
    induction ks with
    | nil => intro _; rfl
    | cons i ks ih =>
      intro hk
      rw [List.flatMap_cons, List.flatMap_append, List.flatMap_cons, ih fun j hj => hk j (List.mem_cons_of_mem _ hj)]
      have hi := hk i List.mem_cons_self
      unfold Ybk rt3 Xi
      rw [if_pos (by rw [h.b]; exact hi), if_pos (by rw [h.s]; exact hi)]
      simp
  unfold XJ clT
  rw [List.flatMap_cons, e _ fun i hi => List.mem_range.1 hi]
  rfl
theorem QQ {c : List Clm} (h : ∀ x ∈ c, JN x) : JK c = XN c c.length := by
  unfold JK XN
  rw [List.take_length]
  induction c with
  | nil => rfl
  | cons x c ih =>
    rw [List.flatMap_cons, List.flatMap_append, List.flatMap_cons, YdJ (h x (by simp)), ih fun y hy => h y (by simp [hy])]
theorem Yaj {c : List Clm} {k : Nat} {x : Clm} (h : c[k]? = some x) : XN c (k + 1) = XN c k ++ clT x x.routes.length := by
  unfold XN
  rw [List.take_add_one, h, Option.toList_some, List.flatMap_append]
  simp
theorem YbT (x : Clm) (k : Nat) : clT x (k + 1) = clT x k ++ rt3 x k := by
  unfold clT
  rw [List.range_succ, List.flatMap_append, List.append_assoc]
  simp
theorem JC {l : List Int} {b : Int} (hb : b < 10000) (h : ∀ x ∈ l, 0 ≤ x ∧ x ≤ b) : ∀ n ∈ l, 0 ≤ n ∧ n < 10000 := fun n hn => by have := h n hn; omega
theorem QG {a b : Int} (ha : 0 ≤ a ∧ a < 10000) (hb : 0 ≤ b ∧ b < 10000) : ∀ n ∈ [a, b], 0 ≤ n ∧ n < 10000 := fun n hn => by
  simp only [List.mem_cons, List.not_mem_nil, or_false] at hn
  rcases hn with rfl | rfl
  · exact ha
  · exact hb
theorem Yac {x : Clm} (h : JN x) {i : Nat} (hi : i < x.routes.length) : (0 ≤ x.bounds.getD i 0 ∧ x.bounds.getD i 0 < 10000) ∧ (0 ≤ x.worst.getD i 0 ∧ x.worst.getD i 0 < 10000) := by
  have h1 := h.bs _ (Vk (l := x.bounds) (i := i) (by rw [h.b]; exact hi))
  have h2 := h.ws _ (Vk (l := x.worst) (i := i) (by rw [h.w]; exact hi))
  omega
theorem Ydh {x : Clm} (h : JN x) {i : Nat} (hi : i < x.routes.length) : (rt3 x i).length ≤ 500 := by
  have h1 := h.rs i hi
  have h2 := h.ls i hi
  have h3 := Yac h hi
  have k1 := Xv (w := wordR) (JC (by decide) h1.2.2)
  have k2 := Xv (w := wordB) (QG h3.1 h3.2)
  have k3 := Xv (w := wordL) (JC (by decide) h2.2.2)
  have e1 : wordR.length = 5 := rfl
  have e2 : wordB.length = 5 := rfl
  have e3 : wordL.length = 5 := rfl
  simp only [List.length_cons, List.length_nil] at k2
  unfold rt3
  rw [List.length_append, List.length_append]
  omega
theorem Yaq {x : Clm} (h : JN x) : ∀ k, k ≤ x.routes.length → (clT x k).length ≤ 20 + 500 * k
  | 0, _ => by
    have k1 := Xv (w := wordF) (l := [x.flow]) fun n hn => by have := h.f; rw [List.mem_singleton.1 hn]; omega
    have e1 : wordF.length = 4 := rfl
    simp only [List.length_cons, List.length_nil] at k1
    unfold clT
    simp only [List.range_zero, List.flatMap_nil, List.append_nil]
    omega
  | k + 1, hk => by
    have ih := Yaq h k (by omega)
    have h1 := Ydh h (i := k) (by omega)
    rw [YbT, List.length_append]
    omega
theorem UJ {c : List Clm} (h : ∀ x ∈ c, JN x) : ∀ k, k ≤ c.length → (XN c k).length ≤ 1100 * k
  | 0, _ => by unfold XN; simp
  | k + 1, hk => by
    have ih := UJ h k (by omega)
    obtain ⟨x, hx⟩ : ∃ x, c[k]? = some x := ⟨_, List.getElem?_eq_getElem (by omega)⟩
    have hf := h x (List.mem_of_getElem? hx)
    have h1 := Yaq hf x.routes.length (Nat.le_refl _)
    have := hf.n
    rw [Yaj hx, List.length_append]
    omega
theorem ClM.In.here {c : ClM} {B : Nat} {w0 w : World} {H : List HP} (h : c.In B w0 H) (hw : St B w0 H w) : c.In w.heap.size w [] :=
  ⟨h.rt.here hw, fun r hr => (h.rw_ r hr).here hw, h.bd.here hw, h.ws.here hw, h.st.here hw, fun r hr => (h.sw r hr).here hw, h.ln, h.rl, h.sl⟩
theorem CIn.here {c : List ClM} {A : Option Addr} {B : Nat} {w0 w : World} {H : List HP} (h : CIn B w0 H A c) (hw : St B w0 H w) : CIn w.heap.size w [] A c := ⟨h.rd.here hw, fun x hx => (h.x x hx).here hw, h.ln⟩
structure PrM where
  i : Nat
  A : Option Addr
  cap : Nat
set_option maxRecDepth 10000 in
set_option maxHeartbeats 8000000 in
theorem YdT (c : List ClM) {A : Option Addr} {cap B : Nat} {w0 : World} {w : World} (ht : TabsB B w0) (hc : CIn B w0 [] A c) (hw : St B w0 [] w) :
    Calls Tryz.prog 25 [.slice A c.length cap].toArray w (Post B w0 fun v _ => v = .tuple #[strV (YU (c.map ClM.clm)).1, .int .i64 (YU (c.map ClM.clm)).2]) := by
  refine Yd Tryz.func25 Tryz.ntmps25 rfl rfl hw ?_
  have p1 := fun {H' : List HP} {w : World} (hc : CIn B w0 H' A c) (hw : St B w0 H' w) => OK c (cap := cap) hc hw
  have hcr := hc.rd
  cases hf : ZA (c.map ClM.clm) with
  | false =>
    rw [hf] at p1
    repeat' (first | ((first | apply Ya en75 | apply Yb en75); exact za; exact rfl; exact fun _ hw => (p1 (hc.mono zk) hw)) | apply (zs1 ?_) | apply (zs2 ?_) | (apply zg20; refine zs48 ?_) | apply (zs65 ?_) | apply (zs68 ?_) | apply (zs69 ?_) | apply (zs70 ?_) | (apply zg27; refine zs71 ?_) | apply (zs74 ?_) | apply (zs77 ?_) | fail)
    apply Yt; exact rfl; exact rfl; exact rfl
    rw [YU, if_pos hf]
  | true =>
    rw [hf] at p1
    obtain ⟨h16, hfd⟩ := Ob hf
    rw [List.length_map] at h16
    repeat' (first | ((first | apply Ya en75 | apply Yb en75); exact za; exact rfl; exact fun _ hw => (p1 (hc.mono zk) hw)) | apply (zs1 ?_) | apply (zs2 ?_) | (apply zg4; refine zs9 ?_) | (apply zg20; refine zs47 ?_) | (apply zg24; (refine zs54 ?_; intro _)) | apply (zs65 ?_) | apply (zs68 ?_) | apply (zs69 ?_) | apply (zs70 ?_) | (apply zg27; refine zs72 ?_) | apply (zs73 ?_) | apply (zs76 ?_) | fail)
    rename_i gb
    refine Yk (fun z : PrM => [(14, .int .i64 (z.i : Nat)), (13, .int .i64 c.length), (12, .slice A c.length cap), (4, .pointer (some ⟨gb, 0, none⟩))]) (fun z => bdP gb (if z.i = 0 then .pointer none else .pointer (some ⟨gb, 0, none⟩)) z.A z.cap (XN (c.map ClM.clm) z.i) []) (fun z => z.i ≤ c.length) (fun z => c.length - z.i) ⟨0, none, 0⟩ (Nat.zero_le _) ?_ ?_ ?_
    · exact zu
    · intro w hw
      have h5 : St B w0 [blk gb (.cells (Value.agg #[.pointer none, .slice none 0 0]).cells 132 (0, 0))] w := hw
      exact (h5.nilSlice 5 1).perm (.swap _ _ _)
    rintro ⟨k, A1, cap1⟩ hk K hK
    dsimp only at hk ⊢
    have htl := UJ hfd k (by rw [List.length_map]; exact hk)
    by_cases hlt : k < c.length
    rotate_left
    · obtain rfl : k = c.length := by omega
      obtain ⟨p, hp⟩ : ∃ p, (if c.length = 0 then Value.pointer none else .pointer (some ⟨gb, 0, none⟩)) = p := ⟨_, rfl⟩
      have hp2 : p = .pointer none ∨ p = .pointer (some ⟨gb, 0, none⟩) := by rw [← hp]; split <;> simp
      rw [hp]
      clear hK
      repeat' (first | (apply (zs17 ?_ ?_) <;> intro _ <;> try (exfalso; omega)) | apply (zs65 ?_) | apply (zs68 ?_) | apply (zs69 ?_) | apply (zs70 ?_) | (apply zg27; refine zs72 ?_) | apply (zs75 ?_) | apply (zs80 ?_) | apply (zs81 ?_) | fail)
      apply Ys _ en78
      exact za
      exact rfl
      exact fun _ hw => (U5 (l := XN (c.map ClM.clm) c.length) hp2 (hw))
      rintro _ _ ⟨rfl, rfl⟩
      repeat' (first | apply (zs2 ?_) | apply (zs65 ?_) | apply (zs68 ?_) | apply (zs74 ?_) | fail)
      apply Yt; exact rfl; exact rfl; exact rfl
      rw [YU, if_neg (by rw [hf]; decide), QQ hfd, List.length_map]
    obtain ⟨x, hx⟩ : ∃ x, c[k]? = some x := ⟨_, List.getElem?_eq_getElem hlt⟩
    have hxm := List.mem_of_getElem? hx
    have hxd := hfd x.clm (List.mem_map_of_mem hxm)
    have hxi := hc.x x hxm
    obtain ⟨p, hp⟩ : ∃ p, (if k = 0 then Value.pointer none else .pointer (some ⟨gb, 0, none⟩)) = p := ⟨_, rfl⟩
    have hp2 : p = .pointer none ∨ p = .pointer (some ⟨gb, 0, none⟩) := by rw [← hp]; split <;> simp
    rw [hp]
    unfold bdP
    repeat' (first | (apply zg2; refine zs6 ?_) | (apply zg3; first | refine zs7 ?_ | refine zs61 ?_) | (apply zg5; refine zs57 ?_) | (apply (zs17 ?_ ?_) <;> intro _ <;> try (exfalso; omega)) | (apply zg22; refine zs51 ?_) | (apply zg24; (refine zs54 ?_; intro _)) | (apply zg26; (refine zs56 ?_; intro _)) | apply (zs65 ?_) | apply (zs68 ?_) | apply (zs69 ?_) | apply (zs70 ?_) | (apply zg27; refine zs71 ?_) | apply (zs73 ?_) | apply (zs76 ?_) | fail)
    rename_i gx gl
    have hlen1 : x.clm.routes.length = x.rs.length := by show (x.rs.map (·.xs)).length = _; rw [List.length_map]
    have hxn := hxd.n
    rw [hlen1] at hxn
    have hbl : x.bs.length = x.rs.length := by have := hxd.b; rw [hlen1] at this; exact this
    have hwl : x.ws.length = x.rs.length := by have := hxd.w; rw [hlen1] at this; exact this
    have hsl : x.ss.length = x.rs.length := by have := hxd.s; rw [hlen1] at this; rw [← this]; show _ = (x.ss.map (·.xs)).length; rw [List.length_map]
    have hrl : ∀ X, Rd B w0 (blk gl (.cells #[.int .i64 x.flow] 3 (0, 0)) :: X) (some ⟨gl, 0, none⟩) ([x.flow].flatMap numF) := fun X => Rd.blk (cs := #[.int .i64 x.flow]) (.head _)
    have hfl : ∀ n ∈ [x.flow], 0 ≤ n ∧ n < 10000 := fun n hn => by
      have := hxd.f
      rw [List.mem_singleton.1 hn]
      exact ⟨this.1, by have := this.2; show x.clm.flow < _; omega⟩
    have hfl2 := Xv (w := wordF) hfl
    have e1 : wordF.length = 4 := rfl
    simp only [List.length_cons, List.length_nil] at hfl2
    first | apply Ya en77 | apply Yb en77
    exact za
    exact rfl
    exact fun _ hw => (JH wordF [x.flow] hfl (by show 1 ≤ 100; decide) (by decide) ht (hrl _) hw)
    apply QI (bdP gb p A1 cap1 (XN (c.map ClM.clm) k) [clA gx x])
    · unfold bdP
      exact zk
    apply Ys _ en76
    exact za
    exact rfl
    exact fun _ hw => (Jt gb p hp2 A1 cap1 (XN (c.map ClM.clm) k) (Xi wordF [x.flow]) (by omega) (hw))
    rintro _ _ ⟨rfl, A2, cap2, rfl⟩
    unfold bdP
    repeat' (first | apply (zs1 ?_) | (apply zg2; refine zs6 ?_) | (apply zg3; refine zs7 ?_) | (apply zg4; refine zs9 ?_) | apply (zs65 ?_) | apply (zs68 ?_) | apply (zs69 ?_) | apply (zs70 ?_) | apply (zs73 ?_) | fail)
    refine Yk (fun z : PrM => [(26, .int .i64 (z.i : Nat)), (25, .int .i64 x.rs.length), (24, .slice x.rA x.rs.length x.rcap), (6, .pointer (some ⟨gx, 0, none⟩)), (14, .int .i64 (k : Nat)), (13, .int .i64 c.length), (12, .slice A c.length cap), (4, .pointer (some ⟨gb, 0, none⟩))]) (fun z => bdP gb (.pointer (some ⟨gb, 0, none⟩)) z.A z.cap (XN (c.map ClM.clm) k ++ clT x.clm z.i) [clA gx x]) (fun z => z.i ≤ x.rs.length) (fun z => x.rs.length - z.i) ⟨0, A2, cap2⟩ (Nat.zero_le _) ?_ ?_ ?_
    · exact zu
    · have e0 : clT x.clm 0 = Xi wordF [x.flow] := by unfold clT; simp; rfl
      rw [e0]
      unfold bdP
      exact fun w hw => hw
    rintro ⟨j, A3, cap3⟩ hj K2 hK2
    dsimp only at hj ⊢
    have hcl2 := Yaq hxd j (by rw [hlen1]; exact hj)
    unfold bdP
    by_cases hjl : j < x.rs.length
    rotate_left
    · obtain rfl : j = x.rs.length := by omega
      clear hK2
      have hst : XN (c.map ClM.clm) (k + 1) = XN (c.map ClM.clm) k ++ clT x.clm x.rs.length := by
        rw [Yaj (x := x.clm) (by rw [List.getElem?_map, hx]; rfl), hlen1]
      rw [← hst]
      repeat' (first | apply (zs1 ?_) | (apply (zs17 ?_ ?_) <;> intro _ <;> try (exfalso; omega)) | (apply zg13; refine zs30 ?_) | apply (zs65 ?_) | apply (zs68 ?_) | apply (zs69 ?_) | apply (zs70 ?_) | (apply zg27; refine zs72 ?_) | apply (zs75 ?_) | apply (zs79 ?_) | apply (zs80 ?_) | apply (zs81 ?_) | fail)
      apply hK ⟨k + 1, A3, cap3⟩
      · show k + 1 ≤ c.length
        omega
      · dsimp only; omega
      · exact zu
      · dsimp only
        rw [if_neg (Nat.succ_ne_zero k)]
        unfold bdP
        exact zk
    obtain ⟨r, hr⟩ : ∃ r, x.rs[j]? = some r := ⟨_, List.getElem?_eq_getElem hjl⟩
    obtain ⟨z, hz⟩ : ∃ z, x.ss[j]? = some z := ⟨_, List.getElem?_eq_getElem (by omega)⟩
    obtain ⟨bv, hbv⟩ : ∃ b, x.bs[j]? = some b := ⟨_, List.getElem?_eq_getElem (by omega)⟩
    obtain ⟨wv, hwv⟩ : ∃ b, x.ws[j]? = some b := ⟨_, List.getElem?_eq_getElem (by omega)⟩
    have hrm := List.mem_of_getElem? hr
    have hzm := List.mem_of_getElem? hz
    have hjc : j < x.clm.routes.length := by omega
    have g1 : rtAt x.clm.routes j = r.xs := Vp hr
    have g2 : rtAt x.clm.slots j = z.xs := Vp hz
    have g3 : x.clm.bounds.getD j 0 = bv := by show x.bs.getD j 0 = bv; rw [List.getD_eq_getElem?_getD, hbv]; rfl
    have g4 : x.clm.worst.getD j 0 = wv := by show x.ws.getD j 0 = wv; rw [List.getD_eq_getElem?_getD, hwv]; rfl
    have n1 := hxd.rs j hjc
    have n2 := hxd.ls j hjc
    have n3 := Yac hxd hjc
    have hr3 := Ydh hxd hjc
    have hst := YbT x.clm j
    unfold rt3 at hr3 hst
    rw [g1, g2, g3, g4] at hr3 hst
    rw [g1] at n1
    rw [g2] at n2
    rw [g3, g4] at n3
    have m1 := JC (b := 31) (by decide) n1.2.2
    have m2 := JC (b := 511) (by decide) n2.2.2
    have m3 := QG n3.1 n3.2
    have l1 := fun {H' : List HP} {w : World} (hr : Rd B w0 H' r.A (r.xs.flatMap numF)) (hw : St B w0 H' w) => JH wordR r.xs m1 (by omega) (by decide) (cap := r.cap) ht hr hw
    have l2 := fun {g : Nat} {cap : Nat} {H' : List HP} {w : World} (hm : blk g (.cells #[.int .i64 bv, .int .i64 wv] 3 (0, 0)) ∈ H') (hw : St B w0 H' w) => JH wordB [bv, wv] m3 (by show 2 ≤ 100; decide) (by decide) (A := some ⟨g, 0, none⟩) (cap := cap) ht (show Rd B w0 H' _ ([bv, wv].flatMap numF) from Rd.blk hm) hw
    have l3 := fun {H' : List HP} {w : World} (hr : Rd B w0 H' z.A (z.xs.flatMap numF)) (hw : St B w0 H' w) => JH wordL z.xs m2 (by omega) (by decide) (cap := z.cap) ht hr hw
    obtain ⟨s1, hs1⟩ : ∃ s, Xi wordR r.xs = s := ⟨_, rfl⟩
    obtain ⟨s2, hs2⟩ : ∃ s, Xi wordB [bv, wv] = s := ⟨_, rfl⟩
    obtain ⟨s3, hs3⟩ : ∃ s, Xi wordL z.xs = s := ⟨_, rfl⟩
    rw [hs1] at l1 hr3 hst
    rw [hs2] at l2 hr3 hst
    rw [hs3] at l3 hr3 hst
    rw [List.length_append, List.length_append] at hr3
    have hrr := hxi.rt
    have hbr := hxi.bd
    have hwr := hxi.ws
    have hsr := hxi.st
    repeat' (first | apply (zs1 ?_) | apply (zs2 ?_) | (apply zg3; refine zs60 ?_) | (apply zg5; refine zs57 ?_) | (apply (zs17 ?_ ?_) <;> intro _ <;> try (exfalso; omega)) | apply (zs65 ?_) | apply (zs68 ?_) | apply (zs69 ?_) | apply (zs70 ?_) | (apply zg27; refine zs71 ?_) | apply (zs73 ?_) | apply (zs76 ?_) | fail)
    apply WQ (.n1 0 (.n1 2 (.n1 3 (.n1 4 (.n1 5 (.n1 6 (.n1 7 (.n1 8 (.n1 9 (.n1 10 (.n1 11 (.n1 15 (.n1 16 (.n1 17 (.n1 18 (.n1 19 (.n2 1 (.n1 12 (.n1 13 (.n1 14 (.n1 20 (.n1 21 .done))))) 12 (.n1 1 (.n1 13 (.n1 14 (.n1 20 (.n1 21 .done)))))))))))))))))))))) [22] [false, false, true]
    kernel_rfl
    kernel_rfl
    exact zy
    (simp only [Yi, nthO]; rfl)
    repeat' (first | apply (zs1 ?_) | (apply zg2; refine zs6 ?_) | (apply zg3; first | refine zs7 ?_ | refine zs60 ?_) | (apply zg5; refine zs57 ?_) | (apply zg26; (refine zs56 ?_; intro _)) | apply (zs65 ?_) | (apply Yp; exact zp) | apply (zs87 ?_) | (apply Ym; (repeat (first | with_reducible exact Yh | (with_reducible apply Yg; (repeat (first | with_reducible exact Yf | with_reducible apply Ye)))))) | apply (zs90 ?_) | apply (zs91 ?_ ?_) | (apply X5; (repeat (first | with_reducible exact Yh | (with_reducible apply Yg; (repeat (first | with_reducible exact Yf | with_reducible apply Ye)))))) | fail)
    all_goals (
      first | apply Ya en77 | apply Yb en77
      exact za
      exact rfl
      exact fun _ hw => (l1 ((hxi.rw_ r hrm).mono zk) hw)
      repeat' (first | (apply zg26; (refine zs56 ?_; intro _)) | apply (zs65 ?_) | (apply Yp; exact zp) | apply (zs87 ?_) | (apply Ym; (repeat (first | with_reducible exact Yh | (with_reducible apply Yg; (repeat (first | with_reducible exact Yf | with_reducible apply Ye)))))) | apply (zs90 ?_) | (apply X5; (repeat (first | with_reducible exact Yh | (with_reducible apply Yg; (repeat (first | with_reducible exact Yf | with_reducible apply Ye)))))) | fail)
      first | apply Ya en77 | apply Yb en77
      exact za
      exact rfl
      exact fun _ hw => (l2 zm hw)
      repeat' (first | (apply Vh s1 s2; exact rfl; exact rfl; exact rfl; omega) | apply (zs65 ?_) | (apply Yp; exact zp) | apply (zs87 ?_) | (apply Ym; (repeat (first | with_reducible exact Yh | (with_reducible apply Yg; (repeat (first | with_reducible exact Yf | with_reducible apply Ye)))))) | apply (zs90 ?_) | (apply X5; (repeat (first | with_reducible exact Yh | (with_reducible apply Yg; (repeat (first | with_reducible exact Yf | with_reducible apply Ye)))))) | fail)
      first | apply Ya en77 | apply Yb en77
      exact za
      exact rfl
      exact fun _ hw => (l3 ((hxi.sw z hzm).mono zk) hw)
      repeat' (first | (apply Vh (s1 ++ s2) s3; exact rfl; exact rfl; exact rfl; (rw [List.length_append]; omega)) | apply (zs65 ?_) | (apply Yp; exact zp) | (apply Ym; (repeat (first | with_reducible exact Yh | (with_reducible apply Yg; (repeat (first | with_reducible exact Yf | with_reducible apply Ye)))))) | (apply WK; exact zp) | apply (zs90 ?_) | (apply X5; (repeat (first | with_reducible exact Yh | (with_reducible apply Yg; (repeat (first | with_reducible exact Yf | with_reducible apply Ye)))))) | apply (zs93 ?_) | fail)
      apply QI (bdP gb (.pointer (some ⟨gb, 0, none⟩)) A3 cap3 (XN (c.map ClM.clm) k ++ clT x.clm j) [clA gx x])
      · unfold bdP
        exact zk
      apply Ys _ en76
      exact za
      exact rfl
      exact fun _ hw => (Jt gb _ (.inr rfl) A3 cap3 (XN (c.map ClM.clm) k ++ clT x.clm j) (s1 ++ s2 ++ s3) (by rw [List.length_append, List.length_append, List.length_append]; omega) (hw))
      rintro _ _ ⟨rfl, A4, cap4, rfl⟩
      repeat' (first | apply (zs1 ?_) | (apply zg13; refine zs30 ?_) | apply (zs65 ?_) | apply (zs68 ?_) | apply (zs70 ?_) | apply (zs79 ?_) | apply (zs94 ?_) | fail)
      apply hK2 ⟨j + 1, A4, cap4⟩
      · show j + 1 ≤ x.rs.length
        omega
      · dsimp only; omega
      · exact zu
      · dsimp only
        intro w hw
        rw [hst, show XN (c.map ClM.clm) k ++ (clT x.clm j ++ (s1 ++ s2 ++ s3)) = XN (c.map ClM.clm) k ++ clT x.clm j ++ (s1 ++ s2 ++ s3) from (List.append_assoc _ _ _).symm]
        exact hw)
theorem ZT (c : List ClM) {A : Option Addr} {cap B : Nat} {w0 : World} {H : List HP} {w : World} (ht : TabsB B w0) (hc : CIn B w0 H A c) (hw : St B w0 H w) :
    Calls Tryz.prog 25 [.slice A c.length cap].toArray w (Post B w0 fun v K => v = .tuple #[strV (YU (c.map ClM.clm)).1, .int .i64 (YU (c.map ClM.clm)).2] ∧ K = H) :=
  Wf hw (YdT c (ht.here hw) (hc.here hw) (St.start w))
end Go.Proofs.YtmalhidldgfeoaaGreatDoor
namespace Go.Eng
open Go.RowKit
section
variable {P : Program} {B : Nat} {w0 : World} {Q : Exit → Act → World → Prop} {env : Env} {H : List HP} {m : Mode} {n : Shp} {ops : Array Oper} {rest : List Oper} {d : Nat} {ty : TypeId} {pos : String} {after : Array Edge}
theorem Yv {t : Nat} {x y : Operand} {u v z : Value} (hx : evo env x = some u) (hy : evo env y = some v) (hn : Nat.ble (d + 1) n.k = true) (hr : ∀ w, (Instr.index t u v).run P w = .ok z w) (h : VL P m n B w0 ops Q rest ((d, z) :: env) H) :
    VL P m n B w0 ops Q (⟨some d, .index t x y, ty, pos, after, none⟩ :: rest) env H := by
  refine Yu rfl rfl hn rfl (fun a w ha hw => ?_) h
  simp [execOp, ha.eval hx, ha.eval hy, hr]
theorem Yw {t f : Nat} {x : Operand} {u z : Value} (hx : evo env x = some u) (hn : Nat.ble (d + 1) n.k = true) (hr : ∀ w, (Instr.field t u f).run P w = .ok z w) (h : VL P m n B w0 ops Q rest ((d, z) :: env) H) :
    VL P m n B w0 ops Q (⟨some d, .field t x f, ty, pos, after, none⟩ :: rest) env H := by
  refine Yu rfl rfl hn rfl (fun a w ha hw => ?_) h
  simp [execOp, ha.eval hx, hr]
end
end Go.Eng
namespace Go.Proofs.YtmalhidldgfeoaaGreatDoor
open Go.RowKit Go.Eng Go.Nw Go.Rt
def Ye8 (k : Nat) : Value := .agg #[strV (Xj k), .int .i64 (Z1 k : Nat), .int .i64 (J6 k : Nat), .int .i64 (YV k : Nat)]
def ZX : Value := .agg #[.string ⟨#[102, 108, 111, 119]⟩, .int .i64 1, .int .i64 1, .int .i64 3, .string ⟨#[114, 111, 117, 116, 101]⟩, .int .i64 2, .int .i64 9, .int .i64 0, .string ⟨#[98, 111, 117, 110, 100]⟩, .int .i64 2, .int .i64 2, .int .i64 1, .string ⟨#[115, 108, 111, 116, 115]⟩, .int .i64 1, .int .i64 64, .int .i64 2]
theorem Wr {B : Nat} {w0 : World} {H : List HP} {w : World} (hw : St B w0 H w) :
    Calls Tryz.prog 142 ([] : List Value).toArray w (Post B w0 fun v K => v = ZX ∧ K = H) := by
  refine Yd Tryz.func142 Tryz.ntmps142 rfl rfl hw ?_
  repeat' (first | (apply zg22; refine zs51 ?_) | (apply zg24; (refine zs54 ?_; intro _)) | (apply zg25; refine zs55 ?_) | apply (zs65 ?_) | apply (zs68 ?_) | apply (zs69 ?_) | apply (zs70 ?_) | apply (zs74 ?_) | fail)
  (apply YbG T (H2 := H); exact rfl; exact rfl; exact zm; exact rfl; exact rfl; exact zk; exact ⟨rfl, rfl⟩)
theorem Yeo (w : World) : (Instr.index 213 ZX (.int .i64 0)).run Tryz.prog w = .ok (.agg #[.string ⟨#[102, 108, 111, 119]⟩, .int .i64 1, .int .i64 1, .int .i64 3]) w := by kernel_rfl
theorem Yew (w : World) : (Instr.index 213 ZX (.int .i64 1)).run Tryz.prog w = .ok (.agg #[.string ⟨#[114, 111, 117, 116, 101]⟩, .int .i64 2, .int .i64 9, .int .i64 0]) w := by kernel_rfl
theorem Yd6 (w : World) : (Instr.index 213 ZX (.int .i64 2)).run Tryz.prog w = .ok (.agg #[.string ⟨#[98, 111, 117, 110, 100]⟩, .int .i64 2, .int .i64 2, .int .i64 1]) w := by kernel_rfl
theorem Yer (w : World) : (Instr.index 213 ZX (.int .i64 3)).run Tryz.prog w = .ok (.agg #[.string ⟨#[115, 108, 111, 116, 115]⟩, .int .i64 1, .int .i64 64, .int .i64 2]) w := by kernel_rfl
theorem YS {k : Nat} (hk : k < 4) (w : World) : (Instr.index 213 ZX (.int .i64 (k : Nat))).run Tryz.prog w = .ok (Ye8 k) w := by
  match k, hk with
  | 0, _ => exact Yeo w
  | 1, _ => exact Yew w
  | 2, _ => exact Yd6 w
  | 3, _ => exact Yer w
theorem Qk (w : World) : (Instr.field 212 (.agg #[.string ⟨#[102, 108, 111, 119]⟩, .int .i64 1, .int .i64 1, .int .i64 3]) 3).run Tryz.prog w = .ok (.int .i64 3) w := by kernel_rfl
theorem Qx (w : World) : (Instr.field 212 (.agg #[.string ⟨#[114, 111, 117, 116, 101]⟩, .int .i64 2, .int .i64 9, .int .i64 0]) 3).run Tryz.prog w = .ok (.int .i64 0) w := by kernel_rfl
theorem Qr (w : World) : (Instr.field 212 (.agg #[.string ⟨#[98, 111, 117, 110, 100]⟩, .int .i64 2, .int .i64 2, .int .i64 1]) 3).run Tryz.prog w = .ok (.int .i64 1) w := by kernel_rfl
theorem Qy (w : World) : (Instr.field 212 (.agg #[.string ⟨#[115, 108, 111, 116, 115]⟩, .int .i64 1, .int .i64 64, .int .i64 2]) 3).run Tryz.prog w = .ok (.int .i64 2) w := by kernel_rfl
theorem Yx {k : Nat} (hk : k < 4) (w : World) : (Instr.field 212 (Ye8 k) 3).run Tryz.prog w = .ok (.int .i64 (YV k : Nat)) w := by
  match k, hk with
  | 0, _ => exact Qk w
  | 1, _ => exact Qx w
  | 2, _ => exact Qr w
  | 3, _ => exact Qy w
abbrev rdrA (g : Nat) (A : Option Addr) (cap : Nat) (C : List ClM) (last : Nat) : HP := blk g (.cells #[.slice A C.length cap, .int .i64 (last : Nat)] 144 (0, 0))
set_option maxRecDepth 10000 in
set_option maxHeartbeats 4000000 in
theorem Yey (g : Nat) (A : Option Addr) (cap : Nat) (C : List ClM) (last k : Nat) (hk : k < 4) (hl3 : last < 4) (hC : C.length ≤ 1000000) (hCr : ∀ c ∈ C, c.rs.length ≤ 1000000) {B : Nat} {w0 : World} {H : List HP} {w : World} (hm : rdrA g A cap C last ∈ H) (hr : Rd B w0 H A (C.flatMap clF)) (hw : St B w0 H w) :
    Calls Tryz.prog 144 [.pointer (some ⟨g, 0, none⟩), .int .i64 (k : Nat)].toArray w (Post B w0 fun v K => v = .bool (Zc ⟨C.map ClM.clm, last⟩ k) ∧ K = H) := by
  refine Yd Tryz.func144 Tryz.ntmps144 rfl rfl hw ?_
  have p1 := fun {w : World} (hw : St B w0 H w) => Wr hw
  obtain ⟨F, hF⟩ : ∃ F, Zc ⟨C.map ClM.clm, last⟩ k = F := ⟨_, rfl⟩
  rw [hF]
  have hFe : F = (decide (last = YV k) || (decide (k = 1) && decide (last = 3) && decide (0 < C.length) && decide ((Wk (C.map ClM.clm)).routes.length < 2))) := by
    rw [← hF]; unfold Zc; simp only [List.length_map]
  clear hF
  cases hsec : (decide (k = 1) && decide (last = 3) && decide (0 < C.length) && decide ((Wk (C.map ClM.clm)).routes.length < 2)) with
  | true =>
    rw [hsec, Bool.or_true] at hFe
    subst hFe
    simp only [Bool.and_eq_true, decide_eq_true_eq] at hsec
    obtain ⟨⟨⟨h1, h2⟩, h3⟩, h4⟩ := hsec
    obtain ⟨x, hx⟩ : ∃ x, C[C.length - 1]? = some x := ⟨_, List.getElem?_eq_getElem (by omega)⟩
    have hx2 : C[((C.length : Int) - 1).toNat]? = some x := by rw [show ((C.length : Int) - 1).toNat = C.length - 1 by omega]; exact hx
    have h5 : x.rs.length < 2 := by
      unfold Wk at h4
      rw [List.length_map, Zp hx] at h4
      have : x.clm.routes.length = x.rs.length := by show (x.rs.map (·.xs)).length = _; rw [List.length_map]
      omega
    by_cases hb : last = YV k
    all_goals (
      repeat' (first | apply (zs1 ?_) | apply (zs2 ?_) | (apply zg1; refine zs4 ?_) | apply (zs5 ?_) | (apply zg2; first | refine zs6 ?_ | refine zs58 ?_) | (apply zg3; first | refine zs7 ?_ | refine zs59 ?_) | (apply zg4; refine zs9 ?_) | (apply zg5; refine zs57 ?_) | (apply zg6; refine zs11 ?_) | (apply zg7; (refine zs15 ?_ ?_ <;> intro _ <;> try (exfalso; omega))) | (apply (zs17 ?_ ?_) <;> intro _ <;> try (exfalso; omega)) | (apply (zs19 ?_ ?_) <;> intro _ <;> try (exfalso; omega)) | (apply zg14; refine zs31 ?_) | apply (zs65 ?_) | apply (zs66 ?_) | apply (zs68 ?_) | apply (zs69 ?_) | apply (zs70 ?_) | (apply zg28; refine zs83 ?_) | fail)
      apply YF [0, 1, 2, 3, 5, 4, 6, 7, 8, 9, 10, 11, 12] []
      kernel_rfl
      kernel_rfl
      (simp only [Yi, nthO]; rfl)
      exact rfl
      repeat' (first | apply (zs1 ?_) | apply (zs5 ?_) | (apply zg2; refine zs6 ?_) | (apply zg3; refine zs7 ?_) | apply (zs87 ?_) | fail)
      first | apply Ya Zf | apply Yb Zf
      exact za
      exact rfl
      exact fun _ hw => (p1 hw)
      repeat' (first | (apply Yv; exact rfl; exact rfl; exact rfl; exact YS hk) | (apply Yw; exact rfl; exact rfl; exact Yx hk) | apply (zs1 ?_) | apply (zs2 ?_) | (apply zg1; first | refine zs3 ?_ | refine zs4 ?_) | (apply zg6; first | refine zs11 ?_ | refine zs12 ?_) | (apply zg7; (refine zs15 ?_ ?_ <;> intro _ <;> try (exfalso; omega))) | apply (zs65 ?_) | (apply Yp; exact zp) | apply (zs68 ?_) | apply (zs74 ?_) | (apply Ym; (repeat (first | with_reducible exact Yh | (with_reducible apply Yg; (repeat (first | with_reducible exact Yf | with_reducible apply Ye)))))) | apply (zs93 ?_) | apply (zs94 ?_) | fail)
      · show Perm H (H ++ [])
        rw [List.append_nil]; exact Perm.refl _
      repeat' (first | (apply Yv; exact rfl; exact rfl; exact rfl; exact YS hk) | (apply Yw; exact rfl; exact rfl; exact Yx hk) | fail)
      apply Yc; exact rfl; exact rfl; exact ⟨rfl, rfl⟩)
  | false =>
    rw [hsec, Bool.or_false] at hFe
    by_cases h1 : k = 1
    rotate_left
    · by_cases hb : last = YV k
      · rw [decide_eq_true hb] at hFe
        subst hFe
        repeat' (first | apply (zs1 ?_) | apply (zs2 ?_) | (apply zg1; refine zs3 ?_) | (apply zg6; refine zs12 ?_) | (apply zg7; (refine zs15 ?_ ?_ <;> intro _ <;> try (exfalso; omega))) | apply (zs65 ?_) | apply (zs66 ?_) | apply (zs68 ?_) | apply (zs69 ?_) | apply (zs70 ?_) | (apply zg28; refine zs83 ?_) | fail)
        apply YF [0, 1, 2, 3, 5, 4, 6, 7, 8, 9, 10, 11, 12] []
        kernel_rfl
        kernel_rfl
        (simp only [Yi, nthO]; rfl)
        exact rfl
        repeat' (first | apply (zs1 ?_) | apply (zs5 ?_) | (apply zg2; refine zs6 ?_) | (apply zg3; refine zs7 ?_) | apply (zs87 ?_) | fail)
        first | apply Ya Zf | apply Yb Zf
        exact za
        exact rfl
        exact fun _ hw => (p1 hw)
        repeat' (first | (apply Yv; exact rfl; exact rfl; exact rfl; exact YS hk) | (apply Yw; exact rfl; exact rfl; exact Yx hk) | apply (zs1 ?_) | apply (zs2 ?_) | (apply zg1; refine zs3 ?_) | (apply zg6; refine zs11 ?_) | (apply zg7; (refine zs15 ?_ ?_ <;> intro _ <;> try (exfalso; omega))) | apply (zs65 ?_) | (apply Yp; exact zp) | apply (zs68 ?_) | apply (zs74 ?_) | (apply Ym; (repeat (first | with_reducible exact Yh | (with_reducible apply Yg; (repeat (first | with_reducible exact Yf | with_reducible apply Ye)))))) | apply (zs93 ?_) | apply (zs94 ?_) | fail)
        · show Perm H (H ++ [])
          rw [List.append_nil]; exact Perm.refl _
        repeat' (first | (apply Yv; exact rfl; exact rfl; exact rfl; exact YS hk) | (apply Yw; exact rfl; exact rfl; exact Yx hk) | fail)
        apply Yc; exact rfl; exact rfl; exact ⟨rfl, rfl⟩
      · rw [decide_eq_false hb] at hFe
        subst hFe
        repeat' (first | apply (zs1 ?_) | apply (zs2 ?_) | (apply zg1; refine zs3 ?_) | (apply zg6; refine zs12 ?_) | (apply zg7; (refine zs15 ?_ ?_ <;> intro _ <;> try (exfalso; omega))) | apply (zs65 ?_) | apply (zs66 ?_) | apply (zs68 ?_) | apply (zs69 ?_) | apply (zs70 ?_) | (apply zg28; refine zs83 ?_) | fail)
        apply YF [0, 1, 2, 3, 5, 4, 6, 7, 8, 9, 10, 11, 12] []
        kernel_rfl
        kernel_rfl
        (simp only [Yi, nthO]; rfl)
        exact rfl
        repeat' (first | apply (zs1 ?_) | apply (zs5 ?_) | (apply zg2; refine zs6 ?_) | (apply zg3; refine zs7 ?_) | apply (zs87 ?_) | fail)
        first | apply Ya Zf | apply Yb Zf
        exact za
        exact rfl
        exact fun _ hw => (p1 hw)
        repeat' (first | (apply Yv; exact rfl; exact rfl; exact rfl; exact YS hk) | (apply Yw; exact rfl; exact rfl; exact Yx hk) | apply (zs1 ?_) | apply (zs2 ?_) | (apply zg1; refine zs4 ?_) | (apply zg6; refine zs12 ?_) | (apply zg7; (refine zs15 ?_ ?_ <;> intro _ <;> try (exfalso; omega))) | apply (zs65 ?_) | (apply Yp; exact zp) | apply (zs68 ?_) | apply (zs74 ?_) | (apply Ym; (repeat (first | with_reducible exact Yh | (with_reducible apply Yg; (repeat (first | with_reducible exact Yf | with_reducible apply Ye)))))) | apply (zs93 ?_) | apply (zs94 ?_) | fail)
        · show Perm H (H ++ [])
          rw [List.append_nil]; exact Perm.refl _
        repeat' (first | (apply Yv; exact rfl; exact rfl; exact rfl; exact YS hk) | (apply Yw; exact rfl; exact rfl; exact Yx hk) | fail)
        apply Yc; exact rfl; exact rfl; exact ⟨rfl, rfl⟩
    by_cases h2 : last = 3
    rotate_left
    · by_cases hb : last = YV k
      · rw [decide_eq_true hb] at hFe
        subst hFe
        repeat' (first | apply (zs1 ?_) | apply (zs2 ?_) | (apply zg1; first | refine zs3 ?_ | refine zs4 ?_) | apply (zs5 ?_) | (apply zg2; refine zs6 ?_) | (apply zg3; refine zs7 ?_) | (apply zg6; first | refine zs11 ?_ | refine zs12 ?_) | (apply zg7; (refine zs15 ?_ ?_ <;> intro _ <;> try (exfalso; omega))) | apply (zs65 ?_) | apply (zs66 ?_) | apply (zs68 ?_) | apply (zs69 ?_) | apply (zs70 ?_) | (apply zg28; refine zs83 ?_) | fail)
        apply YF [0, 1, 2, 3, 5, 4, 6, 7, 8, 9, 10, 11, 12] []
        kernel_rfl
        kernel_rfl
        (simp only [Yi, nthO]; rfl)
        exact rfl
        repeat' (first | apply (zs1 ?_) | apply (zs5 ?_) | (apply zg2; refine zs6 ?_) | (apply zg3; refine zs7 ?_) | apply (zs87 ?_) | fail)
        first | apply Ya Zf | apply Yb Zf
        exact za
        exact rfl
        exact fun _ hw => (p1 hw)
        repeat' (first | (apply Yv; exact rfl; exact rfl; exact rfl; exact YS hk) | (apply Yw; exact rfl; exact rfl; exact Yx hk) | apply (zs1 ?_) | apply (zs2 ?_) | (apply zg1; refine zs3 ?_) | (apply zg6; refine zs11 ?_) | (apply zg7; (refine zs15 ?_ ?_ <;> intro _ <;> try (exfalso; omega))) | apply (zs65 ?_) | (apply Yp; exact zp) | apply (zs68 ?_) | apply (zs74 ?_) | (apply Ym; (repeat (first | with_reducible exact Yh | (with_reducible apply Yg; (repeat (first | with_reducible exact Yf | with_reducible apply Ye)))))) | apply (zs93 ?_) | apply (zs94 ?_) | fail)
        · show Perm H (H ++ [])
          rw [List.append_nil]; exact Perm.refl _
        repeat' (first | (apply Yv; exact rfl; exact rfl; exact rfl; exact YS hk) | (apply Yw; exact rfl; exact rfl; exact Yx hk) | fail)
        apply Yc; exact rfl; exact rfl; exact ⟨rfl, rfl⟩
      · rw [decide_eq_false hb] at hFe
        subst hFe
        repeat' (first | apply (zs1 ?_) | apply (zs2 ?_) | (apply zg1; first | refine zs3 ?_ | refine zs4 ?_) | apply (zs5 ?_) | (apply zg2; refine zs6 ?_) | (apply zg3; refine zs7 ?_) | (apply zg6; first | refine zs11 ?_ | refine zs12 ?_) | (apply zg7; (refine zs15 ?_ ?_ <;> intro _ <;> try (exfalso; omega))) | apply (zs65 ?_) | apply (zs66 ?_) | apply (zs68 ?_) | apply (zs69 ?_) | apply (zs70 ?_) | (apply zg28; refine zs83 ?_) | fail)
        apply YF [0, 1, 2, 3, 5, 4, 6, 7, 8, 9, 10, 11, 12] []
        kernel_rfl
        kernel_rfl
        (simp only [Yi, nthO]; rfl)
        exact rfl
        repeat' (first | apply (zs1 ?_) | apply (zs5 ?_) | (apply zg2; refine zs6 ?_) | (apply zg3; refine zs7 ?_) | apply (zs87 ?_) | fail)
        first | apply Ya Zf | apply Yb Zf
        exact za
        exact rfl
        exact fun _ hw => (p1 hw)
        repeat' (first | (apply Yv; exact rfl; exact rfl; exact rfl; exact YS hk) | (apply Yw; exact rfl; exact rfl; exact Yx hk) | apply (zs1 ?_) | apply (zs2 ?_) | (apply zg1; refine zs4 ?_) | (apply zg6; refine zs12 ?_) | (apply zg7; (refine zs15 ?_ ?_ <;> intro _ <;> try (exfalso; omega))) | apply (zs65 ?_) | (apply Yp; exact zp) | apply (zs68 ?_) | apply (zs74 ?_) | (apply Ym; (repeat (first | with_reducible exact Yh | (with_reducible apply Yg; (repeat (first | with_reducible exact Yf | with_reducible apply Ye)))))) | apply (zs93 ?_) | apply (zs94 ?_) | fail)
        · show Perm H (H ++ [])
          rw [List.append_nil]; exact Perm.refl _
        repeat' (first | (apply Yv; exact rfl; exact rfl; exact rfl; exact YS hk) | (apply Yw; exact rfl; exact rfl; exact Yx hk) | fail)
        apply Yc; exact rfl; exact rfl; exact ⟨rfl, rfl⟩
    have hb : ¬ last = YV k := by subst h1; subst h2; decide
    rw [decide_eq_false hb] at hFe
    subst hFe
    by_cases h3 : 0 < C.length
    rotate_left
    · repeat' (first | apply (zs1 ?_) | apply (zs2 ?_) | (apply zg1; first | refine zs3 ?_ | refine zs4 ?_) | apply (zs5 ?_) | (apply zg2; refine zs6 ?_) | (apply zg3; refine zs7 ?_) | (apply zg4; refine zs9 ?_) | (apply zg6; first | refine zs11 ?_ | refine zs12 ?_) | (apply zg7; (refine zs15 ?_ ?_ <;> intro _ <;> try (exfalso; omega))) | (apply (zs19 ?_ ?_) <;> intro _ <;> try (exfalso; omega)) | apply (zs65 ?_) | apply (zs66 ?_) | apply (zs68 ?_) | apply (zs69 ?_) | apply (zs70 ?_) | (apply zg28; refine zs83 ?_) | fail)
      apply YF [0, 1, 2, 3, 5, 4, 6, 7, 8, 9, 10, 11, 12] []
      kernel_rfl
      kernel_rfl
      (simp only [Yi, nthO]; rfl)
      exact rfl
      repeat' (first | apply (zs1 ?_) | apply (zs5 ?_) | (apply zg2; refine zs6 ?_) | (apply zg3; refine zs7 ?_) | apply (zs87 ?_) | fail)
      first | apply Ya Zf | apply Yb Zf
      exact za
      exact rfl
      exact fun _ hw => (p1 hw)
      repeat' (first | (apply Yv; exact rfl; exact rfl; exact rfl; exact YS hk) | (apply Yw; exact rfl; exact rfl; exact Yx hk) | apply (zs1 ?_) | apply (zs2 ?_) | (apply zg1; refine zs4 ?_) | (apply zg6; refine zs12 ?_) | (apply zg7; (refine zs15 ?_ ?_ <;> intro _ <;> try (exfalso; omega))) | apply (zs65 ?_) | (apply Yp; exact zp) | apply (zs68 ?_) | apply (zs74 ?_) | (apply Ym; (repeat (first | with_reducible exact Yh | (with_reducible apply Yg; (repeat (first | with_reducible exact Yf | with_reducible apply Ye)))))) | apply (zs93 ?_) | apply (zs94 ?_) | fail)
      · show Perm H (H ++ [])
        rw [List.append_nil]; exact Perm.refl _
      repeat' (first | (apply Yv; exact rfl; exact rfl; exact rfl; exact YS hk) | (apply Yw; exact rfl; exact rfl; exact Yx hk) | fail)
      apply Yc; exact rfl; exact rfl; exact ⟨rfl, rfl⟩
    obtain ⟨x, hx⟩ : ∃ x, C[C.length - 1]? = some x := ⟨_, List.getElem?_eq_getElem (by omega)⟩
    have hx2 : C[((C.length : Int) - 1).toNat]? = some x := by rw [show ((C.length : Int) - 1).toNat = C.length - 1 by omega]; exact hx
    rw [decide_eq_true h1, decide_eq_true h2, decide_eq_true h3, Bool.true_and, Bool.true_and, Bool.true_and] at hsec
    have h4 := of_decide_eq_false hsec
    have h5 : ¬ x.rs.length < 2 := by
      unfold Wk at h4
      rw [List.length_map, Zp hx] at h4
      have : x.clm.routes.length = x.rs.length := by show (x.rs.map (·.xs)).length = _; rw [List.length_map]
      omega
    have h6 := hCr x (List.mem_of_getElem? hx)
    repeat' (first | apply (zs1 ?_) | apply (zs2 ?_) | (apply zg1; refine zs4 ?_) | apply (zs5 ?_) | (apply zg2; first | refine zs6 ?_ | refine zs58 ?_) | (apply zg3; first | refine zs7 ?_ | refine zs59 ?_) | (apply zg4; refine zs9 ?_) | (apply zg5; refine zs57 ?_) | (apply zg6; refine zs11 ?_) | (apply zg7; (refine zs15 ?_ ?_ <;> intro _ <;> try (exfalso; omega))) | (apply (zs17 ?_ ?_) <;> intro _ <;> try (exfalso; omega)) | (apply (zs19 ?_ ?_) <;> intro _ <;> try (exfalso; omega)) | (apply zg14; refine zs31 ?_) | apply (zs65 ?_) | apply (zs66 ?_) | apply (zs68 ?_) | apply (zs69 ?_) | apply (zs70 ?_) | (apply zg28; refine zs83 ?_) | fail)
    apply YF [0, 1, 2, 3, 5, 4, 6, 7, 8, 9, 10, 11, 12] []
    kernel_rfl
    kernel_rfl
    (simp only [Yi, nthO]; rfl)
    exact rfl
    repeat' (first | apply (zs1 ?_) | apply (zs5 ?_) | (apply zg2; refine zs6 ?_) | (apply zg3; refine zs7 ?_) | apply (zs87 ?_) | fail)
    first | apply Ya Zf | apply Yb Zf
    exact za
    exact rfl
    exact fun _ hw => (p1 hw)
    repeat' (first | (apply Yv; exact rfl; exact rfl; exact rfl; exact YS hk) | (apply Yw; exact rfl; exact rfl; exact Yx hk) | apply (zs1 ?_) | apply (zs2 ?_) | (apply zg1; refine zs4 ?_) | (apply zg6; refine zs12 ?_) | (apply zg7; (refine zs15 ?_ ?_ <;> intro _ <;> try (exfalso; omega))) | apply (zs65 ?_) | (apply Yp; exact zp) | apply (zs68 ?_) | apply (zs74 ?_) | (apply Ym; (repeat (first | with_reducible exact Yh | (with_reducible apply Yg; (repeat (first | with_reducible exact Yf | with_reducible apply Ye)))))) | apply (zs93 ?_) | apply (zs94 ?_) | fail)
    · show Perm H (H ++ [])
      rw [List.append_nil]; exact Perm.refl _
    repeat' (first | (apply Yv; exact rfl; exact rfl; exact rfl; exact YS hk) | (apply Yw; exact rfl; exact rfl; exact Yx hk) | fail)
    apply Yc; exact rfl; exact rfl; exact ⟨rfl, rfl⟩
end Go.Proofs.YtmalhidldgfeoaaGreatDoor
