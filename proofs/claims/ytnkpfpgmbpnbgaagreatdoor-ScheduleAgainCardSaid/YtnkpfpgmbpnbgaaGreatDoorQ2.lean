/- Lemmas for the claim, part 2. -/
import Derived.Lib.AppendStr
import Derived.Laws.Externs
import Derived.Shelf.Strings.Builder1
import Derived.Shelf.Small.Wraps
import Derived.Shelf.Strings.BuilderF
import Derived.Shelf.Strings.BuilderK
import Derived.Shelf.Strconv.Atoi
import Derived.Shelf.Strconv.Itoa0
import Derived.Shelf.Strconv.Itoa1
import Derived.Shelf.LaysM
import Derived.Shelf.Strconv.Itoa2
import Derived.Shelf.Strconv.Itoa3
import Derived.Shelf.Strconv.AtoiErrFast
import Derived.Shelf.Strconv.ParseIntEmpty
import Derived.Shelf.Strconv.AtoiFail
import Derived.Shelf.Strconv.Clone
import Derived.Shelf.Strconv.SyntaxError
import Derived.Shelf.LaysC
import Derived.Shelf.Strconv.ToError
import Derived.Shelf.Strconv.Lower
import Derived.Shelf.Strconv.ParseUint10
import Derived.Shelf.Strconv.ParseUint10Empty
import Derived.Shelf.Strconv.ParseUint10Any
import Derived.Shelf.Strconv.ParseInt10
import Derived.Shelf.Strconv.AtoiLong
import Derived.Shelf.Strconv.AtoiInnerAll
import Derived.Shelf.Strconv.RangeError
import Derived.Shelf.Strconv.ToErrorRange
import Derived.Shelf.Strconv.AtoiAll
import Derived.Shelf.Strconv.ErrVarAll
import Derived.Shelf.Strings.Search1
import Derived.Shelf.Strings.Search2
import Derived.Shelf.Strings.Search3
import Derived.Shelf.Strings.Count
import Derived.Shelf.Strings.Shaped
import Derived.Shelf.Strings.Split
import Derived.Shelf.Strings.SplitShaped
import Derived.Shelf.Unicode.DecodeSlow
import Derived.Ground.Names2Prog
import Derived.Shelf.Slices.SearchI
import Derived.Test.YtnkpfpgmbpnbgaaGreatDoorProg
import Derived.KernelRfl
import Derived.Lib.Split
import Derived.Lib.ItoaNum
import Derived.Lib.AtoiAll
import Derived.Lib.AtoiTie
import Derived.Lib.AppendIntMem
import Derived.WideLaws
import Derived.Lib.SmallJoins
import Derived.Test.YtnkpfpgmbpnbgaaGreatDoorQ1

/- An engine for walks, part 26: a string's bytes appended; pointers seen as plain addresses. -/
namespace Go.Eng
open Go.RowKit
theorem append_str_at {P : Program} (w : World) (t u ty e : TypeId) (i : TypeInfo) (ht : P.underlying t = some (.slice e)) (hu : P.underlying u = some .string) (hi : P.info? e = some i) (hz : i.zero = some (.int .u8 0))
    (hsize : i.size = 1) (hby : i.bytes = 1) (v : Value) (n : Nat) (xs : List Value) (hown : w.ownsRow 0 e 1 v n xs) (s : ByteArray) (hb : n + s.size ≤ 1000000000) :
    ∃ v' w', (Builtin.append_ #[t, u] ty #[v, .string s]).run P w = .ok v' w' ∧ w'.ownsRow 0 e 1 v' (n + s.size) (xs ++ Lib.strCells s) ∧ w.grownBy w' v.ownBlock ∧ ∀ b, v'.ownBlock = some b → v.ownBlock = some b ∨ w.heap.size ≤ b := by
  have hm : n + s.size ≤ maxLen := by simp only [maxLen]; omega
  obtain ⟨v', w', h1, h2, h3, _⟩ := Lib.run_append_own_string (P := P) w 0 t u ty e i ht hu hi hz hsize hby v n xs hown s hm (by omega) (Nat.zero_le _)
  refine ⟨v', w', h1, h2, h3, fun b hbb => ?_⟩
  rcases hown.2 with ⟨rfl, rfl⟩ | ⟨g, cap, cur, rfl, hbg, hg, hnc, hcm, hcs, htake⟩
  · right
    obtain ⟨v2, w2, k1, k2, _⟩ := Lib.run_append_own_string (P := P) w w.heap.size t u ty e i ht hu hi hz hsize hby (.slice none 0 0) 0 xs ⟨hown.1, .inl ⟨rfl, rfl⟩⟩ s hm (by omega) (Nat.le_refl _)
    rw [h1] at k1
    obtain ⟨rfl, rfl⟩ : v' = v2 ∧ w' = w2 := by simpa using k1
    rcases k2.2 with ⟨e1, _⟩ | ⟨g', _, _, e1, e2, _⟩
    · rw [e1] at hbb; cases hbb
    · rw [e1] at hbb
      simp only [Value.ownBlock, Option.some.injEq] at hbb
      omega
  · have hcs' : cur.size = cap := by simpa using hcs
    have hxl : xs.length = n := by simpa using hown.1
    by_cases hroom : n + s.size ≤ cap
    · have k1 := Lib.run_append_room_string (P := P) w t u ty e i ht hu hi hsize g n cap cur hg s hroom (by omega)
      rw [h1] at k1
      obtain ⟨rfl, _⟩ := (Result.ok.injEq _ _ _ _).mp k1
      exact .inl hbb
    · have holds : ∀ j u, xs[j]? = some u → w.cell? ((⟨g, 0, none⟩ : Addr).add j) = some u := hown.cells (g := g) rfl
      have k1 := Lib.run_append_grow_string (P := P) w t u ty e i (.int .u8 0) ht hu hi hz ⟨g, 0, none⟩ n cap xs (by rw [hsize]; simpa using hxl) holds s (by omega) (by omega) (by rw [hby]; exact growslice_fits (by omega) (by omega))
      rw [h1] at k1
      obtain ⟨rfl, _⟩ := (Result.ok.injEq _ _ _ _).mp k1
      right
      simp only [Value.ownBlock, Option.some.injEq] at hbb
      omega
section
variable {P : Program} {m : Mode} {n : Shp} {B d : Nat} {w0 : World} {ops : Array Oper} {Q : Exit → Act → World → Prop} {rest : List Oper} {env : Env} {H : List HP} {ty : TypeId} {pos : String} {after : Array Edge} {x y : Operand}
def byteInfo (P : Program) (e : TypeId) : Bool := match P.info? e with | some i => (match i.zero with | some (.int .u8 0) => true | _ => false) && i.size == 1 && i.bytes == 1 | none => false
theorem byteInfo_spec {e : TypeId} (h : byteInfo P e = true) : ∃ i, P.info? e = some i ∧ i.zero = some (.int .u8 0) ∧ i.size = 1 ∧ i.bytes = 1 := by
  unfold byteInfo at h
  split at h
  · rename_i i hi
    simp only [Bool.and_eq_true, beq_iff_eq] at h
    refine ⟨i, hi, ?_, h.1.2, h.2⟩
    have h1 := h.1.1
    split at h1
    · assumption
    · cases h1
  · cases h
/-- append(x, s...): a string's bytes behind a row of one's own. -/
theorem VL_appendStr (T : Tab P) {t tt k cap e bytes : Nat} {A : Option Addr} {s : ByteArray} {xs : List Value} {K : Option Addr → Nat → List HP} (hx : evo env x = some (.slice A k cap)) (hy : evo env y = some (.string s)) (ht : look T.sl t = some (e, 1, bytes)) (hbi : byteInfo P e = true) (htt : look T.st tt = some ())
    (hn : Nat.ble (d + 1) n.k = true) (hu : ∀ A' cap', Upd (sl e 1 A k cap xs) (sl e 1 A' (k + s.size) cap' (xs ++ Lib.strCells s)) H (K A' cap')) (hb : k + s.size ≤ 1000000000)
    (h : ∀ A' cap', VL P none n B w0 ops Q rest ((d, .slice A' (k + s.size) cap') :: env) (K A' cap')) :
    VL P none n B w0 ops Q (⟨some d, .call ⟨.builtin .append, #[x, y], #[t, tt]⟩, ty, pos, after, none⟩ :: rest) env H := by
  obtain ⟨hut, _⟩ := sliceT_spec (T.slic ht)
  obtain ⟨i, hi, hz, hs1, hb1⟩ := byteInfo_spec hbi
  have hst : P.underlying tt = some .string := T.strs htt
  refine VL_opE (fun v K' => ∃ A' cap', v = .slice A' (k + s.size) cap' ∧ K' = K A' cap') rfl rfl hn (fun a w ha hw => ?_) (by rintro _ _ ⟨A', cap', rfl, rfl⟩; exact h A' cap')
  have hmem : sl e 1 A k cap xs ∈ H := by
    obtain ⟨L1, L2, rfl, _⟩ := hu none 0
    simp
  have hown := hw.sl hmem
  obtain ⟨v', w', hrun, hown', hgrow, hat⟩ := append_str_at (P := P) w t tt ty e i hut hst hi hz hs1 hb1 (.slice A k cap) k xs hown s hb
  have hshape : ∃ A' cap', v' = .slice A' (k + s.size) cap' := by
    rcases hown'.2 with ⟨e1, e2⟩ | ⟨g', c', _, e1, _⟩
    · exact ⟨none, 0, by rw [e1, e2]⟩
    · exact ⟨_, _, e1⟩
  obtain ⟨A', cap', rfl⟩ := hshape
  refine ⟨_, K A' cap', w', by simp [execOp, resolve, invoke, builtin, ha.eval hx, ha.eval hy, hrun], ?_, A', cap', rfl, rfl⟩
  refine hw.updN (hu A' cap') hgrow.os hgrow.tape hgrow.output hgrow.size fun S1 ⟨_, hS⟩ => ⟨⟨fun b => Value.ownBlock (.slice A' (k + s.size) cap') = some b, ⟨hown', ?_⟩, fun b hb => ?_⟩, fun b hb hlt => hgrow.block b hlt (fun e => hb ?_)⟩
  · rintro a rfl; rfl
  · rcases hat b hb with e | e
    · cases A with
      | none => cases e
      | some a => left; simp only [Value.ownBlock, Option.some.injEq] at e; rw [← e]; exact hS a rfl
    · right
      refine ⟨e, ?_⟩
      rcases hown'.2 with ⟨e1, _⟩ | ⟨g', _, _, e1, _, e3, _⟩
      · rw [e1] at hb; cases hb
      · rw [e1] at hb
        simp only [Value.ownBlock, Option.some.injEq] at hb
        subst hb
        exact (Array.getElem?_eq_some_iff.1 e3).1
  · cases A with
    | none => cases e
    | some a => simp only [Value.ownBlock, Option.some.injEq] at e; rw [e]; exact hS a rfl
end
end Go.Eng

/-
  DERIVED: THE SHELF's CONTRACTS AT THIS DUMP, IN PLAIN WORDS (tools/lay-plain.mjs out of 'TryzShelf.lean', which tools/lay-shelf.mjs wrote): THE SAME DECLARATIONS UNDER THE SAME NAMES: 'import', 'namespace', 'open', 'def', 'theorem' AND NOTHING ELSE: no command of the shelf's: FOR A HAND-IN. Each laying: the table of numbers ('.._ren') and one theorem, a field a fact of the dump's own or the kernel's comparison; each contract: ONE APPLICATION.
-/
namespace Go.Proofs
open Go.Shelf
def Tryz.lays169_ren : Go.Shelf.Ren := ⟨fun | 169 => 57 | n => n, fun | 70 => 80 | 9 => 9 | 0 => 0 | 72 => 83 | 37 => 81 | 127 => 120 | 3 => 3 | 5 => 5 | n => n, fun | n => n⟩
theorem Tryz.lays169 : Go.Proofs.Lays.n169 Tryz.prog Tryz.lays169_ren := {
  mixed := by kernel_rfl
  f169 := Tryz.func57.trans (congrArg some (by kernel_rfl))
  t0 := Tryz.underlying0
  a0 := Tryz.isAgg0
  z0 := Tryz.sizeOf0
  v0 := Tryz.zeroValue0
  t3 := Tryz.underlying3
  a3 := Tryz.isAgg3
  z3 := Tryz.sizeOf3
  v3 := Tryz.zeroValue3
  t9 := Tryz.underlying9
  a9 := Tryz.isAgg9
  z9 := Tryz.sizeOf9
  v9 := Tryz.zeroValue9
  t37 := Tryz.underlying81
  a37 := Tryz.isAgg81
  z37 := Tryz.sizeOf81
  v37 := Tryz.zeroValue81
  t70 := Tryz.underlying80
  a70 := Tryz.isAgg80
  z70 := Tryz.sizeOf80
  v70 := Tryz.zeroValue80
  t72 := Tryz.underlying83
  a72 := Tryz.isAgg83
  z72 := Tryz.sizeOf83
  v72 := Tryz.zeroValue83
  t127 := Tryz.underlying120
  a127 := Tryz.isAgg120
  z127 := Tryz.sizeOf120
  v127 := Tryz.zeroValue120 }
theorem Tryz.Builder_Extra_169 : Builder.Extra Tryz.prog Tryz.lays169_ren := {
  sizeBuilder := by kernel_rfl
  liesBuilder := by kernel_rfl
  t5 := Tryz.underlying5
  a5 := Tryz.isAgg5
  z5 := Tryz.sizeOf5
  v5 := Tryz.zeroValue5
  infoByte := by kernel_rfl
  cellsByte := by kernel_rfl
  sizeByte := by kernel_rfl
  neB5 := by decide }
open Go.RowKit in
/-- (*strings.Builder).String: "String returns the accumulated string.": WHATEVER THE BUILDER HOLDS. (LAID: no walk: one application.) -/
theorem Tryz.Builder_String_any (B b : Nat) (l : List UInt8) (w : World) (h : Lib.IsBuilder 83 5 B b (Lib.byteCells l) w) (hBw : B ≤ w.heap.size) :
    Calls Tryz.prog 57 #[.pointer (some ⟨b, 0, none⟩)] w fun e w' => e = .returned (.string ⟨l.toArray⟩) ∧ Below B w w' := Any.Builder_String_any Tryz.lays169 Tryz.Builder_Extra_169 B b l w h hBw
def Tryz.laysM171_ren : Go.Shelf.Ren := ⟨fun | 171 => 96 | 243 => 133 | 246 => 149 | 283 => 161 | 284 => 162 | 285 => 163 | 286 => 164 | 129 => 174 | 317 => 173 | 318 => 175 | 319 => 176 | 320 => 177 | 337 => 182 | 338 => 183 | n => n, fun | 3 => 3 | 9 => 9 | 2 => 2 | 4 => 4 | 171 => 161 | 0 => 0 | 53 => 162 | 37 => 81 | 5 => 5 | 173 => 165 | 212 => 175 | 51 => 176 | 20 => 20 | 213 => 177 | 46 => 125 | 232 => 191 | 233 => 192 | n => n, fun | 17 => 3 | 18 => 6 | 19 => 7 | n => n⟩
theorem Tryz.laysM171 : Go.Proofs.LaysM.n171 Tryz.prog Tryz.laysM171_ren := {
  mixed := by kernel_rfl
  f129 := Tryz.func174.trans (congrArg some (by kernel_rfl))
  f171 := Tryz.func96.trans (congrArg some (by kernel_rfl))
  f243 := Tryz.func133.trans (congrArg some (by kernel_rfl))
  f246 := Tryz.func149.trans (congrArg some (by kernel_rfl))
  f283 := Tryz.func161.trans (congrArg some (by kernel_rfl))
  f284 := Tryz.func162.trans (congrArg some (by kernel_rfl))
  f285 := Tryz.func163.trans (congrArg some (by kernel_rfl))
  f286 := Tryz.func164.trans (congrArg some (by kernel_rfl))
  f317 := Tryz.func173.trans (congrArg some (by kernel_rfl))
  f318 := Tryz.func175.trans (congrArg some (by kernel_rfl))
  f319 := Tryz.func176.trans (congrArg some (by kernel_rfl))
  f320 := Tryz.func177.trans (congrArg some (by kernel_rfl))
  f337 := Tryz.func182.trans (congrArg some (by kernel_rfl))
  f338 := Tryz.func183.trans (congrArg some (by kernel_rfl))
  t0 := Tryz.underlying0
  a0 := Tryz.isAgg0
  z0 := Tryz.sizeOf0
  v0 := Tryz.zeroValue0
  t2 := Tryz.underlying2
  a2 := Tryz.isAgg2
  z2 := Tryz.sizeOf2
  v2 := Tryz.zeroValue2
  t3 := Tryz.underlying3
  a3 := Tryz.isAgg3
  z3 := Tryz.sizeOf3
  v3 := Tryz.zeroValue3
  t4 := Tryz.underlying4
  a4 := Tryz.isAgg4
  z4 := Tryz.sizeOf4
  v4 := Tryz.zeroValue4
  t5 := Tryz.underlying5
  a5 := Tryz.isAgg5
  z5 := Tryz.sizeOf5
  v5 := Tryz.zeroValue5
  t9 := Tryz.underlying9
  a9 := Tryz.isAgg9
  z9 := Tryz.sizeOf9
  v9 := Tryz.zeroValue9
  t20 := Tryz.underlying20
  a20 := Tryz.isAgg20
  z20 := Tryz.sizeOf20
  v20 := Tryz.zeroValue20
  t37 := Tryz.underlying81
  a37 := Tryz.isAgg81
  z37 := Tryz.sizeOf81
  v37 := Tryz.zeroValue81
  t46 := Tryz.underlying125
  a46 := Tryz.isAgg125
  z46 := Tryz.sizeOf125
  v46 := Tryz.zeroValue125
  t51 := Tryz.underlying176
  a51 := Tryz.isAgg176
  z51 := Tryz.sizeOf176
  v51 := Tryz.zeroValue176
  t53 := Tryz.underlying162
  a53 := Tryz.isAgg162
  z53 := Tryz.sizeOf162
  v53 := Tryz.zeroValue162
  t171 := Tryz.underlying161
  a171 := Tryz.isAgg161
  z171 := Tryz.sizeOf161
  v171 := Tryz.zeroValue161
  t173 := Tryz.underlying165
  a173 := Tryz.isAgg165
  z173 := Tryz.sizeOf165
  v173 := Tryz.zeroValue165
  t212 := Tryz.underlying175
  a212 := Tryz.isAgg175
  z212 := Tryz.sizeOf175
  v212 := Tryz.zeroValue175
  t213 := Tryz.underlying177
  a213 := Tryz.isAgg177
  z213 := Tryz.sizeOf177
  t232 := Tryz.underlying191
  a232 := Tryz.isAgg191
  z232 := Tryz.sizeOf191
  v232 := Tryz.zeroValue191
  t233 := Tryz.underlying192
  a233 := Tryz.isAgg192
  z233 := Tryz.sizeOf192
  v233 := Tryz.zeroValue192
  g17 := by kernel_rfl
  g18 := by kernel_rfl
  g19 := by kernel_rfl
  i0 := by kernel_rfl
  i2 := by kernel_rfl
  i3 := by kernel_rfl
  i4 := by kernel_rfl
  i5 := by kernel_rfl
  i9 := by kernel_rfl
  i20 := by kernel_rfl
  i37 := by kernel_rfl
  i46 := by kernel_rfl
  i51 := by kernel_rfl
  i53 := by kernel_rfl
  i171 := by kernel_rfl
  i173 := by kernel_rfl
  i212 := by kernel_rfl
  i232 := by kernel_rfl
  i233 := by kernel_rfl
  m17 := by kernel_rfl
  m18 := by kernel_rfl
  m19 := by kernel_rfl }
open Go.RowKit Go.Sort Go.Lib in
/-- strconv.Itoa: "Itoa is equivalent to FormatInt(int64(i), 10).": i's DECIMAL NUMERAL ('Lib.itoa': a '-' where i is negative, then the digits), FOR EVERY int. The world behind the call: the world before it, new blocks behind the heap (the library's 'var a [24]byte'), draws. (LAID: no walk: one application.) -/
theorem Tryz.strconv_Itoa (n : Int) (h0 : -9223372036854775808 ≤ n) (h1 : n ≤ 9223372036854775807) (w : World) (htab : Lib.TabIs Tryz.prog w "internal/strconv.uint64pow10" .u64 Lib.pow10Tab) :
    Calls Tryz.prog 96 #[.int .i64 n] w fun e w' => e = .returned (.string ⟨(Lib.itoa n).toArray⟩) ∧ ∃ k os, w' = grow (w.drewN k) os := Any.strconv_Itoa Tryz.laysM171 n h0 h1 w htab
def Tryz.laysC172_ren : Go.Shelf.Ren := ⟨fun | 172 => 99 | 244 => 137 | 245 => 138 | 247 => 154 | 279 => 155 | 280 => 156 | 281 => 157 | 282 => 158 | 287 => 170 | 316 => 171 | 171 => 96 | 205 => 172 | 321 => 180 | 322 => 181 | 243 => 133 | 246 => 149 | 283 => 161 | 284 => 162 | 285 => 163 | 286 => 164 | 129 => 174 | 317 => 173 | 318 => 175 | 319 => 176 | 320 => 177 | 337 => 182 | 338 => 183 | n => n, fun | 9 => 9 | 3 => 3 | 75 => 85 | 76 => 86 | 4 => 4 | 5 => 5 | 167 => 154 | 37 => 81 | 0 => 0 | 85 => 155 | 2 => 2 | 168 => 157 | 53 => 162 | 175 => 168 | 46 => 125 | 210 => 172 | 127 => 120 | 145 => 189 | 143 => 187 | 21 => 21 | 171 => 161 | 173 => 165 | 212 => 175 | 51 => 176 | 20 => 20 | 213 => 177 | 232 => 191 | 233 => 192 | 80 => 91 | n => n, fun | 15 => 1 | 16 => 2 | 17 => 3 | 18 => 6 | 19 => 7 | n => n⟩
theorem Tryz.laysC172 : Go.Proofs.LaysC.n172 Tryz.prog Tryz.laysC172_ren := {
  mixed := by kernel_rfl
  f129 := Tryz.func174.trans (congrArg some (by kernel_rfl))
  f171 := Tryz.func96.trans (congrArg some (by kernel_rfl))
  f172 := Tryz.func99.trans (congrArg some (by kernel_rfl))
  f205 := Tryz.func172.trans (congrArg some (by kernel_rfl))
  f243 := Tryz.func133.trans (congrArg some (by kernel_rfl))
  f244 := Tryz.func137.trans (congrArg some (by kernel_rfl))
  f245 := Tryz.func138.trans (congrArg some (by kernel_rfl))
  f246 := Tryz.func149.trans (congrArg some (by kernel_rfl))
  f247 := Tryz.func154.trans (congrArg some (by kernel_rfl))
  f279 := Tryz.func155.trans (congrArg some (by kernel_rfl))
  f280 := Tryz.func156.trans (congrArg some (by kernel_rfl))
  f281 := Tryz.func157.trans (congrArg some (by kernel_rfl))
  f282 := Tryz.func158.trans (congrArg some (by kernel_rfl))
  f283 := Tryz.func161.trans (congrArg some (by kernel_rfl))
  f284 := Tryz.func162.trans (congrArg some (by kernel_rfl))
  f285 := Tryz.func163.trans (congrArg some (by kernel_rfl))
  f286 := Tryz.func164.trans (congrArg some (by kernel_rfl))
  f287 := Tryz.func170.trans (congrArg some (by kernel_rfl))
  f316 := Tryz.func171.trans (congrArg some (by kernel_rfl))
  f317 := Tryz.func173.trans (congrArg some (by kernel_rfl))
  f318 := Tryz.func175.trans (congrArg some (by kernel_rfl))
  f319 := Tryz.func176.trans (congrArg some (by kernel_rfl))
  f320 := Tryz.func177.trans (congrArg some (by kernel_rfl))
  f321 := Tryz.func180.trans (congrArg some (by kernel_rfl))
  f322 := Tryz.func181.trans (congrArg some (by kernel_rfl))
  f337 := Tryz.func182.trans (congrArg some (by kernel_rfl))
  f338 := Tryz.func183.trans (congrArg some (by kernel_rfl))
  t0 := Tryz.underlying0
  a0 := Tryz.isAgg0
  z0 := Tryz.sizeOf0
  v0 := Tryz.zeroValue0
  t2 := Tryz.underlying2
  a2 := Tryz.isAgg2
  z2 := Tryz.sizeOf2
  v2 := Tryz.zeroValue2
  t3 := Tryz.underlying3
  a3 := Tryz.isAgg3
  z3 := Tryz.sizeOf3
  v3 := Tryz.zeroValue3
  t4 := Tryz.underlying4
  a4 := Tryz.isAgg4
  z4 := Tryz.sizeOf4
  v4 := Tryz.zeroValue4
  t5 := Tryz.underlying5
  a5 := Tryz.isAgg5
  z5 := Tryz.sizeOf5
  v5 := Tryz.zeroValue5
  t9 := Tryz.underlying9
  a9 := Tryz.isAgg9
  z9 := Tryz.sizeOf9
  v9 := Tryz.zeroValue9
  t20 := Tryz.underlying20
  a20 := Tryz.isAgg20
  z20 := Tryz.sizeOf20
  v20 := Tryz.zeroValue20
  t21 := Tryz.underlying21
  a21 := Tryz.isAgg21
  z21 := Tryz.sizeOf21
  v21 := Tryz.zeroValue21
  t37 := Tryz.underlying81
  a37 := Tryz.isAgg81
  z37 := Tryz.sizeOf81
  v37 := Tryz.zeroValue81
  t46 := Tryz.underlying125
  a46 := Tryz.isAgg125
  z46 := Tryz.sizeOf125
  v46 := Tryz.zeroValue125
  t51 := Tryz.underlying176
  a51 := Tryz.isAgg176
  z51 := Tryz.sizeOf176
  v51 := Tryz.zeroValue176
  t53 := Tryz.underlying162
  a53 := Tryz.isAgg162
  z53 := Tryz.sizeOf162
  v53 := Tryz.zeroValue162
  t75 := Tryz.underlying85
  a75 := Tryz.isAgg85
  z75 := Tryz.sizeOf85
  v75 := Tryz.zeroValue85
  t76 := Tryz.underlying86
  a76 := Tryz.isAgg86
  z76 := Tryz.sizeOf86
  v76 := Tryz.zeroValue86
  t85 := Tryz.underlying155
  a85 := Tryz.isAgg155
  z85 := Tryz.sizeOf155
  v85 := Tryz.zeroValue155
  t127 := Tryz.underlying120
  a127 := Tryz.isAgg120
  z127 := Tryz.sizeOf120
  v127 := Tryz.zeroValue120
  t143 := Tryz.underlying187
  a143 := Tryz.isAgg187
  z143 := Tryz.sizeOf187
  v143 := Tryz.zeroValue187
  t145 := Tryz.underlying189
  a145 := Tryz.isAgg189
  z145 := Tryz.sizeOf189
  v145 := Tryz.zeroValue189
  t167 := Tryz.underlying154
  a167 := Tryz.isAgg154
  z167 := Tryz.sizeOf154
  v167 := Tryz.zeroValue154
  t168 := Tryz.underlying157
  a168 := Tryz.isAgg157
  z168 := Tryz.sizeOf157
  v168 := Tryz.zeroValue157
  t171 := Tryz.underlying161
  a171 := Tryz.isAgg161
  z171 := Tryz.sizeOf161
  v171 := Tryz.zeroValue161
  t173 := Tryz.underlying165
  a173 := Tryz.isAgg165
  z173 := Tryz.sizeOf165
  v173 := Tryz.zeroValue165
  t175 := Tryz.underlying168
  a175 := Tryz.isAgg168
  z175 := Tryz.sizeOf168
  v175 := Tryz.zeroValue168
  t210 := Tryz.underlying172
  a210 := Tryz.isAgg172
  z210 := Tryz.sizeOf172
  v210 := Tryz.zeroValue172
  t212 := Tryz.underlying175
  a212 := Tryz.isAgg175
  z212 := Tryz.sizeOf175
  v212 := Tryz.zeroValue175
  t213 := Tryz.underlying177
  a213 := Tryz.isAgg177
  z213 := Tryz.sizeOf177
  t232 := Tryz.underlying191
  a232 := Tryz.isAgg191
  z232 := Tryz.sizeOf191
  v232 := Tryz.zeroValue191
  t233 := Tryz.underlying192
  a233 := Tryz.isAgg192
  z233 := Tryz.sizeOf192
  v233 := Tryz.zeroValue192
  g15 := by kernel_rfl
  g16 := by kernel_rfl
  g17 := by kernel_rfl
  g18 := by kernel_rfl
  g19 := by kernel_rfl
  t80 := Tryz.underlying91
  a80 := Tryz.isAgg91
  z80 := Tryz.sizeOf91
  v80 := Tryz.zeroValue91
  i0 := by kernel_rfl
  i2 := by kernel_rfl
  i3 := by kernel_rfl
  i4 := by kernel_rfl
  i5 := by kernel_rfl
  i9 := by kernel_rfl
  i20 := by kernel_rfl
  i21 := by kernel_rfl
  i37 := by kernel_rfl
  i46 := by kernel_rfl
  i51 := by kernel_rfl
  i53 := by kernel_rfl
  i75 := by kernel_rfl
  i76 := by kernel_rfl
  i80 := by kernel_rfl
  i85 := by kernel_rfl
  i127 := by kernel_rfl
  i143 := by kernel_rfl
  i145 := by kernel_rfl
  i167 := by kernel_rfl
  i168 := by kernel_rfl
  i171 := by kernel_rfl
  i173 := by kernel_rfl
  i175 := by kernel_rfl
  i210 := by kernel_rfl
  i212 := by kernel_rfl
  i232 := by kernel_rfl
  i233 := by kernel_rfl
  m15 := by kernel_rfl
  m16 := by kernel_rfl
  m17 := by kernel_rfl
  m18 := by kernel_rfl
  m19 := by kernel_rfl
  c0 := by kernel_rfl
  c2 := by kernel_rfl
  c3 := by kernel_rfl
  c4 := by kernel_rfl
  c5 := by kernel_rfl
  c9 := by kernel_rfl
  c20 := by kernel_rfl
  c21 := by kernel_rfl
  c37 := by kernel_rfl
  c46 := by kernel_rfl
  c51 := by kernel_rfl
  c53 := by kernel_rfl
  c75 := by kernel_rfl
  c76 := by kernel_rfl
  c80 := by kernel_rfl
  c85 := by kernel_rfl
  c127 := by kernel_rfl
  c143 := by kernel_rfl
  c145 := by kernel_rfl
  c167 := by kernel_rfl
  c168 := by kernel_rfl
  c171 := by kernel_rfl
  c173 := by kernel_rfl
  c175 := by kernel_rfl
  c210 := by kernel_rfl
  c212 := by kernel_rfl
  c213 := by kernel_rfl
  c232 := by kernel_rfl
  c233 := by kernel_rfl }
open Go.RowKit in
/-- strconv.Atoi, AT EVERY STRING THAT SPELLS AN int ('Lib.atoiAll .. = .ok v'; of whatever length: leading zeros count): v, AND NO ERROR. The world: as it was, or with the one new row that '[]byte(..)' lays. (LAID: no walk: one application.) -/
theorem Tryz.strconv_Atoi_ok (s : ByteArray) (hmax : s.size ≤ 9223372036854775806) (v : Int) (h : Lib.atoiAll s.data.toList = .ok v) (w : World) :
    Calls Tryz.prog 99 #[.string s] w fun e w' => e = .returned (.tuple #[.int .i64 v, .nilIface]) ∧ (w' = w ∨ ∃ t, w' = Lib.bytesWorld w 5 t) := Any.strconv_Atoi_ok Tryz.laysC172 s hmax v h w
open Go.RowKit in
theorem Tryz.strconv_Atoi_range_var (s : ByteArray) (hlim : s.size ≤ 281474976710656) (h : Lib.atoiAll s.data.toList = .range) (tp : TypeId) (p : Value) (w : World) (hvar : w.var? Tryz.prog "strconv.ErrRange" = some #[.iface tp p]) :
    Calls Tryz.prog 99 #[.string s] w fun e w' => ∃ N, e = .returned (.tuple #[.int .i64 (Lib.atoiSat s.data.toList), .iface 157 (.pointer (some ⟨N, 0, none⟩))]) ∧ w.heap.size ≤ N ∧ w'.heap[N]? = some (.cells #[.string ⟨#[65, 116, 111, 105]⟩, .string s, .iface tp p] 172 (0, 0)) ∧ Below w.heap.size w w' := Any.strconv_Atoi_range_var Tryz.laysC172 s hlim h tp p w hvar
def Tryz.lays146_ren : Go.Shelf.Ren := ⟨fun | 146 => 61 | 221 => 98 | 268 => 134 | 138 => 135 | 143 => 136 | 195 => 150 | 197 => 151 | 218 => 152 | 219 => 153 | 260 => 165 | 217 => 166 | 225 => 167 | 224 => 168 | 267 => 169 | 266 => 178 | 314 => 179 | n => n, fun | 9 => 9 | 31 => 94 | 3 => 3 | 4 => 4 | 0 => 0 | 105 => 151 | 21 => 21 | 5 => 5 | 46 => 125 | 119 => 179 | 139 => 182 | 138 => 181 | 146 => 183 | 51 => 176 | n => n, fun | 1 => 0 | 3 => 4 | 4 => 5 | n => n⟩
theorem Tryz.lays146 : Go.Proofs.Lays.n146 Tryz.prog Tryz.lays146_ren := {
  mixed := by kernel_rfl
  f138 := Tryz.func135.trans (congrArg some (by kernel_rfl))
  f143 := Tryz.func136.trans (congrArg some (by kernel_rfl))
  f146 := Tryz.func61.trans (congrArg some (by kernel_rfl))
  f195 := Tryz.func150.trans (congrArg some (by kernel_rfl))
  f197 := Tryz.func151.trans (congrArg some (by kernel_rfl))
  f217 := Tryz.func166.trans (congrArg some (by kernel_rfl))
  f218 := Tryz.func152.trans (congrArg some (by kernel_rfl))
  f219 := Tryz.func153.trans (congrArg some (by kernel_rfl))
  f221 := Tryz.func98.trans (congrArg some (by kernel_rfl))
  f224 := Tryz.func168.trans (congrArg some (by kernel_rfl))
  f225 := Tryz.func167.trans (congrArg some (by kernel_rfl))
  f260 := Tryz.func165.trans (congrArg some (by kernel_rfl))
  f266 := Tryz.func178.trans (congrArg some (by kernel_rfl))
  f267 := Tryz.func169.trans (congrArg some (by kernel_rfl))
  f268 := Tryz.func134.trans (congrArg some (by kernel_rfl))
  f314 := Tryz.func179.trans (congrArg some (by kernel_rfl))
  t0 := Tryz.underlying0
  a0 := Tryz.isAgg0
  z0 := Tryz.sizeOf0
  v0 := Tryz.zeroValue0
  t3 := Tryz.underlying3
  a3 := Tryz.isAgg3
  z3 := Tryz.sizeOf3
  v3 := Tryz.zeroValue3
  t4 := Tryz.underlying4
  a4 := Tryz.isAgg4
  z4 := Tryz.sizeOf4
  v4 := Tryz.zeroValue4
  t5 := Tryz.underlying5
  a5 := Tryz.isAgg5
  z5 := Tryz.sizeOf5
  v5 := Tryz.zeroValue5
  t9 := Tryz.underlying9
  a9 := Tryz.isAgg9
  z9 := Tryz.sizeOf9
  v9 := Tryz.zeroValue9
  t21 := Tryz.underlying21
  a21 := Tryz.isAgg21
  z21 := Tryz.sizeOf21
  v21 := Tryz.zeroValue21
  t31 := Tryz.underlying94
  a31 := Tryz.isAgg94
  z31 := Tryz.sizeOf94
  v31 := Tryz.zeroValue94
  t46 := Tryz.underlying125
  a46 := Tryz.isAgg125
  z46 := Tryz.sizeOf125
  v46 := Tryz.zeroValue125
  t51 := Tryz.underlying176
  a51 := Tryz.isAgg176
  z51 := Tryz.sizeOf176
  v51 := Tryz.zeroValue176
  t105 := Tryz.underlying151
  a105 := Tryz.isAgg151
  z105 := Tryz.sizeOf151
  v105 := Tryz.zeroValue151
  t119 := Tryz.underlying179
  a119 := Tryz.isAgg179
  z119 := Tryz.sizeOf179
  t138 := Tryz.underlying181
  a138 := Tryz.isAgg181
  z138 := Tryz.sizeOf181
  v138 := Tryz.zeroValue181
  t139 := Tryz.underlying182
  a139 := Tryz.isAgg182
  z139 := Tryz.sizeOf182
  v139 := Tryz.zeroValue182
  t146 := Tryz.underlying183
  a146 := Tryz.isAgg183
  z146 := Tryz.sizeOf183
  v146 := Tryz.zeroValue183
  g1 := by kernel_rfl
  g3 := by kernel_rfl
  g4 := by kernel_rfl }
open Go.RowKit Go.Lib in
/-- strings.Split. (LAID: no walk: one application.) -/
theorem Tryz.strings_Split (s sep : ByteArray) (m : Int) (w : World) (hs : s.size < 4294967281) (hm : w.cell? ⟨0, 0, none⟩ = some (.int .i64 m)) (h1 : 1 ≤ sep.size) :
    Calls Tryz.prog 61 #[.string s, .string sep] w fun e w' =>
      e = .returned (.slice (some ⟨w.heap.size, 0, none⟩) (Lib.countB s sep + 1) (Lib.countB s sep + 1)) ∧ w' = w.alloc (.cells ((Lib.splitB sep 0 (Lib.countB s sep) s).map Value.string).toArray 9) := Any.strings_Split Tryz.lays146 (by kernel_rfl) s sep m w hs hm h1
end Go.Proofs

/- Networks of chapter 31, plain: the first fault of a network. -/
namespace Go.Nw

/-- A link: from, to, loss. -/
abbrev Lk := Int × Int × Int

structure Net where
  nodes : Int
  power : List (List Int)
  noise : Int
  thr : Int
  links : List Lk
  margin : List Int

def cmpI (x y : Int) : Int := if x < y then -1 else if y < x then 1 else 0
def cmpL (a b : Lk) : Int := if cmpI a.1 b.1 = 0 then cmpI a.2.1 b.2.1 else cmpI a.1 b.1
def outside (p : Int) : Bool := decide (p < 0 ∨ 68719476736 < p)
def wide (k : Int) (r : List Int) : Bool := decide ((r.length : Int) ≠ k)
def tableE (n : Net) : Int :=
  if (n.power.length : Int) ≠ n.nodes then 1 else if n.power.any (wide n.nodes) = true then 1 else if n.power.any (fun r => r.any outside) = true then 2 else 0
def lnk (n : Net) (i : Nat) : Lk := n.links.getD i (0, 0, 0)
def mar (n : Net) (i : Nat) : Int := n.margin.getD i 0
def powr (n : Net) (a b : Int) : Int := (n.power.getD a.toNat []).getD b.toNat 0
def linkE (n : Net) (i : Nat) : Int :=
  if ¬ (0 ≤ (lnk n i).1 ∧ (lnk n i).1 < n.nodes) ∨ ¬ (0 ≤ (lnk n i).2.1 ∧ (lnk n i).2.1 < n.nodes) ∨ (lnk n i).1 = (lnk n i).2.1 ∨ (lnk n i).2.2 < 0 ∨ 7 < (lnk n i).2.2 then 2
  else if 0 < i ∧ 0 ≤ cmpL (lnk n (i - 1)) (lnk n i) then 5
  else if mar n i < 0 ∨ powr n (lnk n i).1 (lnk n i).2.1 < mar n i then 2 else 0
def linksE (n : Net) : Nat → Nat → Int
  | 0, _ => 0
  | r + 1, i => if linkE n i = 0 then linksE n r (i + 1) else linkE n i
def checkE (n : Net) : Int :=
  if n.nodes < 2 ∨ 32 < n.nodes then 2 else if tableE n ≠ 0 then tableE n
  else if n.noise < 0 ∨ 68719476736 < n.noise ∨ n.thr < 1000 ∨ 100000 < n.thr then 2
  else if 128 < n.links.length then 8 else if n.margin.length ≠ n.links.length then 11 else linksE n n.links.length 0

/-- The first index of an element with a property, counted from k on; -1 if there is none. -/
def idxFrom {α : Type} (p : α → Bool) : List α → Int → Int
  | [], _ => -1
  | a :: l, k => if p a then k else idxFrom p l (k + 1)
theorem idx_any {α : Type} (p : α → Bool) : ∀ (l : List α) (k : Int), 0 ≤ k → (0 ≤ idxFrom p l k ↔ l.any p = true)
  | [], k, _ => by simp [idxFrom]
  | a :: l, k, h => by
    unfold idxFrom
    by_cases hp : p a = true
    · simp [hp, h]
    · rw [if_neg hp, idx_any p l (k + 1) (by omega)]
      simp [hp]
theorem idx_drop {α : Type} (p : α → Bool) (l : List α) {k : Nat} {a : α} (h : l[k]? = some a) : idxFrom p (l.drop k) k = if p a then (k : Int) else idxFrom p (l.drop (k + 1)) (k + 1) := by
  obtain ⟨hk, rfl⟩ := List.getElem?_eq_some_iff.1 h
  rw [List.drop_eq_getElem_cons hk, idxFrom]

theorem linksE_step (n : Net) {i : Nat} (h : i < n.links.length) (h0 : linkE n i = 0) : linksE n (n.links.length - i) i = linksE n (n.links.length - (i + 1)) (i + 1) := by
  rw [show n.links.length - i = n.links.length - (i + 1) + 1 by omega, linksE, if_pos h0]
theorem linksE_stop (n : Net) {i : Nat} (h : i < n.links.length) (h0 : linkE n i ≠ 0) : linksE n (n.links.length - i) i = linkE n i := by
  rw [show n.links.length - i = n.links.length - (i + 1) + 1 by omega, linksE, if_neg h0]

theorem table_ok {n : Net} (h : tableE n = 0) : (n.power.length : Int) = n.nodes ∧ (∀ r ∈ n.power, (r.length : Int) = n.nodes) ∧ ∀ r ∈ n.power, ∀ p ∈ r, 0 ≤ p ∧ p ≤ 68719476736 := by
  unfold tableE at h
  by_cases h1 : (n.power.length : Int) ≠ n.nodes
  · rw [if_pos h1] at h; omega
  rw [if_neg h1] at h
  by_cases h2 : n.power.any (wide n.nodes) = true
  · rw [if_pos h2] at h; omega
  rw [if_neg h2] at h
  by_cases h3 : n.power.any (fun r => r.any outside) = true
  · rw [if_pos h3] at h; omega
  refine ⟨by omega, fun r hr => ?_, fun r hr p hp => ?_⟩
  · by_cases hw : (r.length : Int) = n.nodes
    · exact hw
    · exact absurd (List.any_eq_true.2 ⟨r, hr, by simp [wide, hw]⟩) h2
  · by_cases ho : outside p = true
    · exact absurd (List.any_eq_true.2 ⟨r, hr, List.any_eq_true.2 ⟨p, hp, ho⟩⟩) h3
    · simp [outside] at ho; omega
end Go.Nw

/- Lists of numbers in their order, plain. -/
namespace Go.Proofs.YtnkpfpgmbpnbgaaGreatDoor
def lexLt : List Int → List Int → Bool
  | [], b => !b.isEmpty
  | _ :: _, [] => false
  | a :: l, b :: m => if a ≠ b then decide (a < b) else lexLt l m
theorem lex_drop {a b : List Int} {i : Nat} {x y : Int} (hx : a[i]? = some x) (hy : b[i]? = some y) : lexLt (a.drop i) (b.drop i) = if x ≠ y then decide (x < y) else lexLt (a.drop (i + 1)) (b.drop (i + 1)) := by
  obtain ⟨h1, rfl⟩ := List.getElem?_eq_some_iff.1 hx
  obtain ⟨h2, rfl⟩ := List.getElem?_eq_some_iff.1 hy
  rw [List.drop_eq_getElem_cons h1, List.drop_eq_getElem_cons h2]
  rfl
theorem lex_self : ∀ a : List Int, lexLt a a = false
  | [] => rfl
  | a :: l => by unfold lexLt; rw [if_neg (fun h => h rfl)]; exact lex_self l
end Go.Proofs.YtnkpfpgmbpnbgaaGreatDoor

/- Schedules of chapter 35, plain: cells in order, the form of a schedule; flows. -/
namespace Go.Proofs.YtnkpfpgmbpnbgaaGreatDoor
open Go.Nw

/-- A cell: slot, offset, from, to, flow. -/
abbrev Cel := Int × Int × Int × Int × Int
def nums (c : Cel) : List Int := [c.1, c.2.1, c.2.2.1, c.2.2.2.1, c.2.2.2.2]
def celLt (a b : Cel) : Bool := lexLt (nums a) (nums b)
theorem lex_trans : ∀ {a b c : List Int}, lexLt a b = true → lexLt b c = true → lexLt a c = true
  | _, _, [], _, h => by cases ‹List Int› <;> cases h
  | [], _, _ :: _, _, _ => rfl
  | _ :: _, [], _ :: _, h, _ => by cases h
  | x :: a, y :: b, z :: c, h1, h2 => by
    unfold lexLt at h1 h2 ⊢
    by_cases e1 : x = y
    · subst e1
      rw [if_neg (fun h => h rfl)] at h1
      by_cases e2 : x = z
      · subst e2
        rw [if_neg (fun h => h rfl)] at h2 ⊢
        exact lex_trans h1 h2
      · rw [if_pos e2] at h2 ⊢; exact h2
    · rw [if_pos e1] at h1
      have h3 := of_decide_eq_true h1
      by_cases e2 : y = z
      · subst e2
        rw [if_pos e1]; exact h1
      · rw [if_pos e2] at h2
        have h4 := of_decide_eq_true h2
        rw [if_pos (by omega)]
        exact decide_eq_true (by omega)
theorem cel_trans {a b c : Cel} (h1 : celLt a b = true) (h2 : celLt b c = true) : celLt a c = true := lex_trans h1 h2
theorem cel_irrefl (a : Cel) : celLt a a = false := lex_self _
def insE (x n : Int) : Bool := decide (0 ≤ x ∧ x < n)
structure Sch where
  len : Int
  off : Int
  cells : List Cel
def placedE (s : Sch) (c : Cel) : Bool := insE c.1 s.len && insE c.2.1 s.off
def formedE (s : Sch) (c : Cel) : Bool := placedE s c && insE c.2.2.1 32 && insE c.2.2.2.1 32 && insE c.2.2.2.2 256
def sizedE (s : Sch) : Bool := decide (1 ≤ s.len ∧ s.len ≤ 512 ∧ 1 ≤ s.off ∧ s.off ≤ 16)
def celAt (s : Sch) (i : Nat) : Cel := s.cells.getD i (0, 0, 0, 0, 0)
/-- The cell with an index has its form, and stands behind the one before. -/
def celOk (s : Sch) (i : Nat) : Bool := formedE s (celAt s i) && (decide (i = 0) || celLt (celAt s (i - 1)) (celAt s i))
def formE (s : Sch) : Bool := sizedE s && decide (s.cells.length ≤ 512) && (List.range s.cells.length).all (celOk s)

theorem all_range_step {p : Nat → Bool} {k : Nat} : (List.range (k + 1)).all p = ((List.range k).all p && p k) := by
  rw [List.range_succ, List.all_append]; simp
theorem all_range_no {p : Nat → Bool} {i k : Nat} (hi : i < k) (h : p i = false) : (List.range k).all p = false := by
  rw [List.all_eq_false]
  exact ⟨i, List.mem_range.2 hi, by rw [h]; decide⟩
theorem all_range_at {p : Nat → Bool} {i k : Nat} (h : (List.range k).all p = true) (hi : i < k) : p i = true := List.all_eq_true.1 h i (List.mem_range.2 hi)

theorem celAt_get {s : Sch} {i : Nat} {c : Cel} (h : s.cells[i]? = some c) : celAt s i = c := by
  unfold celAt; rw [List.getD_eq_getElem?_getD, h]; rfl
theorem celAt_some {s : Sch} {i : Nat} (h : i < s.cells.length) : s.cells[i]? = some (celAt s i) := by
  unfold celAt; rw [List.getD_eq_getElem?_getD, List.getElem?_eq_getElem h]; rfl
theorem celAt_mem {s : Sch} {i : Nat} (h : i < s.cells.length) : celAt s i ∈ s.cells := List.mem_of_getElem? (celAt_some h)

structure Frm (s : Sch) : Prop where
  sized : sizedE s = true
  few : s.cells.length ≤ 512
  formed : ∀ c ∈ s.cells, formedE s c = true
  ord : s.cells.Pairwise fun a b => celLt a b = true
/-- Consecutive elements in order are all in order. -/
theorem ord_of_steps {α : Type} {lt : α → α → Bool} (htr : ∀ {a b c}, lt a b = true → lt b c = true → lt a c = true) {l : List α} (h : ∀ i, ∀ a b, l[i]? = some a → l[i + 1]? = some b → lt a b = true) : l.Pairwise fun a b => lt a b = true := by
  induction l with
  | nil => exact .nil
  | cons x l ih =>
    have h1 := ih fun i a b ha hb => h (i + 1) a b (by simpa using ha) (by simpa using hb)
    refine .cons (fun y hy => ?_) h1
    cases l with
    | nil => cases hy
    | cons z l =>
      have hz := h 0 x z rfl rfl
      rcases List.mem_cons.1 hy with rfl | hy
      · exact hz
      · exact htr hz ((List.pairwise_cons.1 h1).1 y hy)
theorem form_iff {s : Sch} : formE s = true ↔ Frm s := by
  unfold formE
  simp only [Bool.and_eq_true, decide_eq_true_eq]
  constructor
  · rintro ⟨⟨h1, h2⟩, h3⟩
    have hc : ∀ i, i < s.cells.length → celOk s i = true := fun i hi => all_range_at h3 hi
    refine ⟨h1, h2, fun c hc2 => ?_, ?_⟩
    · obtain ⟨i, hi⟩ := List.mem_iff_getElem?.1 hc2
      have := hc i (List.getElem?_eq_some_iff.1 hi).1
      unfold celOk at this
      rw [celAt_get hi] at this
      simp only [Bool.and_eq_true] at this
      exact this.1
    · refine ord_of_steps (lt := celLt) (fun h1 h2 => cel_trans h1 h2) fun i a b ha hb => ?_
      have := hc (i + 1) (List.getElem?_eq_some_iff.1 hb).1
      unfold celOk at this
      rw [celAt_get hb, Nat.add_sub_cancel, celAt_get ha] at this
      simp only [Bool.and_eq_true, Bool.or_eq_true, decide_eq_true_eq] at this
      rcases this.2 with h | h
      · omega
      · exact h
  · intro h
    refine ⟨⟨h.sized, h.few⟩, List.all_eq_true.2 fun i hi => ?_⟩
    have hi := List.mem_range.1 hi
    unfold celOk
    rw [h.formed _ (celAt_mem hi), Bool.true_and, Bool.or_eq_true, decide_eq_true_eq]
    rcases Nat.eq_zero_or_pos i with h0 | h0
    · exact .inl h0
    · right
      obtain ⟨h1, h2⟩ := List.getElem?_eq_some_iff.1 (celAt_some (s := s) (i := i - 1) (by omega))
      obtain ⟨h3, h4⟩ := List.getElem?_eq_some_iff.1 (celAt_some (s := s) hi)
      have := List.pairwise_iff_getElem.1 h.ord (i - 1) i h1 h3 (by omega)
      rw [h2, h4] at this
      exact this

/-- A flow: ID, from, to, period, phase, deadline. -/
abbrev Flw := Int × Int × Int × Int × Int × Int
def flowE (nodes : Int) (f : Flw) : Int :=
  if f.1 < 0 ∨ 255 < f.1 ∨ insE f.2.1 nodes = false ∨ insE f.2.2.1 nodes = false then 2
  else if f.2.2.2.1 < 1 ∨ 512 < f.2.2.2.1 ∨ f.2.2.2.2.1 < 0 ∨ f.2.2.2.1 ≤ f.2.2.2.2.1 ∨ f.2.2.2.2.2 < 1 ∨ f.2.2.2.1 < f.2.2.2.2.2 then 2
  else if f.2.1 = f.2.2.1 then 1 else 0
def flwAt (l : List Flw) (i : Nat) : Flw := l.getD i (0, 0, 0, 0, 0, 0)
/-- The first index from i on, of r ones, with a fault, and the fault; -1 if there is none. -/
def firstF (f : Nat → Int) : Nat → Nat → Int × Int
  | 0, _ => (-1, 0)
  | r + 1, i => if f i = 0 then firstF f r (i + 1) else ((i : Int), f i)
theorem firstF_ok {f : Nat → Int} : ∀ {r i : Nat}, (firstF f r i).2 = 0 ↔ ∀ k, i ≤ k → k < i + r → f k = 0
  | 0, i => by simp [firstF]; intro k h1 h2; omega
  | r + 1, i => by
    unfold firstF
    split
    · rename_i h
      rw [firstF_ok]
      constructor
      · intro h1 k hk1 hk2
        rcases Nat.eq_or_lt_of_le hk1 with rfl | h2
        · exact h
        · exact h1 k (by omega) (by omega)
      · intro h1 k hk1 hk2
        exact h1 k (by omega) (by omega)
    · rename_i h
      constructor
      · intro h1; exact absurd h1 h
      · intro h1; exact absurd (h1 i (Nat.le_refl _) (by omega)) h
theorem firstF_neg {f : Nat → Int} : ∀ {r i : Nat}, (firstF f r i).2 = 0 → (firstF f r i).1 = -1
  | 0, i, _ => rfl
  | r + 1, i, h => by
    unfold firstF at h ⊢
    split at h
    · rw [if_pos ‹_›]; exact firstF_neg h
    · exact absurd h ‹_›
def flowAtE (nodes : Int) (l : List Flw) (i : Nat) : Int := if flowE nodes (flwAt l i) ≠ 0 then flowE nodes (flwAt l i) else if 0 < i ∧ (flwAt l i).1 ≤ (flwAt l (i - 1)).1 then 5 else 0
def flowsE (nodes : Int) (l : List Flw) : Int × Int :=
  if nodes < 2 ∨ 32 < nodes then (-1, 2) else if 16 < l.length then (-1, 8) else firstF (flowAtE nodes l) l.length 0
def findF (l : List Flw) (id : Int) : Int := idxFrom (fun f => decide (f.1 = id)) l 0
end Go.Proofs.YtnkpfpgmbpnbgaaGreatDoor

/- The seat's table of types, printed by a program of mine (gen_tab.py), checked by the kernel. -/
namespace Go.Proofs.YtnkpfpgmbpnbgaaGreatDoor
open Go.Eng

theorem tab_sc : ([(3, ()), (4, ()), (5, ()), (9, ()), (22, ()), (23, ()), (24, ()), (28, ()), (80, ()), (81, ()), (85, ()), (124, ()), (162, ())].all fun x : Nat × Unit => oneT Tryz.prog x.1) = true := by kernel_rfl
theorem tab_ag : ([(26, 6), (30, 3), (51, 5), (70, 6), (89, 5), (135, 3), (175, 20), (181, 2), (182, 32), (191, 32), (192, 64)].all fun x : Nat × Nat => aggT Tryz.prog x.1 == some x.2) = true := by kernel_rfl
theorem tab_fo : ([(26, 0, 0), (26, 1, 1), (26, 2, 2), (26, 3, 3), (26, 4, 4), (26, 5, 5), (30, 0, 0), (30, 1, 1), (30, 2, 2), (51, 0, 0), (51, 1, 1), (51, 2, 2), (51, 3, 3), (51, 4, 4), (70, 0, 0), (70, 1, 1), (70, 2, 2), (70, 3, 3), (70, 4, 4), (70, 5, 5), (83, 0, 0), (83, 1, 1), (135, 0, 0), (135, 1, 1), (135, 2, 2), (181, 0, 0), (181, 1, 1)].all fun x : Nat × Nat × Nat => fieldOff Tryz.prog x.1 x.2.1 == some x.2.2) = true := by kernel_rfl
theorem tab_sl : ([(22, (24, 1, 24)), (23, (135, 3, 24)), (24, (3, 1, 8)), (27, (70, 6, 48)), (28, (51, 5, 40)), (54, (4, 1, 1)), (55, (28, 1, 24)), (81, (5, 1, 1)), (94, (9, 1, 16))].all fun x : Nat × (Nat × Nat × Nat) => sliceT Tryz.prog x.1 == some x.2) = true := by kernel_rfl
theorem tab_ar : ([(89, (5, 3, 1)), (161, (24, 5, 1)), (175, (20, 162, 1)), (177, (65, 5, 1)), (179, (256, 5, 1)), (182, (16, 181, 2)), (191, (32, 5, 1)), (192, (64, 5, 1))].all fun x : Nat × (Nat × Nat × Nat) => arrayT Tryz.prog x.1 == some x.2) = true := by kernel_rfl
theorem tab_ik : ([(2, .i64), (3, .i64), (5, .u8), (21, .i32), (47, .u16), (125, .u64), (162, .u64), (176, .u32)].all fun x : Nat × IntKind => decide (intT Tryz.prog x.1 = some x.2)) = true := by kernel_rfl
theorem tab_st : ([(9, ())].all fun x : Nat × Unit => stringT Tryz.prog x.1) = true := by kernel_rfl
def T : Tab Tryz.prog := ⟨_, _, _, _, _, _, _, tab_sc, tab_ag, tab_fo, tab_sl, tab_ar, tab_ik, tab_st⟩

theorem tab_zt : ([(3, .int .i64 0), (4, .bool false), (5, .int .u8 0), (9, .string ⟨#[]⟩), (24, .slice none 0 0), (26, .agg #[.int .i64 0, .slice none 0 0, .int .i64 0, .int .i64 0, .slice none 0 0, .slice none 0 0]), (28, .slice none 0 0), (30, .agg #[.int .i64 0, .int .i64 0, .slice none 0 0]), (51, .agg #[.int .i64 0, .int .i64 0, .int .i64 0, .int .i64 0, .int .i64 0]), (70, .agg #[.int .i64 0, .int .i64 0, .int .i64 0, .int .i64 0, .int .i64 0, .int .i64 0]), (83, .agg #[.pointer none, .slice none 0 0]), (89, .agg #[.int .i64 0, .int .i64 0, .int .i64 0, .int .i64 0, .int .i64 0]), (124, .nilFunc), (135, .agg #[.int .i64 0, .int .i64 0, .int .i64 0]), (161, .agg #[.int .u8 0, .int .u8 0, .int .u8 0, .int .u8 0, .int .u8 0, .int .u8 0, .int .u8 0, .int .u8 0, .int .u8 0, .int .u8 0, .int .u8 0, .int .u8 0, .int .u8 0, .int .u8 0, .int .u8 0, .int .u8 0, .int .u8 0, .int .u8 0, .int .u8 0, .int .u8 0, .int .u8 0, .int .u8 0, .int .u8 0, .int .u8 0]), (172, .agg #[.string ⟨#[]⟩, .string ⟨#[]⟩, .nilIface]), (175, .agg #[.int .u64 0, .int .u64 0, .int .u64 0, .int .u64 0, .int .u64 0, .int .u64 0, .int .u64 0, .int .u64 0, .int .u64 0, .int .u64 0, .int .u64 0, .int .u64 0, .int .u64 0, .int .u64 0, .int .u64 0, .int .u64 0, .int .u64 0, .int .u64 0, .int .u64 0, .int .u64 0]), (177, .agg #[.int .u8 0, .int .u8 0, .int .u8 0, .int .u8 0, .int .u8 0, .int .u8 0, .int .u8 0, .int .u8 0, .int .u8 0, .int .u8 0, .int .u8 0, .int .u8 0, .int .u8 0, .int .u8 0, .int .u8 0, .int .u8 0, .int .u8 0, .int .u8 0, .int .u8 0, .int .u8 0, .int .u8 0, .int .u8 0, .int .u8 0, .int .u8 0, .int .u8 0, .int .u8 0, .int .u8 0, .int .u8 0, .int .u8 0, .int .u8 0, .int .u8 0, .int .u8 0, .int .u8 0, .int .u8 0, .int .u8 0, .int .u8 0, .int .u8 0, .int .u8 0, .int .u8 0, .int .u8 0, .int .u8 0, .int .u8 0, .int .u8 0, .int .u8 0, .int .u8 0, .int .u8 0, .int .u8 0, .int .u8 0, .int .u8 0, .int .u8 0, .int .u8 0, .int .u8 0, .int .u8 0, .int .u8 0, .int .u8 0, .int .u8 0, .int .u8 0, .int .u8 0, .int .u8 0, .int .u8 0, .int .u8 0, .int .u8 0, .int .u8 0, .int .u8 0, .int .u8 0]), (181, .agg #[.int .u8 0, .int .u8 0]), (182, .agg #[.int .u8 0, .int .u8 0, .int .u8 0, .int .u8 0, .int .u8 0, .int .u8 0, .int .u8 0, .int .u8 0, .int .u8 0, .int .u8 0, .int .u8 0, .int .u8 0, .int .u8 0, .int .u8 0, .int .u8 0, .int .u8 0, .int .u8 0, .int .u8 0, .int .u8 0, .int .u8 0, .int .u8 0, .int .u8 0, .int .u8 0, .int .u8 0, .int .u8 0, .int .u8 0, .int .u8 0, .int .u8 0, .int .u8 0, .int .u8 0, .int .u8 0, .int .u8 0]), (189, .agg #[.string ⟨#[]⟩]), (191, .agg #[.int .u8 0, .int .u8 0, .int .u8 0, .int .u8 0, .int .u8 0, .int .u8 0, .int .u8 0, .int .u8 0, .int .u8 0, .int .u8 0, .int .u8 0, .int .u8 0, .int .u8 0, .int .u8 0, .int .u8 0, .int .u8 0, .int .u8 0, .int .u8 0, .int .u8 0, .int .u8 0, .int .u8 0, .int .u8 0, .int .u8 0, .int .u8 0, .int .u8 0, .int .u8 0, .int .u8 0, .int .u8 0, .int .u8 0, .int .u8 0, .int .u8 0, .int .u8 0]), (192, .agg #[.int .u8 0, .int .u8 0, .int .u8 0, .int .u8 0, .int .u8 0, .int .u8 0, .int .u8 0, .int .u8 0, .int .u8 0, .int .u8 0, .int .u8 0, .int .u8 0, .int .u8 0, .int .u8 0, .int .u8 0, .int .u8 0, .int .u8 0, .int .u8 0, .int .u8 0, .int .u8 0, .int .u8 0, .int .u8 0, .int .u8 0, .int .u8 0, .int .u8 0, .int .u8 0, .int .u8 0, .int .u8 0, .int .u8 0, .int .u8 0, .int .u8 0, .int .u8 0, .int .u8 0, .int .u8 0, .int .u8 0, .int .u8 0, .int .u8 0, .int .u8 0, .int .u8 0, .int .u8 0, .int .u8 0, .int .u8 0, .int .u8 0, .int .u8 0, .int .u8 0, .int .u8 0, .int .u8 0, .int .u8 0, .int .u8 0, .int .u8 0, .int .u8 0, .int .u8 0, .int .u8 0, .int .u8 0, .int .u8 0, .int .u8 0, .int .u8 0, .int .u8 0, .int .u8 0, .int .u8 0, .int .u8 0, .int .u8 0, .int .u8 0, .int .u8 0])].map fun x : Nat × Value => zeroT Tryz.prog x.1) = [(3, .int .i64 0), (4, .bool false), (5, .int .u8 0), (9, .string ⟨#[]⟩), (24, .slice none 0 0), (26, .agg #[.int .i64 0, .slice none 0 0, .int .i64 0, .int .i64 0, .slice none 0 0, .slice none 0 0]), (28, .slice none 0 0), (30, .agg #[.int .i64 0, .int .i64 0, .slice none 0 0]), (51, .agg #[.int .i64 0, .int .i64 0, .int .i64 0, .int .i64 0, .int .i64 0]), (70, .agg #[.int .i64 0, .int .i64 0, .int .i64 0, .int .i64 0, .int .i64 0, .int .i64 0]), (83, .agg #[.pointer none, .slice none 0 0]), (89, .agg #[.int .i64 0, .int .i64 0, .int .i64 0, .int .i64 0, .int .i64 0]), (124, .nilFunc), (135, .agg #[.int .i64 0, .int .i64 0, .int .i64 0]), (161, .agg #[.int .u8 0, .int .u8 0, .int .u8 0, .int .u8 0, .int .u8 0, .int .u8 0, .int .u8 0, .int .u8 0, .int .u8 0, .int .u8 0, .int .u8 0, .int .u8 0, .int .u8 0, .int .u8 0, .int .u8 0, .int .u8 0, .int .u8 0, .int .u8 0, .int .u8 0, .int .u8 0, .int .u8 0, .int .u8 0, .int .u8 0, .int .u8 0]), (172, .agg #[.string ⟨#[]⟩, .string ⟨#[]⟩, .nilIface]), (175, .agg #[.int .u64 0, .int .u64 0, .int .u64 0, .int .u64 0, .int .u64 0, .int .u64 0, .int .u64 0, .int .u64 0, .int .u64 0, .int .u64 0, .int .u64 0, .int .u64 0, .int .u64 0, .int .u64 0, .int .u64 0, .int .u64 0, .int .u64 0, .int .u64 0, .int .u64 0, .int .u64 0]), (177, .agg #[.int .u8 0, .int .u8 0, .int .u8 0, .int .u8 0, .int .u8 0, .int .u8 0, .int .u8 0, .int .u8 0, .int .u8 0, .int .u8 0, .int .u8 0, .int .u8 0, .int .u8 0, .int .u8 0, .int .u8 0, .int .u8 0, .int .u8 0, .int .u8 0, .int .u8 0, .int .u8 0, .int .u8 0, .int .u8 0, .int .u8 0, .int .u8 0, .int .u8 0, .int .u8 0, .int .u8 0, .int .u8 0, .int .u8 0, .int .u8 0, .int .u8 0, .int .u8 0, .int .u8 0, .int .u8 0, .int .u8 0, .int .u8 0, .int .u8 0, .int .u8 0, .int .u8 0, .int .u8 0, .int .u8 0, .int .u8 0, .int .u8 0, .int .u8 0, .int .u8 0, .int .u8 0, .int .u8 0, .int .u8 0, .int .u8 0, .int .u8 0, .int .u8 0, .int .u8 0, .int .u8 0, .int .u8 0, .int .u8 0, .int .u8 0, .int .u8 0, .int .u8 0, .int .u8 0, .int .u8 0, .int .u8 0, .int .u8 0, .int .u8 0, .int .u8 0, .int .u8 0]), (181, .agg #[.int .u8 0, .int .u8 0]), (182, .agg #[.int .u8 0, .int .u8 0, .int .u8 0, .int .u8 0, .int .u8 0, .int .u8 0, .int .u8 0, .int .u8 0, .int .u8 0, .int .u8 0, .int .u8 0, .int .u8 0, .int .u8 0, .int .u8 0, .int .u8 0, .int .u8 0, .int .u8 0, .int .u8 0, .int .u8 0, .int .u8 0, .int .u8 0, .int .u8 0, .int .u8 0, .int .u8 0, .int .u8 0, .int .u8 0, .int .u8 0, .int .u8 0, .int .u8 0, .int .u8 0, .int .u8 0, .int .u8 0]), (189, .agg #[.string ⟨#[]⟩]), (191, .agg #[.int .u8 0, .int .u8 0, .int .u8 0, .int .u8 0, .int .u8 0, .int .u8 0, .int .u8 0, .int .u8 0, .int .u8 0, .int .u8 0, .int .u8 0, .int .u8 0, .int .u8 0, .int .u8 0, .int .u8 0, .int .u8 0, .int .u8 0, .int .u8 0, .int .u8 0, .int .u8 0, .int .u8 0, .int .u8 0, .int .u8 0, .int .u8 0, .int .u8 0, .int .u8 0, .int .u8 0, .int .u8 0, .int .u8 0, .int .u8 0, .int .u8 0, .int .u8 0]), (192, .agg #[.int .u8 0, .int .u8 0, .int .u8 0, .int .u8 0, .int .u8 0, .int .u8 0, .int .u8 0, .int .u8 0, .int .u8 0, .int .u8 0, .int .u8 0, .int .u8 0, .int .u8 0, .int .u8 0, .int .u8 0, .int .u8 0, .int .u8 0, .int .u8 0, .int .u8 0, .int .u8 0, .int .u8 0, .int .u8 0, .int .u8 0, .int .u8 0, .int .u8 0, .int .u8 0, .int .u8 0, .int .u8 0, .int .u8 0, .int .u8 0, .int .u8 0, .int .u8 0, .int .u8 0, .int .u8 0, .int .u8 0, .int .u8 0, .int .u8 0, .int .u8 0, .int .u8 0, .int .u8 0, .int .u8 0, .int .u8 0, .int .u8 0, .int .u8 0, .int .u8 0, .int .u8 0, .int .u8 0, .int .u8 0, .int .u8 0, .int .u8 0, .int .u8 0, .int .u8 0, .int .u8 0, .int .u8 0, .int .u8 0, .int .u8 0, .int .u8 0, .int .u8 0, .int .u8 0, .int .u8 0, .int .u8 0, .int .u8 0, .int .u8 0, .int .u8 0])].map fun x : Nat × Value => some x.2 := by kernel_rfl
theorem tab_bt : ([(26, [(0, 1), (1, 1), (2, 1), (3, 1), (4, 1), (5, 1)]), (30, [(0, 1), (1, 1), (2, 1)]), (51, [(0, 1), (1, 1), (2, 1), (3, 1), (4, 1)]), (89, [(0, 1), (1, 1), (2, 1), (3, 1), (4, 1)]), (135, [(0, 1), (1, 1), (2, 1)]), (172, [(0, 1), (1, 1), (2, 1)]), (175, [(0, 1), (1, 1), (2, 1), (3, 1), (4, 1), (5, 1), (6, 1), (7, 1), (8, 1), (9, 1), (10, 1), (11, 1), (12, 1), (13, 1), (14, 1), (15, 1), (16, 1), (17, 1), (18, 1), (19, 1)]), (181, [(0, 1), (1, 1)]), (182, [(0, 2), (2, 2), (4, 2), (6, 2), (8, 2), (10, 2), (12, 2), (14, 2), (16, 2), (18, 2), (20, 2), (22, 2), (24, 2), (26, 2), (28, 2), (30, 2)]), (189, [(0, 1)]), (191, [(0, 1), (1, 1), (2, 1), (3, 1), (4, 1), (5, 1), (6, 1), (7, 1), (8, 1), (9, 1), (10, 1), (11, 1), (12, 1), (13, 1), (14, 1), (15, 1), (16, 1), (17, 1), (18, 1), (19, 1), (20, 1), (21, 1), (22, 1), (23, 1), (24, 1), (25, 1), (26, 1), (27, 1), (28, 1), (29, 1), (30, 1), (31, 1)]), (192, [(0, 1), (1, 1), (2, 1), (3, 1), (4, 1), (5, 1), (6, 1), (7, 1), (8, 1), (9, 1), (10, 1), (11, 1), (12, 1), (13, 1), (14, 1), (15, 1), (16, 1), (17, 1), (18, 1), (19, 1), (20, 1), (21, 1), (22, 1), (23, 1), (24, 1), (25, 1), (26, 1), (27, 1), (28, 1), (29, 1), (30, 1), (31, 1), (32, 1), (33, 1), (34, 1), (35, 1), (36, 1), (37, 1), (38, 1), (39, 1), (40, 1), (41, 1), (42, 1), (43, 1), (44, 1), (45, 1), (46, 1), (47, 1), (48, 1), (49, 1), (50, 1), (51, 1), (52, 1), (53, 1), (54, 1), (55, 1), (56, 1), (57, 1), (58, 1), (59, 1), (60, 1), (61, 1), (62, 1), (63, 1)])].map fun x : Nat × List (Nat × Nat) => structPl Tryz.prog x.1) = [(26, [(0, 1), (1, 1), (2, 1), (3, 1), (4, 1), (5, 1)]), (30, [(0, 1), (1, 1), (2, 1)]), (51, [(0, 1), (1, 1), (2, 1), (3, 1), (4, 1)]), (89, [(0, 1), (1, 1), (2, 1), (3, 1), (4, 1)]), (135, [(0, 1), (1, 1), (2, 1)]), (172, [(0, 1), (1, 1), (2, 1)]), (175, [(0, 1), (1, 1), (2, 1), (3, 1), (4, 1), (5, 1), (6, 1), (7, 1), (8, 1), (9, 1), (10, 1), (11, 1), (12, 1), (13, 1), (14, 1), (15, 1), (16, 1), (17, 1), (18, 1), (19, 1)]), (181, [(0, 1), (1, 1)]), (182, [(0, 2), (2, 2), (4, 2), (6, 2), (8, 2), (10, 2), (12, 2), (14, 2), (16, 2), (18, 2), (20, 2), (22, 2), (24, 2), (26, 2), (28, 2), (30, 2)]), (189, [(0, 1)]), (191, [(0, 1), (1, 1), (2, 1), (3, 1), (4, 1), (5, 1), (6, 1), (7, 1), (8, 1), (9, 1), (10, 1), (11, 1), (12, 1), (13, 1), (14, 1), (15, 1), (16, 1), (17, 1), (18, 1), (19, 1), (20, 1), (21, 1), (22, 1), (23, 1), (24, 1), (25, 1), (26, 1), (27, 1), (28, 1), (29, 1), (30, 1), (31, 1)]), (192, [(0, 1), (1, 1), (2, 1), (3, 1), (4, 1), (5, 1), (6, 1), (7, 1), (8, 1), (9, 1), (10, 1), (11, 1), (12, 1), (13, 1), (14, 1), (15, 1), (16, 1), (17, 1), (18, 1), (19, 1), (20, 1), (21, 1), (22, 1), (23, 1), (24, 1), (25, 1), (26, 1), (27, 1), (28, 1), (29, 1), (30, 1), (31, 1), (32, 1), (33, 1), (34, 1), (35, 1), (36, 1), (37, 1), (38, 1), (39, 1), (40, 1), (41, 1), (42, 1), (43, 1), (44, 1), (45, 1), (46, 1), (47, 1), (48, 1), (49, 1), (50, 1), (51, 1), (52, 1), (53, 1), (54, 1), (55, 1), (56, 1), (57, 1), (58, 1), (59, 1), (60, 1), (61, 1), (62, 1), (63, 1)])].map fun x : Nat × List (Nat × Nat) => some x.2 := by kernel_rfl
def T2 : Tab2 Tryz.prog := ⟨_, _, tab_zt, tab_bt⟩

theorem en11 (xs : Array Value) (w : World) : (callFunc 11 xs).run Tryz.prog w = .ok (.enter 11 xs) w := by kernel_rfl
theorem en12 (xs : Array Value) (w : World) : (callFunc 12 xs).run Tryz.prog w = .ok (.enter 12 xs) w := by kernel_rfl
theorem en14 (xs : Array Value) (w : World) : (callFunc 14 xs).run Tryz.prog w = .ok (.enter 14 xs) w := by kernel_rfl
theorem en16 (xs : Array Value) (w : World) : (callFunc 16 xs).run Tryz.prog w = .ok (.enter 16 xs) w := by kernel_rfl
theorem en18 (xs : Array Value) (w : World) : (callFunc 18 xs).run Tryz.prog w = .ok (.enter 18 xs) w := by kernel_rfl
theorem en20 (xs : Array Value) (w : World) : (callFunc 20 xs).run Tryz.prog w = .ok (.enter 20 xs) w := by kernel_rfl
theorem en21 (xs : Array Value) (w : World) : (callFunc 21 xs).run Tryz.prog w = .ok (.enter 21 xs) w := by kernel_rfl
theorem en23 (xs : Array Value) (w : World) : (callFunc 23 xs).run Tryz.prog w = .ok (.enter 23 xs) w := by kernel_rfl
theorem en24 (xs : Array Value) (w : World) : (callFunc 24 xs).run Tryz.prog w = .ok (.enter 24 xs) w := by kernel_rfl
theorem en25 (xs : Array Value) (w : World) : (callFunc 25 xs).run Tryz.prog w = .ok (.enter 25 xs) w := by kernel_rfl
theorem en33 (xs : Array Value) (w : World) : (callFunc 33 xs).run Tryz.prog w = .ok (.enter 33 xs) w := by kernel_rfl
theorem en37 (xs : Array Value) (w : World) : (callFunc 37 xs).run Tryz.prog w = .ok (.enter 37 xs) w := by kernel_rfl
theorem en38 (xs : Array Value) (w : World) : (callFunc 38 xs).run Tryz.prog w = .ok (.enter 38 xs) w := by kernel_rfl
theorem en39 (xs : Array Value) (w : World) : (callFunc 39 xs).run Tryz.prog w = .ok (.enter 39 xs) w := by kernel_rfl
theorem en40 (xs : Array Value) (w : World) : (callFunc 40 xs).run Tryz.prog w = .ok (.enter 40 xs) w := by kernel_rfl
theorem en41 (xs : Array Value) (w : World) : (callFunc 41 xs).run Tryz.prog w = .ok (.enter 41 xs) w := by kernel_rfl
theorem en42 (xs : Array Value) (w : World) : (callFunc 42 xs).run Tryz.prog w = .ok (.enter 42 xs) w := by kernel_rfl
theorem en43 (xs : Array Value) (w : World) : (callFunc 43 xs).run Tryz.prog w = .ok (.enter 43 xs) w := by kernel_rfl
theorem en44 (xs : Array Value) (w : World) : (callFunc 44 xs).run Tryz.prog w = .ok (.enter 44 xs) w := by kernel_rfl
theorem en45 (xs : Array Value) (w : World) : (callFunc 45 xs).run Tryz.prog w = .ok (.enter 45 xs) w := by kernel_rfl
theorem en53 (xs : Array Value) (w : World) : (callFunc 53 xs).run Tryz.prog w = .ok (.enter 53 xs) w := by kernel_rfl
theorem en54 (xs : Array Value) (w : World) : (callFunc 54 xs).run Tryz.prog w = .ok (.enter 54 xs) w := by kernel_rfl
theorem en55 (xs : Array Value) (w : World) : (callFunc 55 xs).run Tryz.prog w = .ok (.enter 55 xs) w := by kernel_rfl
theorem en56 (xs : Array Value) (w : World) : (callFunc 56 xs).run Tryz.prog w = .ok (.enter 56 xs) w := by kernel_rfl
theorem en57 (xs : Array Value) (w : World) : (callFunc 57 xs).run Tryz.prog w = .ok (.enter 57 xs) w := by kernel_rfl
theorem en61 (xs : Array Value) (w : World) : (callFunc 61 xs).run Tryz.prog w = .ok (.enter 61 xs) w := by kernel_rfl
theorem en62 (xs : Array Value) (w : World) : (callFunc 62 xs).run Tryz.prog w = .ok (.enter 62 xs) w := by kernel_rfl
theorem en65 (xs : Array Value) (w : World) : (callFunc 65 xs).run Tryz.prog w = .ok (.enter 65 xs) w := by kernel_rfl
theorem en68 (xs : Array Value) (w : World) : (callFunc 68 xs).run Tryz.prog w = .ok (.enter 68 xs) w := by kernel_rfl
theorem en71 (xs : Array Value) (w : World) : (callFunc 71 xs).run Tryz.prog w = .ok (.enter 71 xs) w := by kernel_rfl
theorem en80 (xs : Array Value) (w : World) : (callFunc 80 xs).run Tryz.prog w = .ok (.enter 80 xs) w := by kernel_rfl
theorem en81 (xs : Array Value) (w : World) : (callFunc 81 xs).run Tryz.prog w = .ok (.enter 81 xs) w := by kernel_rfl
theorem en82 (xs : Array Value) (w : World) : (callFunc 82 xs).run Tryz.prog w = .ok (.enter 82 xs) w := by kernel_rfl
theorem en83 (xs : Array Value) (w : World) : (callFunc 83 xs).run Tryz.prog w = .ok (.enter 83 xs) w := by kernel_rfl
theorem en84 (xs : Array Value) (w : World) : (callFunc 84 xs).run Tryz.prog w = .ok (.enter 84 xs) w := by kernel_rfl
theorem en85 (xs : Array Value) (w : World) : (callFunc 85 xs).run Tryz.prog w = .ok (.enter 85 xs) w := by kernel_rfl
theorem en86 (xs : Array Value) (w : World) : (callFunc 86 xs).run Tryz.prog w = .ok (.enter 86 xs) w := by kernel_rfl
theorem en87 (xs : Array Value) (w : World) : (callFunc 87 xs).run Tryz.prog w = .ok (.enter 87 xs) w := by kernel_rfl
theorem en88 (xs : Array Value) (w : World) : (callFunc 88 xs).run Tryz.prog w = .ok (.enter 88 xs) w := by kernel_rfl
theorem en89 (xs : Array Value) (w : World) : (callFunc 89 xs).run Tryz.prog w = .ok (.enter 89 xs) w := by kernel_rfl
theorem en95 (xs : Array Value) (w : World) : (callFunc 95 xs).run Tryz.prog w = .ok (.enter 95 xs) w := by kernel_rfl
theorem en96 (xs : Array Value) (w : World) : (callFunc 96 xs).run Tryz.prog w = .ok (.enter 96 xs) w := by kernel_rfl
theorem en99 (xs : Array Value) (w : World) : (callFunc 99 xs).run Tryz.prog w = .ok (.enter 99 xs) w := by kernel_rfl
theorem en102 (xs : Array Value) (w : World) : (callFunc 102 xs).run Tryz.prog w = .ok (.enter 102 xs) w := by kernel_rfl
theorem en104 (xs : Array Value) (w : World) : (callFunc 104 xs).run Tryz.prog w = .ok (.enter 104 xs) w := by kernel_rfl
theorem en105 (xs : Array Value) (w : World) : (callFunc 105 xs).run Tryz.prog w = .ok (.enter 105 xs) w := by kernel_rfl
theorem en110 (xs : Array Value) (w : World) : (callFunc 110 xs).run Tryz.prog w = .ok (.enter 110 xs) w := by kernel_rfl
theorem en111 (xs : Array Value) (w : World) : (callFunc 111 xs).run Tryz.prog w = .ok (.enter 111 xs) w := by kernel_rfl
theorem en112 (xs : Array Value) (w : World) : (callFunc 112 xs).run Tryz.prog w = .ok (.enter 112 xs) w := by kernel_rfl
theorem en113 (xs : Array Value) (w : World) : (callFunc 113 xs).run Tryz.prog w = .ok (.enter 113 xs) w := by kernel_rfl
theorem en114 (xs : Array Value) (w : World) : (callFunc 114 xs).run Tryz.prog w = .ok (.enter 114 xs) w := by kernel_rfl
theorem en115 (xs : Array Value) (w : World) : (callFunc 115 xs).run Tryz.prog w = .ok (.enter 115 xs) w := by kernel_rfl
theorem en116 (xs : Array Value) (w : World) : (callFunc 116 xs).run Tryz.prog w = .ok (.enter 116 xs) w := by kernel_rfl
theorem en117 (xs : Array Value) (w : World) : (callFunc 117 xs).run Tryz.prog w = .ok (.enter 117 xs) w := by kernel_rfl
theorem en118 (xs : Array Value) (w : World) : (callFunc 118 xs).run Tryz.prog w = .ok (.enter 118 xs) w := by kernel_rfl
theorem en119 (xs : Array Value) (w : World) : (callFunc 119 xs).run Tryz.prog w = .ok (.enter 119 xs) w := by kernel_rfl
theorem en120 (xs : Array Value) (w : World) : (callFunc 120 xs).run Tryz.prog w = .ok (.enter 120 xs) w := by kernel_rfl
theorem en121 (xs : Array Value) (w : World) : (callFunc 121 xs).run Tryz.prog w = .ok (.enter 121 xs) w := by kernel_rfl
theorem en122 (xs : Array Value) (w : World) : (callFunc 122 xs).run Tryz.prog w = .ok (.enter 122 xs) w := by kernel_rfl
theorem en123 (xs : Array Value) (w : World) : (callFunc 123 xs).run Tryz.prog w = .ok (.enter 123 xs) w := by kernel_rfl
theorem en124 (xs : Array Value) (w : World) : (callFunc 124 xs).run Tryz.prog w = .ok (.enter 124 xs) w := by kernel_rfl
theorem en125 (xs : Array Value) (w : World) : (callFunc 125 xs).run Tryz.prog w = .ok (.enter 125 xs) w := by kernel_rfl
theorem en141 (xs : Array Value) (w : World) : (callFunc 141 xs).run Tryz.prog w = .ok (.enter 141 xs) w := by kernel_rfl
theorem en143 (xs : Array Value) (w : World) : (callFunc 143 xs).run Tryz.prog w = .ok (.enter 143 xs) w := by kernel_rfl
theorem en144 (xs : Array Value) (w : World) : (callFunc 144 xs).run Tryz.prog w = .ok (.enter 144 xs) w := by kernel_rfl
theorem en145 (xs : Array Value) (w : World) : (callFunc 145 xs).run Tryz.prog w = .ok (.enter 145 xs) w := by kernel_rfl
theorem en146 (xs : Array Value) (w : World) : (callFunc 146 xs).run Tryz.prog w = .ok (.enter 146 xs) w := by kernel_rfl
theorem en147 (xs : Array Value) (w : World) : (callFunc 147 xs).run Tryz.prog w = .ok (.enter 147 xs) w := by kernel_rfl
theorem en148 (xs : Array Value) (w : World) : (callFunc 148 xs).run Tryz.prog w = .ok (.enter 148 xs) w := by kernel_rfl
theorem en160 (xs : Array Value) (w : World) : (callFunc 160 xs).run Tryz.prog w = .ok (.enter 160 xs) w := by kernel_rfl
theorem z3 (w : World) : (zeroValue 3).run Tryz.prog w = .ok (.int .i64 0) w := by kernel_rfl
theorem z4 (w : World) : (zeroValue 4).run Tryz.prog w = .ok (.bool false) w := by kernel_rfl
theorem z51 (w : World) : (zeroValue 51).run Tryz.prog w = .ok (.agg #[.int .i64 0, .int .i64 0, .int .i64 0, .int .i64 0, .int .i64 0]) w := by kernel_rfl
theorem z70 (w : World) : (zeroValue 70).run Tryz.prog w = .ok (.agg #[.int .i64 0, .int .i64 0, .int .i64 0, .int .i64 0, .int .i64 0, .int .i64 0]) w := by kernel_rfl
end Go.Proofs.YtnkpfpgmbpnbgaaGreatDoor

/- The laws of operations once more, their premises found by themselves, under short names; printed by a program of mine (gen_steps.py). -/
namespace Go.Eng
open Go.RowKit Go.Proofs Go.Proofs.YtnkpfpgmbpnbgaaGreatDoor
section
variable {m : Mode} {n : Shp} {B : Nat} {w0 : World} {ops : Array Oper} {Q : Exit → Act → World → Prop} {rest : List Oper} {env : Env} {H : List HP} {d : Nat} {ty : TypeId} {pos : String} {after : Array Edge} {xt yt : TypeId} {x y : Operand} {k : IntKind} {a b : Int} {s t : ByteArray}
theorem zs1 {x : Operand} {v : Value} (h : VL Tryz.prog m n B w0 ops Q rest ((d, v) :: env) H) (hx : evo env x = some v := by exact rfl) (hn : Nat.ble (d + 1) n.k = true := by exact rfl) : VL Tryz.prog m n B w0 ops Q (⟨some d, .move x, ty, pos, after, none⟩ :: rest) env H := VL_move hx hn h
theorem zs2 {x : Operand} {v : Value} (h : VL Tryz.prog m n B w0 ops Q rest ((d, v) :: env) H) (hx : evo env x = some v := by exact rfl) (hn : Nat.ble (d + 1) n.k = true := by exact rfl) : VL Tryz.prog m n B w0 ops Q (⟨some d, .assign x, ty, pos, after, none⟩ :: rest) env H := VL_assign hx hn h
theorem zs3 {m : Mode} {d : Nat} {op : Op} {ty : TypeId} {pos : String} {after : Array Edge} {j s : Nat} {b : Bool} {v : Value} {oj : Oper} (h : VL Tryz.prog m n B w0 ops Q rest ((d, undef) :: env) H) (hj : ops[j]? = some oj := by exact rfl) (hs : oj.dst = some s := by exact rfl) (hv : get env s = some v := by exact rfl) (hne : notB v b = true := by exact rfl) (hn : Nat.ble (d + 1) n.k = true := by exact rfl) : VL Tryz.prog m n B w0 ops Q (⟨some d, op, ty, pos, after, some (j, b)⟩ :: rest) env H := VL_guard_no hj hs hv hne hn h
theorem zs4 {m : Mode} {dst : Option Tmp} {op : Op} {ty : TypeId} {pos : String} {after : Array Edge} {j s : Nat} {b : Bool} {oj : Oper} (h : VL Tryz.prog m n B w0 ops Q (⟨dst, op, ty, pos, after, none⟩ :: rest) env H) (hj : ops[j]? = some oj := by exact rfl) (hs : oj.dst = some s := by exact rfl) (hv : get env s = some (.bool b) := by exact rfl) : VL Tryz.prog m n B w0 ops Q (⟨dst, op, ty, pos, after, some (j, b)⟩ :: rest) env H := VL_guard_yes hj hs hv h
theorem zs5 {x : Operand} {p : Addr} (h : VL Tryz.prog m n B w0 ops Q rest ((d, .pointer (some p)) :: env) H) (hx : evo env x = some (.pointer (some p)) := by exact rfl) (hn : Nat.ble (d + 1) n.k = true := by exact rfl) : VL Tryz.prog m n B w0 ops Q (⟨some d, .nilCheck x, ty, pos, after, none⟩ :: rest) env H := VL_nilCheck hx hn h
theorem zs6 {s f k g i : Nat} {x : Operand} (h : VL Tryz.prog m n B w0 ops Q rest ((d, .pointer (some ⟨g, i + k, none⟩)) :: env) H) (hx : evo env x = some (.pointer (some ⟨g, i, none⟩)) := by exact rfl) (hf : look2 T.fo s f = some k := by exact rfl) (hn : Nat.ble (d + 1) n.k = true := by exact rfl) : VL Tryz.prog m n B w0 ops Q (⟨some d, .fieldAddr s x f, ty, pos, after, none⟩ :: rest) env H := VL_fieldAddr T hx hf hn h
theorem zs7 {t g i : Nat} {cs : Array Value} {tt : TypeId} {fr : Nat × Nat} {v : Value} {x : Operand} (h : VL Tryz.prog m n B w0 ops Q rest ((d, v) :: env) H) (hx : evo env x = some (.pointer (some ⟨g, i, none⟩)) := by exact rfl) (hm : blk g (.cells cs tt fr) ∈ H := by ((focus repeat (first | with_reducible exact List.mem_cons_self | with_reducible apply List.mem_cons_of_mem | assumption)); done)) (hv : nth cs.toList i = some v := by exact rfl) (ht : look T.sc t = some () := by exact rfl) (hn : Nat.ble (d + 1) n.k = true := by exact rfl) : VL Tryz.prog m n B w0 ops Q (⟨some d, .load t x, ty, pos, after, none⟩ :: rest) env H := VL_load T hx hm hv ht hn h
theorem zs8 {t g k : Nat} {cs : Array Value} {tt : TypeId} {fr : Nat × Nat} {x : Operand} (h : VL Tryz.prog m n B w0 ops Q rest ((d, .agg cs) :: env) H) (hx : evo env x = some (.pointer (some ⟨g, 0, none⟩)) := by exact rfl) (hm : blk g (.cells cs tt fr) ∈ H := by ((focus repeat (first | with_reducible exact List.mem_cons_self | with_reducible apply List.mem_cons_of_mem | assumption)); done)) (ht : look T.ag t = some k := by exact rfl) (hk : cs.size = k := by exact rfl) (hn : Nat.ble (d + 1) n.k = true := by exact rfl) : VL Tryz.prog m n B w0 ops Q (⟨some d, .load t x, ty, pos, after, none⟩ :: rest) env H := VL_load_whole T hx hm ht hk hn h
theorem zs9 {tx : Nat} {x : Operand} {A : Option Addr} {k cap : Nat} {es : Nat × Nat × Nat} (h : VL Tryz.prog m n B w0 ops Q rest ((d, .int .i64 k) :: env) H) (hx : evo env x = some (.slice A k cap) := by exact rfl) (ht : look T.sl tx = some es := by exact rfl) (hn : Nat.ble (d + 1) n.k = true := by exact rfl) : VL Tryz.prog m n B w0 ops Q (⟨some d, .call ⟨.builtin .len, #[x], #[tx]⟩, ty, pos, after, none⟩ :: rest) env H := VL_len T hx ht hn h
theorem zs10 {t : Nat} {x y : Operand} {A : Option Addr} {k cap : Nat} {xs : List Value} {e size bytes : Nat} {ki : IntKind} {i : Int} (h : VL Tryz.prog m n B w0 ops Q rest ((d, sptr A (i.toNat * size)) :: env) H) (hx : evo env x = some (.slice A k cap) := by exact rfl) (hm : sl e size A k cap xs ∈ H := by ((focus repeat (first | with_reducible exact List.mem_cons_self | with_reducible apply List.mem_cons_of_mem | assumption)); done)) (hy : evo env y = some (.int ki i) := by exact rfl) (ht : look T.sl t = some (e, size, bytes) := by exact rfl) (hn : Nat.ble (d + 1) n.k = true := by exact rfl) (hi : 0 ≤ i ∧ i < k := by omega) : VL Tryz.prog m n B w0 ops Q (⟨some d, .indexAddr t x y, ty, pos, after, none⟩ :: rest) env H := VL_index_sl T hx hm hy ht hn hi h
theorem zs11 {c x y : Operand} {v : Value} (h : VL Tryz.prog m n B w0 ops Q rest ((d, v) :: env) H) (hc : evo env c = some (.bool true) := by exact rfl) (hx : evo env x = some v := by exact rfl) (hn : Nat.ble (d + 1) n.k = true := by exact rfl) : VL Tryz.prog m n B w0 ops Q (⟨some d, .pick c x y, ty, pos, after, none⟩ :: rest) env H := VL_pick_true hc hx hn h
theorem zs12 {c x y : Operand} {v : Value} (h : VL Tryz.prog m n B w0 ops Q rest ((d, v) :: env) H) (hc : evo env c = some (.bool false) := by exact rfl) (hx : evo env y = some v := by exact rfl) (hn : Nat.ble (d + 1) n.k = true := by exact rfl) : VL Tryz.prog m n B w0 ops Q (⟨some d, .pick c x y, ty, pos, after, none⟩ :: rest) env H := VL_pick_false hc hx hn h
theorem zs13 {x : Operand} {i : Nat} {vs : Array Value} {v : Value} (h : VL Tryz.prog m n B w0 ops Q rest ((d, v) :: env) H) (hx : evo env x = some (.tuple vs) := by exact rfl) (hv : nth vs.toList i = some v := by exact rfl) (hn : Nat.ble (d + 1) n.k = true := by exact rfl) : VL Tryz.prog m n B w0 ops Q (⟨some d, .extract x i, ty, pos, after, none⟩ :: rest) env H := VL_extract hx hv hn h
theorem zs14 {tx : TypeId} (h : VL Tryz.prog m n B w0 ops Q rest ((d, .int .i64 s.size) :: env) H) (hx : evo env x = some (.string s) := by exact rfl) (ht : look T.st tx = some () := by exact rfl) (hn : Nat.ble (d + 1) n.k = true := by exact rfl) : VL Tryz.prog m n B w0 ops Q (⟨some d, .call ⟨.builtin .len, #[x], #[tx]⟩, ty, pos, after, none⟩ :: rest) env H := VL_slen T hx ht hn h
theorem zs15  (h1 : a = b → VL Tryz.prog m n B w0 ops Q rest ((d, .bool true) :: env) H) (h2 : a ≠ b → VL Tryz.prog m n B w0 ops Q rest ((d, .bool false) :: env) H) (hx : evo env x = some (.int k a) := by exact rfl) (hy : evo env y = some (.int k b) := by exact rfl) (hn : Nat.ble (d + 1) n.k = true := by exact rfl) : VL Tryz.prog m n B w0 ops Q (⟨some d, .binOp .eql xt x y yt, ty, pos, after, none⟩ :: rest) env H := VL_eql hx hy hn h1 h2
theorem zs16  (h1 : a ≠ b → VL Tryz.prog m n B w0 ops Q rest ((d, .bool true) :: env) H) (h2 : a = b → VL Tryz.prog m n B w0 ops Q rest ((d, .bool false) :: env) H) (hx : evo env x = some (.int k a) := by exact rfl) (hy : evo env y = some (.int k b) := by exact rfl) (hn : Nat.ble (d + 1) n.k = true := by exact rfl) : VL Tryz.prog m n B w0 ops Q (⟨some d, .binOp .neq xt x y yt, ty, pos, after, none⟩ :: rest) env H := VL_neq hx hy hn h1 h2
theorem zs17  (h1 : a < b → VL Tryz.prog m n B w0 ops Q rest ((d, .bool true) :: env) H) (h2 : b ≤ a → VL Tryz.prog m n B w0 ops Q rest ((d, .bool false) :: env) H) (hx : evo env x = some (.int k a) := by exact rfl) (hy : evo env y = some (.int k b) := by exact rfl) (hn : Nat.ble (d + 1) n.k = true := by exact rfl) : VL Tryz.prog m n B w0 ops Q (⟨some d, .binOp .lss xt x y yt, ty, pos, after, none⟩ :: rest) env H := VL_lss hx hy hn h1 h2
theorem zs18  (h1 : a ≤ b → VL Tryz.prog m n B w0 ops Q rest ((d, .bool true) :: env) H) (h2 : b < a → VL Tryz.prog m n B w0 ops Q rest ((d, .bool false) :: env) H) (hx : evo env x = some (.int k a) := by exact rfl) (hy : evo env y = some (.int k b) := by exact rfl) (hn : Nat.ble (d + 1) n.k = true := by exact rfl) : VL Tryz.prog m n B w0 ops Q (⟨some d, .binOp .leq xt x y yt, ty, pos, after, none⟩ :: rest) env H := VL_leq hx hy hn h1 h2
theorem zs19  (h1 : b < a → VL Tryz.prog m n B w0 ops Q rest ((d, .bool true) :: env) H) (h2 : a ≤ b → VL Tryz.prog m n B w0 ops Q rest ((d, .bool false) :: env) H) (hx : evo env x = some (.int k a) := by exact rfl) (hy : evo env y = some (.int k b) := by exact rfl) (hn : Nat.ble (d + 1) n.k = true := by exact rfl) : VL Tryz.prog m n B w0 ops Q (⟨some d, .binOp .gtr xt x y yt, ty, pos, after, none⟩ :: rest) env H := VL_gtr hx hy hn h1 h2
theorem zs20  (h1 : b ≤ a → VL Tryz.prog m n B w0 ops Q rest ((d, .bool true) :: env) H) (h2 : a < b → VL Tryz.prog m n B w0 ops Q rest ((d, .bool false) :: env) H) (hx : evo env x = some (.int k a) := by exact rfl) (hy : evo env y = some (.int k b) := by exact rfl) (hn : Nat.ble (d + 1) n.k = true := by exact rfl) : VL Tryz.prog m n B w0 ops Q (⟨some d, .binOp .geq xt x y yt, ty, pos, after, none⟩ :: rest) env H := VL_geq hx hy hn h1 h2
theorem zs25 {x y : Operand} {k : IntKind} {a b : Int} {tys : Array TypeId} (h1 : b < a → VL Tryz.prog m n B w0 ops Q rest ((d, .int k b) :: env) H) (h2 : a ≤ b → VL Tryz.prog m n B w0 ops Q rest ((d, .int k a) :: env) H) (hx : evo env x = some (.int k a) := by exact rfl) (hy : evo env y = some (.int k b) := by exact rfl) (hn : Nat.ble (d + 1) n.k = true := by exact rfl) : VL Tryz.prog m n B w0 ops Q (⟨some d, .call ⟨.builtin .min, #[x, y], tys⟩, ty, pos, after, none⟩ :: rest) env H := VL_min2 hx hy hn h1 h2
theorem zs30  (h : VL Tryz.prog m n B w0 ops Q rest ((d, .int .i64 (a + b)) :: env) H) (hx : evo env x = some (.int .i64 a) := by exact rfl) (hy : evo env y = some (.int .i64 b) := by exact rfl) (hn : Nat.ble (d + 1) n.k = true := by exact rfl) (hb : -9223372036854775808 ≤ a + b ∧ a + b ≤ 9223372036854775807 := by omega) : VL Tryz.prog m n B w0 ops Q (⟨some d, .binOp .add xt x y yt, ty, pos, after, none⟩ :: rest) env H := VL_add hx hy hn hb h
theorem zs31  (h : VL Tryz.prog m n B w0 ops Q rest ((d, .int .i64 (a - b)) :: env) H) (hx : evo env x = some (.int .i64 a) := by exact rfl) (hy : evo env y = some (.int .i64 b) := by exact rfl) (hn : Nat.ble (d + 1) n.k = true := by exact rfl) (hb : -9223372036854775808 ≤ a - b ∧ a - b ≤ 9223372036854775807 := by omega) : VL Tryz.prog m n B w0 ops Q (⟨some d, .binOp .sub xt x y yt, ty, pos, after, none⟩ :: rest) env H := VL_sub hx hy hn hb h
theorem zs32  (h : VL Tryz.prog m n B w0 ops Q rest ((d, .int .i64 (a * b)) :: env) H) (hx : evo env x = some (.int .i64 a) := by exact rfl) (hy : evo env y = some (.int .i64 b) := by exact rfl) (hn : Nat.ble (d + 1) n.k = true := by exact rfl) (hb : -9223372036854775808 ≤ a * b ∧ a * b ≤ 9223372036854775807 := by first | exact mul_bd (by omega) (by omega) (by omega) (by omega) | exact mul_bd' (by omega) (by omega) (by omega) (by omega) | omega) : VL Tryz.prog m n B w0 ops Q (⟨some d, .binOp .mul xt x y yt, ty, pos, after, none⟩ :: rest) env H := VL_mul hx hy hn hb h
theorem zs36  (h : VL Tryz.prog m n B w0 ops Q rest ((d, .int .i64 (a / b)) :: env) H) (hx : evo env x = some (.int .i64 a) := by exact rfl) (hy : evo env y = some (.int .i64 b) := by exact rfl) (hn : Nat.ble (d + 1) n.k = true := by exact rfl) (hb : 0 ≤ a ∧ a ≤ 9223372036854775807 ∧ 1 ≤ b := by omega) : VL Tryz.prog m n B w0 ops Q (⟨some d, .binOp .quo xt x y yt, ty, pos, after, none⟩ :: rest) env H := VL_quo hx hy hn hb h
theorem zs37  (h : VL Tryz.prog m n B w0 ops Q rest ((d, .int k (a % b)) :: env) H) (hx : evo env x = some (.int k a) := by exact rfl) (hy : evo env y = some (.int k b) := by exact rfl) (hn : Nat.ble (d + 1) n.k = true := by exact rfl) (hb : 0 ≤ a ∧ 1 ≤ b := by omega) : VL Tryz.prog m n B w0 ops Q (⟨some d, .binOp .rem xt x y yt, ty, pos, after, none⟩ :: rest) env H := VL_rem hx hy hn hb h
theorem zs38 {yk : IntKind} {D : Int} (h : VL Tryz.prog m n B w0 ops Q rest ((d, .int k (a / D)) :: env) H) (hx : evo env x = some (.int k a) := by exact rfl) (hn : Nat.ble (d + 1) n.k = true := by exact rfl) (hb : 0 ≤ b ∧ b ≤ k.bits := by (simp only [IntKind.bits]; omega)) (hD : (2 : Int) ^ b.toNat = D := by (simp only [Int.reduceToNat, Int.reducePow]; rfl)) : VL Tryz.prog m n B w0 ops Q (⟨some d, .binOp .shr xt x (.const (.int yk b)) yt, ty, pos, after, none⟩ :: rest) env H := VL_shr_c hx hn hb hD h
theorem zs44 {src dst : TypeId} {j : IntKind} (h : VL Tryz.prog m n B w0 ops Q rest ((d, .int .i64 a) :: env) H) (hx : evo env x = some (.int k a) := by exact rfl) (hs : look T.ik src = some j := by exact rfl) (ht : look T.ik dst = some .i64 := by exact rfl) (hn : Nat.ble (d + 1) n.k = true := by exact rfl) (hb : -9223372036854775808 ≤ a ∧ a ≤ 9223372036854775807 := by omega) : VL Tryz.prog m n B w0 ops Q (⟨some d, .convert src dst x, ty, pos, after, none⟩ :: rest) env H := VL_conv_id T hx hs ht hn hb h
theorem zs45 {src dst : TypeId} {j : IntKind} (h : VL Tryz.prog m n B w0 ops Q rest ((d, .int .u64 a) :: env) H) (hx : evo env x = some (.int k a) := by exact rfl) (hs : look T.ik src = some j := by exact rfl) (ht : look T.ik dst = some .u64 := by exact rfl) (hn : Nat.ble (d + 1) n.k = true := by exact rfl) (hb : 0 ≤ a ∧ a ≤ 18446744073709551615 := by omega) : VL Tryz.prog m n B w0 ops Q (⟨some d, .convert src dst x, ty, pos, after, none⟩ :: rest) env H := VL_conv_u64 T hx hs ht hn hb h
theorem zs47 {x : Operand} {xt : TypeId} (h : VL Tryz.prog m n B w0 ops Q rest ((d, .bool false) :: env) H) (hx : evo env x = some (.bool true) := by exact rfl) (hn : Nat.ble (d + 1) n.k = true := by exact rfl) : VL Tryz.prog m n B w0 ops Q (⟨some d, .unOp .not xt x, ty, pos, after, none⟩ :: rest) env H := VL_not_true hx hn h
theorem zs48 {x : Operand} {xt : TypeId} (h : VL Tryz.prog m n B w0 ops Q rest ((d, .bool true) :: env) H) (hx : evo env x = some (.bool false) := by exact rfl) (hn : Nat.ble (d + 1) n.k = true := by exact rfl) : VL Tryz.prog m n B w0 ops Q (⟨some d, .unOp .not xt x, ty, pos, after, none⟩ :: rest) env H := VL_not_false hx hn h
theorem zs49 {t tt : Nat} {x y : Operand} {A : Option Addr} {k cap : Nat} {xs : List Value} {g mm c : Nat} {cs : Array Value} {fr : Nat × Nat} {e size bytes : Nat} {K : Option Addr → Nat → List HP} (h : ∀ A' cap', VL Tryz.prog none n B w0 ops Q rest ((d, .slice A' (k + mm) cap') :: env) (K A' cap')) (hx : evo env x = some (.slice A k cap) := by exact rfl) (ht : look T.sl t = some (e, size, bytes) := by exact rfl) (hy : evo env y = some (.slice (some ⟨g, 0, none⟩) mm c) := by exact rfl) (hb : blk g (.cells cs tt fr) ∈ H := by ((focus repeat (first | with_reducible exact List.mem_cons_self | with_reducible apply List.mem_cons_of_mem | assumption)); done)) (hk : cs.size = mm * size := by exact rfl) (h1 : allOne cs.toList = true := by exact rfl) (hn : Nat.ble (d + 1) n.k = true := by exact rfl) (hu : ∀ A' cap', Upd (sl e size A k cap xs) (sl e size A' (k + mm) cap' (xs ++ cs.toList)) H (K A' cap') := by ((intro _ _; (repeat (first | with_reducible exact Upd.here _ | with_reducible apply Upd.there))); done)) (hby : (k + mm) * bytes ≤ 140737488355328 := by omega) : VL Tryz.prog none n B w0 ops Q (⟨some d, .call ⟨.builtin .append, #[x, y], #[t, t]⟩, ty, pos, after, none⟩ :: rest) env H := VL_append T hx ht hy hb hk h1 hn hu hby h
theorem zs50 {t g i : Nat} {cs cs' : List Value} {tt : TypeId} {v : Value} {x y : Operand} {K : List HP} (h : VL Tryz.prog none n B w0 ops Q rest env K) (hx : evo env x = some (.pointer (some ⟨g, i, none⟩)) := by exact rfl) (hy : evo env y = some v := by exact rfl) (h1 : v.oneCell' = true := by exact rfl) (hu : Upd (blk g (.cells cs.toArray tt (0, 0))) (blk g (.cells cs'.toArray tt (0, 0))) H K := by ((repeat (first | with_reducible exact Upd.here _ | with_reducible apply Upd.there)); done)) (hs : SetAt cs i v cs' := by ((repeat (first | exact setat_here | apply setat_there)) ; done)) (ht : look T.sc t = some () := by exact rfl) : VL Tryz.prog none n B w0 ops Q (⟨none, .store t x y, ty, pos, after, none⟩ :: rest) env H := VL_store T hx hy h1 hu hs ht h
theorem zs51 {t g i k : Nat} {cs vs cs' : List Value} {tt : TypeId} {x y : Operand} {K : List HP} (h : VL Tryz.prog none n B w0 ops Q rest env K) (hx : evo env x = some (.pointer (some ⟨g, i, none⟩)) := by exact rfl) (hy : evo env y = some (.agg vs.toArray) := by exact rfl) (h1 : allOne vs = true := by exact rfl) (hu : Upd (blk g (.cells cs.toArray tt (0, 0))) (blk g (.cells cs'.toArray tt (0, 0))) H K := by ((repeat (first | with_reducible exact Upd.here _ | with_reducible apply Upd.there)); done)) (hs : PutAt cs i vs cs' := by ((repeat (first | exact PutAt.nil | (apply PutAt.cons; (repeat (first | exact setat_here | apply setat_there)) ))) ; done)) (ht : look T.ag t = some k := by exact rfl) (hk : vs.length = k := by exact rfl) : VL Tryz.prog none n B w0 ops Q (⟨none, .store t x y, ty, pos, after, none⟩ :: rest) env H := VL_store_agg T hx hy h1 hu hs ht hk h
theorem zs52 {t : TypeId} {x : Operand} {cs : Array Value} (h : ∀ g, VL Tryz.prog none n B w0 ops Q rest ((d, .pointer (some ⟨g, 0, none⟩)) :: env) (blk g (.cells cs t (0, 0)) :: H)) (hx : evo env x = some (.agg cs) := by exact rfl) (hn : Nat.ble (d + 1) n.k = true := by exact rfl) : VL Tryz.prog none n B w0 ops Q (⟨some d, .box t x, ty, pos, after, none⟩ :: rest) env H := VL_box_agg hx hn h
theorem zs53 {t : TypeId} {x : Operand} {v : Value} (h : ∀ g, VL Tryz.prog none n B w0 ops Q rest ((d, .pointer (some ⟨g, 0, none⟩)) :: env) (blk g (.cells #[v] t (0, 0)) :: H)) (hx : evo env x = some v := by exact rfl) (h1 : v.cells = #[v] := by exact rfl) (hn : Nat.ble (d + 1) n.k = true := by exact rfl) : VL Tryz.prog none n B w0 ops Q (⟨some d, .box t x, ty, pos, after, none⟩ :: rest) env H := VL_box_one hx h1 hn h
theorem zs54 {t : TypeId} {z : Value} {cs : Array Value} (h : ∀ g, VL Tryz.prog none n B w0 ops Q rest ((d, .pointer (some ⟨g, 0, none⟩)) :: env) (blk g (.cells cs t (0, 0)) :: H)) (hz : look T2.zt t = some z := by exact rfl) (hc : z.cells = cs := by exact rfl) (hn : Nat.ble (d + 1) n.k = true := by exact rfl) : VL Tryz.prog none n B w0 ops Q (⟨some d, .alloc t, ty, pos, after, none⟩ :: rest) env H := VL_allocT T2 hz hc hn h
theorem zs55 {t : TypeId} {parts : List (Nat × Operand)} {ps : List (Nat × Value)} {zc : Array Value} {pl : List (Nat × Nat)} {cs : List Value} (h : VL Tryz.prog m n B w0 ops Q rest ((d, .agg cs.toArray) :: env) H) (hp : partsV env parts = some ps := by exact rfl) (hz : look T2.zt t = some (.agg zc) := by exact rfl) (hl : look T2.bt t = some pl := by exact rfl) (hf : fillL (pl[·]?) zc.toList ps = some cs := by exact rfl) (hn : Nat.ble (d + 1) n.k = true := by exact rfl) : VL Tryz.prog m n B w0 ops Q (⟨some d, .build t parts.toArray, ty, pos, after, none⟩ :: rest) env H := VL_buildT T2 hp hz hl hf hn h
theorem zs56 {t e len size bytes : Nat} {parts : List (Nat × Operand)} {ps : List (Nat × Value)} {z : Value} {zl cs : List Value} (h : ∀ g, VL Tryz.prog none n B w0 ops Q rest ((d, .slice (some ⟨g, 0, none⟩) len len) :: env) (blk g (.cells cs.toArray e (0, 0)) :: H)) (ht : look T.sl t = some (e, size, bytes) := by exact rfl) (hp : partsV env parts = some ps := by exact rfl) (hz : look T2.zt e = some z := by exact rfl) (hzc : z.cells = zl.toArray := by exact rfl) (hf : fillL (fun i => some (i * size, size)) (repZ len zl) ps = some cs := by exact rfl) (hn : Nat.ble (d + 1) n.k = true := by exact rfl) (hl : (Nat.blt 0 (len * size) && Nat.beq zl.length size && Nat.ble (len * size) 1000000) = true := by exact rfl) : VL Tryz.prog none n B w0 ops Q (⟨some d, .buildSlice t len parts.toArray, ty, pos, after, none⟩ :: rest) env H := VL_buildSliceT T T2 ht hp hz hzc hf hn hl h
theorem zs57 {α : Type} {f : α → List Value} {l : List α} {t : Nat} {x y : Operand} {A : Option Addr} {cap : Nat} {e size bytes : Nat} {ki : IntKind} {i : Int} (h : VL Tryz.prog m n B w0 ops Q rest ((d, sptr A (i.toNat * size)) :: env) H) (hx : evo env x = some (.slice A l.length cap) := by exact rfl) (hy : evo env y = some (.int ki i) := by exact rfl) (hr : Rd B w0 H A (l.flatMap f) := by ((first | (focus (repeat (first | assumption | apply Rd.cons)); done) | exact Rd.sl (by (focus repeat (first | with_reducible exact List.mem_cons_self | with_reducible apply List.mem_cons_of_mem | assumption)))); done)) (ht : look T.sl t = some (e, size, bytes) := by exact rfl) (hq : ∀ a, (f a).length = size := by exact fun _ => rfl) (h0 : Nat.blt 0 size = true := by exact rfl) (hn : Nat.ble (d + 1) n.k = true := by exact rfl) (hi : 0 ≤ i ∧ i < l.length := by omega) : VL Tryz.prog m n B w0 ops Q (⟨some d, .indexAddr t x y, ty, pos, after, none⟩ :: rest) env H := VL_index_rd T hx hy hr ht hq h0 hn hi h
theorem zs58 {α : Type} {f : α → List Value} {l : List α} {s fl k i q : Nat} {x : Operand} {A : Option Addr} (h : VL Tryz.prog m n B w0 ops Q rest ((d, sptr A (i * q + k)) :: env) H) (hx : evo env x = some (sptr A (i * q)) := by exact rfl) (hr : Rd B w0 H A (l.flatMap f) := by ((first | (focus (repeat (first | assumption | apply Rd.cons)); done) | exact Rd.sl (by (focus repeat (first | with_reducible exact List.mem_cons_self | with_reducible apply List.mem_cons_of_mem | assumption)))); done)) (hq : ∀ a, (f a).length = q := by exact fun _ => rfl) (h0 : Nat.blt 0 q = true := by exact rfl) (hf : look2 T.fo s fl = some k := by exact rfl) (hn : Nat.ble (d + 1) n.k = true := by exact rfl) (hi : i < l.length := by omega) : VL Tryz.prog m n B w0 ops Q (⟨some d, .fieldAddr s x fl, ty, pos, after, none⟩ :: rest) env H := VL_field_row T hx hr hq h0 hf hn hi h
theorem zs59 {α : Type} {f : α → List Value} {l : List α} {t i q o : Nat} {b : α} {x : Operand} {A : Option Addr} {v : Value} (h : VL Tryz.prog m n B w0 ops Q rest ((d, v) :: env) H) (hx : evo env x = some (sptr A (i * q + o)) := by exact rfl) (hr : Rd B w0 H A (l.flatMap f) := by ((first | (focus (repeat (first | assumption | apply Rd.cons)); done) | exact Rd.sl (by (focus repeat (first | with_reducible exact List.mem_cons_self | with_reducible apply List.mem_cons_of_mem | assumption)))); done)) (hb : l[i]? = some b := by assumption) (hq : ∀ a, (f a).length = q := by exact fun _ => rfl) (ho : Nat.blt o q = true := by exact rfl) (hv : nth (f b) o = some v := by exact rfl) (ht : look T.sc t = some () := by exact rfl) (hn : Nat.ble (d + 1) n.k = true := by exact rfl) : VL Tryz.prog m n B w0 ops Q (⟨some d, .load t x, ty, pos, after, none⟩ :: rest) env H := VL_load_rd T hx hr hb hq ho hv ht hn h
theorem zs60 {α : Type} {f : α → List Value} {l : List α} {t i q : Nat} {b : α} {x : Operand} {A : Option Addr} {v : Value} (h : VL Tryz.prog m n B w0 ops Q rest ((d, v) :: env) H) (hx : evo env x = some (sptr A (i * q)) := by exact rfl) (hr : Rd B w0 H A (l.flatMap f) := by ((first | (focus (repeat (first | assumption | apply Rd.cons)); done) | exact Rd.sl (by (focus repeat (first | with_reducible exact List.mem_cons_self | with_reducible apply List.mem_cons_of_mem | assumption)))); done)) (hb : l[i]? = some b := by assumption) (hq : ∀ a, (f a).length = q := by exact fun _ => rfl) (ho : Nat.blt 0 q = true := by exact rfl) (hv : nth (f b) 0 = some v := by exact rfl) (ht : look T.sc t = some () := by exact rfl) (hn : Nat.ble (d + 1) n.k = true := by exact rfl) : VL Tryz.prog m n B w0 ops Q (⟨some d, .load t x, ty, pos, after, none⟩ :: rest) env H := VL_load_rd0 T hx hr hb hq ho hv ht hn h
theorem zs61 {α : Type} {f : α → List Value} {l : List α} {t i q : Nat} {b : α} {x : Operand} {A : Option Addr} (h : VL Tryz.prog m n B w0 ops Q rest ((d, .agg (f b).toArray) :: env) H) (hx : evo env x = some (sptr A (i * q)) := by exact rfl) (hr : Rd B w0 H A (l.flatMap f) := by ((first | (focus (repeat (first | assumption | apply Rd.cons)); done) | exact Rd.sl (by (focus repeat (first | with_reducible exact List.mem_cons_self | with_reducible apply List.mem_cons_of_mem | assumption)))); done)) (hb : l[i]? = some b := by assumption) (hq : ∀ a, (f a).length = q := by exact fun _ => rfl) (ho : Nat.blt 0 q = true := by exact rfl) (ht : look T.ag t = some q := by exact rfl) (hn : Nat.ble (d + 1) n.k = true := by exact rfl) : VL Tryz.prog m n B w0 ops Q (⟨some d, .load t x, ty, pos, after, none⟩ :: rest) env H := VL_load_agg_rd T hx hr hb hq ho ht hn h
theorem zs62 {x y : Operand} {k : IntKind} {a b : Int} {tys : Array TypeId} (h1 : a < b → VL Tryz.prog m n B w0 ops Q rest ((d, .int k b) :: env) H) (h2 : b ≤ a → VL Tryz.prog m n B w0 ops Q rest ((d, .int k a) :: env) H) (hx : evo env x = some (.int k a) := by exact rfl) (hy : evo env y = some (.int k b) := by exact rfl) (hn : Nat.ble (d + 1) n.k = true := by exact rfl) : VL Tryz.prog m n B w0 ops Q (⟨some d, .call ⟨.builtin .max, #[x, y], tys⟩, ty, pos, after, none⟩ :: rest) env H := VL_max2 hx hy hn h1 h2
theorem zs65  (h : VQ n B w0 Q .normal env H)  : VL Tryz.prog none n B w0 ops Q [] env H := VL_nil h
theorem zs66  (h : VQ n B w0 Q .normal env H)  : VL Tryz.prog (some none) n B w0 ops Q [] env H := VL_nilq h
theorem zs68 {y : Code} (h : VC Tryz.prog n B w0 y Q env H)  : VQ n B w0 (Exit.then (wpR Tryz.prog n.r y Q) Q) .normal env H := VQ_then h
theorem zs69 {x y : Code} (h : VC Tryz.prog n B w0 x (Exit.then (wpR Tryz.prog n.r y Q) Q) env H)  : VC Tryz.prog n B w0 (.seq x y) Q env H := VC_seq h
theorem zs70 {id : Nat} {l : List Oper} (h : VL Tryz.prog none n B w0 l.toArray Q l env H)  : VC Tryz.prog n B w0 (.region id l.toArray false) Q env H := VC_region h
theorem zs71 {c : Operand} {x y : Code} (h : VC Tryz.prog n B w0 x Q env H) (hc : evo env c = some (.bool true) := by exact rfl) : VC Tryz.prog n B w0 (.cond c x y) Q env H := VC_cond_true hc h
theorem zs72 {c : Operand} {x y : Code} (h : VC Tryz.prog n B w0 y Q env H) (hc : evo env c = some (.bool false) := by exact rfl) : VC Tryz.prog n B w0 (.cond c x y) Q env H := VC_cond_false hc h
theorem zs73 {id : Nat} {c : Code} (h : VC Tryz.prog n B w0 c (Exit.inBlock id Q) env H)  : VC Tryz.prog n B w0 (.block id c) Q env H := VC_block h
theorem zs74  (h : VQ n B w0 Q .ret env H)  : VC Tryz.prog n B w0 .ret Q env H := VC_ret h
theorem zs75 {id : Nat} (h : VQ n B w0 Q (.exit id) env H)  : VC Tryz.prog n B w0 (.exit id) Q env H := VC_exit h
theorem zs76  (h : VQ n B w0 Q .normal env H)  : VC Tryz.prog n B w0 .skip Q env H := VC_skip h
theorem zs77 {K : Act → World → Prop} (h : VQ n B w0 Q .ret env H)  : VQ n B w0 (Exit.then K Q) .ret env H := VQ_then_ret h
theorem zs78 {id : Nat} (h : VQ n B w0 Q .ret env H)  : VQ n B w0 (Exit.inBlock id Q) .ret env H := VQ_block_ret h
theorem zs79 {id : Nat} (h : VQ n B w0 Q .normal env H)  : VQ n B w0 (Exit.inBlock id Q) .normal env H := VQ_block_normal h
theorem zs80 {K : Act → World → Prop} {id : Nat} (h : VQ n B w0 Q (.exit id) env H)  : VQ n B w0 (Exit.then K Q) (.exit id) env H := VQ_then_exit h
theorem zs81 {id : Nat} (h : VQ n B w0 Q .normal env H)  : VQ n B w0 (Exit.inBlock id Q) (.exit id) env H := VQ_block_exit h
theorem zs83 {id : Nat} {l : List Oper} (h : VL Tryz.prog (some none) n B w0 l.toArray Q l env H) (hq : (l.all fun o => !eff o) = true := by exact rfl) (hm : Tryz.prog.follows .mixedOrders = true := by kernel_rfl) (hB : Region.lexB .any l.toArray = true := by kernel_rfl) : VC Tryz.prog n B w0 (.region id l.toArray true) Q env H := VC_drawp hq hm hB h
theorem zs84 {id : Nat} {l : List Oper} (h : VL Tryz.prog (some none) n B w0 l.toArray Q l env H) (hq : (l.all fun o => !effW o) = true := by exact rfl) (hm : Tryz.prog.follows .mixedOrders = true := by kernel_rfl) (hB : Region.lexB .any l.toArray = true := by kernel_rfl) : VC Tryz.prog n B w0 (.region id l.toArray true) Q env H := VC_drawc hq hm hB h
theorem zs87 {o : Oper} {F HF : List HP} (h : VL Tryz.prog none n B w0 ops (HeldQ Tryz.prog B w0 ops Q H rest) [o] env HF) (he : eff o = true := by exact rfl) (hg : o.guard = none := by exact rfl) (happ : App H F HF := by ((repeat (first | with_reducible exact app_nil | with_reducible apply app_cons | exact app_niln _)); done)) : VL Tryz.prog (some (some F)) n B w0 ops Q (o :: rest) env H := VL_heff he hg happ h
theorem zs93 {l : List Oper} (h : VL Tryz.prog none n B w0 ops Q l env H)  : VQ n B w0 (TailQ Tryz.prog ops Q l) .normal env H := VQ_tailq h
theorem zs94  (h : VQ n B w0 Q .normal env H)  : VQ n B w0 (Only Q) .normal env H := VQ_only h
theorem zg1 {m : Mode} {d : Nat} {op : Op} {ty : TypeId} {pos : String} {after : Array Edge} {j : Nat} {b : Bool} (h : VL Tryz.prog m n B w0 ops Q (⟨some d, op, ty, pos, after, some (j, b)⟩ :: rest) env H) : VL Tryz.prog m n B w0 ops Q (⟨some d, op, ty, pos, after, some (j, b)⟩ :: rest) env H := h
theorem zg2 {s f : Nat} {x : Operand} (h : VL Tryz.prog m n B w0 ops Q (⟨some d, .fieldAddr s x f, ty, pos, after, none⟩ :: rest) env H) : VL Tryz.prog m n B w0 ops Q (⟨some d, .fieldAddr s x f, ty, pos, after, none⟩ :: rest) env H := h
theorem zg3 {t : Nat} {x : Operand} (h : VL Tryz.prog m n B w0 ops Q (⟨some d, .load t x, ty, pos, after, none⟩ :: rest) env H) : VL Tryz.prog m n B w0 ops Q (⟨some d, .load t x, ty, pos, after, none⟩ :: rest) env H := h
theorem zg4 {tx : Nat} {x : Operand} (h : VL Tryz.prog m n B w0 ops Q (⟨some d, .call ⟨.builtin .len, #[x], #[tx]⟩, ty, pos, after, none⟩ :: rest) env H) : VL Tryz.prog m n B w0 ops Q (⟨some d, .call ⟨.builtin .len, #[x], #[tx]⟩, ty, pos, after, none⟩ :: rest) env H := h
theorem zg5 {t : Nat} {x y : Operand} (h : VL Tryz.prog m n B w0 ops Q (⟨some d, .indexAddr t x y, ty, pos, after, none⟩ :: rest) env H) : VL Tryz.prog m n B w0 ops Q (⟨some d, .indexAddr t x y, ty, pos, after, none⟩ :: rest) env H := h
theorem zg6 {c x y : Operand} (h : VL Tryz.prog m n B w0 ops Q (⟨some d, .pick c x y, ty, pos, after, none⟩ :: rest) env H) : VL Tryz.prog m n B w0 ops Q (⟨some d, .pick c x y, ty, pos, after, none⟩ :: rest) env H := h
theorem zg7  (h : VL Tryz.prog m n B w0 ops Q (⟨some d, .binOp .eql xt x y yt, ty, pos, after, none⟩ :: rest) env H) : VL Tryz.prog m n B w0 ops Q (⟨some d, .binOp .eql xt x y yt, ty, pos, after, none⟩ :: rest) env H := h
theorem zg8  (h : VL Tryz.prog m n B w0 ops Q (⟨some d, .binOp .neq xt x y yt, ty, pos, after, none⟩ :: rest) env H) : VL Tryz.prog m n B w0 ops Q (⟨some d, .binOp .neq xt x y yt, ty, pos, after, none⟩ :: rest) env H := h
theorem zg13  (h : VL Tryz.prog m n B w0 ops Q (⟨some d, .binOp .add xt x y yt, ty, pos, after, none⟩ :: rest) env H) : VL Tryz.prog m n B w0 ops Q (⟨some d, .binOp .add xt x y yt, ty, pos, after, none⟩ :: rest) env H := h
theorem zg14  (h : VL Tryz.prog m n B w0 ops Q (⟨some d, .binOp .sub xt x y yt, ty, pos, after, none⟩ :: rest) env H) : VL Tryz.prog m n B w0 ops Q (⟨some d, .binOp .sub xt x y yt, ty, pos, after, none⟩ :: rest) env H := h
theorem zg15  (h : VL Tryz.prog m n B w0 ops Q (⟨some d, .binOp .mul xt x y yt, ty, pos, after, none⟩ :: rest) env H) : VL Tryz.prog m n B w0 ops Q (⟨some d, .binOp .mul xt x y yt, ty, pos, after, none⟩ :: rest) env H := h
theorem zg16  (h : VL Tryz.prog m n B w0 ops Q (⟨some d, .binOp .quo xt x y yt, ty, pos, after, none⟩ :: rest) env H) : VL Tryz.prog m n B w0 ops Q (⟨some d, .binOp .quo xt x y yt, ty, pos, after, none⟩ :: rest) env H := h
theorem zg17  (h : VL Tryz.prog m n B w0 ops Q (⟨some d, .binOp .rem xt x y yt, ty, pos, after, none⟩ :: rest) env H) : VL Tryz.prog m n B w0 ops Q (⟨some d, .binOp .rem xt x y yt, ty, pos, after, none⟩ :: rest) env H := h
theorem zg18  (h : VL Tryz.prog m n B w0 ops Q (⟨some d, .binOp .shr xt x y yt, ty, pos, after, none⟩ :: rest) env H) : VL Tryz.prog m n B w0 ops Q (⟨some d, .binOp .shr xt x y yt, ty, pos, after, none⟩ :: rest) env H := h
theorem zg19 {src dst : TypeId} (h : VL Tryz.prog m n B w0 ops Q (⟨some d, .convert src dst x, ty, pos, after, none⟩ :: rest) env H) : VL Tryz.prog m n B w0 ops Q (⟨some d, .convert src dst x, ty, pos, after, none⟩ :: rest) env H := h
theorem zg20 {x : Operand} {xt : TypeId} (h : VL Tryz.prog m n B w0 ops Q (⟨some d, .unOp .not xt x, ty, pos, after, none⟩ :: rest) env H) : VL Tryz.prog m n B w0 ops Q (⟨some d, .unOp .not xt x, ty, pos, after, none⟩ :: rest) env H := h
theorem zg21 {t : Nat} {x y : Operand} (h : VL Tryz.prog m n B w0 ops Q (⟨some d, .call ⟨.builtin .append, #[x, y], #[t, t]⟩, ty, pos, after, none⟩ :: rest) env H) : VL Tryz.prog m n B w0 ops Q (⟨some d, .call ⟨.builtin .append, #[x, y], #[t, t]⟩, ty, pos, after, none⟩ :: rest) env H := h
theorem zg22 {t : Nat} {x y : Operand} (h : VL Tryz.prog m n B w0 ops Q (⟨none, .store t x y, ty, pos, after, none⟩ :: rest) env H) : VL Tryz.prog m n B w0 ops Q (⟨none, .store t x y, ty, pos, after, none⟩ :: rest) env H := h
theorem zg23 {t : TypeId} {x : Operand} (h : VL Tryz.prog m n B w0 ops Q (⟨some d, .box t x, ty, pos, after, none⟩ :: rest) env H) : VL Tryz.prog m n B w0 ops Q (⟨some d, .box t x, ty, pos, after, none⟩ :: rest) env H := h
theorem zg24 {t : TypeId} (h : VL Tryz.prog m n B w0 ops Q (⟨some d, .alloc t, ty, pos, after, none⟩ :: rest) env H) : VL Tryz.prog m n B w0 ops Q (⟨some d, .alloc t, ty, pos, after, none⟩ :: rest) env H := h
theorem zg25 {t : TypeId} {parts : List (Nat × Operand)} (h : VL Tryz.prog m n B w0 ops Q (⟨some d, .build t parts.toArray, ty, pos, after, none⟩ :: rest) env H) : VL Tryz.prog m n B w0 ops Q (⟨some d, .build t parts.toArray, ty, pos, after, none⟩ :: rest) env H := h
theorem zg26 {t len : Nat} {parts : List (Nat × Operand)} (h : VL Tryz.prog m n B w0 ops Q (⟨some d, .buildSlice t len parts.toArray, ty, pos, after, none⟩ :: rest) env H) : VL Tryz.prog m n B w0 ops Q (⟨some d, .buildSlice t len parts.toArray, ty, pos, after, none⟩ :: rest) env H := h
theorem zg27 {c : Operand} {x y : Code} (h : VC Tryz.prog n B w0 (.cond c x y) Q env H) : VC Tryz.prog n B w0 (.cond c x y) Q env H := h
theorem zg28 {id : Nat} {l : List Oper} (h : VC Tryz.prog n B w0 (.region id l.toArray true) Q env H) : VC Tryz.prog n B w0 (.region id l.toArray true) Q env H := h
theorem zg29 {fn : Fn} {caps : List Operand} (h : VL Tryz.prog m n B w0 ops Q (⟨some d, .makeFunc fn #[] caps.toArray, ty, pos, after, none⟩ :: rest) env H) : VL Tryz.prog m n B w0 ops Q (⟨some d, .makeFunc fn #[] caps.toArray, ty, pos, after, none⟩ :: rest) env H := h
end
end Go.Eng

/- Walks: networks in memory; comparing, and looking for an element. -/
namespace Go.Proofs.YtnkpfpgmbpnbgaaGreatDoor
open Go.RowKit Go.Eng Go.Nw

structure RowM where
  A : Option Addr
  cap : Nat
  xs : List Int
structure NetM where
  nodes : Int
  pA : Option Addr
  pcap : Nat
  rows : List RowM
  noise : Int
  thr : Int
  lA : Option Addr
  lcap : Nat
  links : List Lk
  mA : Option Addr
  mcap : Nat
  margin : List Int
def NetM.net (n : NetM) : Net := ⟨n.nodes, n.rows.map (·.xs), n.noise, n.thr, n.links, n.margin⟩
def NetM.val (n : NetM) : Value := .agg #[.int .i64 n.nodes, .slice n.pA n.rows.length n.pcap, .int .i64 n.noise, .int .i64 n.thr, .slice n.lA n.links.length n.lcap, .slice n.mA n.margin.length n.mcap]
def rowF (r : RowM) : List Value := [.slice r.A r.xs.length r.cap]
def numF (z : Int) : List Value := [.int .i64 z]
def lkF (l : Lk) : List Value := [.int .i64 l.1, .int .i64 l.2.1, .int .i64 l.2.2]
def lkV (l : Lk) : Value := .agg #[.int .i64 l.1, .int .i64 l.2.1, .int .i64 l.2.2]

/-- The network's rows can be read. -/
structure NetM.In (B : Nat) (w0 : World) (H : List HP) (n : NetM) : Prop where
  pw : Rd B w0 H n.pA (n.rows.flatMap rowF)
  rw_ : ∀ r ∈ n.rows, Rd B w0 H r.A (r.xs.flatMap numF)
  lk : Rd B w0 H n.lA (n.links.flatMap lkF)
  mg : Rd B w0 H n.mA (n.margin.flatMap numF)
  s1 : n.rows.length ≤ 9223372036854775807
  s2 : ∀ r ∈ n.rows, r.xs.length ≤ 9223372036854775807
  s3 : n.links.length ≤ 9223372036854775807
  s4 : n.margin.length ≤ 9223372036854775807
theorem NetM.In.cons {B : Nat} {w0 : World} {H : List HP} {n : NetM} {X : HP} (h : n.In B w0 H) : n.In B w0 (X :: H) :=
  ⟨h.pw.cons, fun r hr => (h.rw_ r hr).cons, h.lk.cons, h.mg.cons, h.s1, h.s2, h.s3, h.s4⟩

theorem indexFuncInts {α : Type} (val : α → Value) (p : α → Bool) (l : List α) (f : Nat) (cs : List Value) (hen : ∀ xs w, (callFunc f xs).run Tryz.prog w = .ok (.enter f xs) w) (hlen : l.length ≤ 9223372036854775807) {A : Option Addr} {cap B : Nat} {w0 : World} {H : List HP} {w : World} (hr : Rd B w0 H A (l.flatMap fun a => [val a]))
    (hp : ∀ a ∈ l, ∀ w, St B w0 H w → Calls Tryz.prog f ([val a] ++ cs).toArray w (Post B w0 fun v K => v = .bool (p a) ∧ K = H)) (hw : St B w0 H w) :
    Calls Tryz.prog 145 [.slice A l.length cap, .func (.func f) #[] cs.toArray].toArray w (Post B w0 fun v K => v = .int .i64 (idxFrom p l 0) ∧ K = H) := by
  refine Calls_of_VC Tryz.func145 Tryz.ntmps145 rfl rfl hw ?_
  repeat' (first | apply (zs1 ?_) | apply (zs2 ?_) | (apply zg4; refine zs9 ?_) | apply (zs65 ?_) | apply (zs68 ?_) | apply (zs69 ?_) | apply (zs70 ?_) | apply (zs73 ?_) | fail)
  refine VC_loop1 (fun (k : Nat) => [(8, .int .i64 k), (7, .int .i64 l.length), (0, .slice A l.length cap), (1, .func (.func f) #[] cs.toArray)]) (fun _ => H) (fun k => k ≤ l.length ∧ idxFrom p l 0 = idxFrom p (l.drop k) k) (fun k => l.length - k) 0 ⟨Nat.zero_le _, by simp⟩ ?_ (fun w hw => hw) ?_
  · (repeat (first | exact sub_nil _ | (apply sub_cons; first | exact rfl | exact congrArg (fun z : Int => some (Value.int .i64 z)) (by omega))))
  rintro k ⟨hk, hi⟩ K hK
  by_cases hlt : k < l.length
  · obtain ⟨a, ha⟩ : ∃ a, l[k]? = some a := ⟨_, List.getElem?_eq_getElem hlt⟩
    have hpa := hp a (List.mem_of_getElem? ha)
    rw [idx_drop p l ha] at hi
    repeat' (first | ((first | apply VL_callvt (cs := cs)); exact rfl; exact hen; (repeat (first | exact args_nil | (apply args_cons; exact rfl))); exact rfl; exact fun _ hw => hpa _ hw) | apply (zs1 ?_) | apply (zs2 ?_) | (apply zg3; refine zs60 ?_) | (apply zg5; refine zs57 ?_) | (apply (zs17 ?_ ?_) <;> intro _ <;> try (exfalso; omega)) | apply (zs65 ?_) | apply (zs68 ?_) | apply (zs69 ?_) | apply (zs70 ?_) | (apply zg27; refine zs71 ?_) | apply (zs73 ?_) | apply (zs76 ?_) | fail)
    cases hpv : p a
    · rw [hpv] at hi
      repeat' (first | apply (zs1 ?_) | (apply zg13; refine zs30 ?_) | apply (zs65 ?_) | apply (zs68 ?_) | apply (zs70 ?_) | (apply zg27; refine zs72 ?_) | apply (zs76 ?_) | apply (zs79 ?_) | fail)
      apply hK (k + 1)
      · exact ⟨by omega, hi⟩
      · omega
      · (repeat (first | exact sub_nil _ | (apply sub_cons; first | exact rfl | exact congrArg (fun z : Int => some (Value.int .i64 z)) (by omega))))
      · exact fun w hw => hw
    · rw [hpv] at hi
      repeat' (first | apply (zs1 ?_) | apply (zs2 ?_) | apply (zs65 ?_) | apply (zs68 ?_) | apply (zs69 ?_) | apply (zs70 ?_) | (apply zg27; refine zs71 ?_) | apply (zs74 ?_) | apply (zs77 ?_) | apply (zs78 ?_) | fail)
      apply VQ_ret1; exact rfl; exact rfl
      exact ⟨by rw [hi]; rfl, rfl⟩
  · repeat' (first | apply (zs2 ?_) | (apply (zs17 ?_ ?_) <;> intro _ <;> try (exfalso; omega)) | apply (zs65 ?_) | apply (zs68 ?_) | apply (zs69 ?_) | apply (zs70 ?_) | (apply zg27; refine zs72 ?_) | apply (zs74 ?_) | apply (zs75 ?_) | apply (zs80 ?_) | apply (zs81 ?_) | fail)
    apply VQ_ret1; exact rfl; exact rfl
    rw [hi, List.drop_eq_nil_of_le (by omega)]
    exact ⟨rfl, rfl⟩
theorem containsFuncInts {α : Type} (val : α → Value) (p : α → Bool) (l : List α) (f : Nat) (cs : List Value) (hen : ∀ xs w, (callFunc f xs).run Tryz.prog w = .ok (.enter f xs) w) (hlen : l.length ≤ 9223372036854775807) {A : Option Addr} {cap B : Nat} {w0 : World} {H : List HP} {w : World} (hr : Rd B w0 H A (l.flatMap fun a => [val a]))
    (hp : ∀ a ∈ l, ∀ w, St B w0 H w → Calls Tryz.prog f ([val a] ++ cs).toArray w (Post B w0 fun v K => v = .bool (p a) ∧ K = H)) (hw : St B w0 H w) :
    Calls Tryz.prog 114 [.slice A l.length cap, .func (.func f) #[] cs.toArray].toArray w (Post B w0 fun v K => v = .bool (l.any p) ∧ K = H) := by
  refine Calls_of_VC Tryz.func114 Tryz.ntmps114 rfl rfl hw ?_
  have hia := idx_any p l 0 (by omega)
  repeat' (first | ((first | apply VL_callt en145 | apply VL_callq en145); (repeat (first | exact args_nil | (apply args_cons; exact rfl))); exact rfl; exact fun _ hw => (indexFuncInts val p l f cs hen hlen hr hp hw)) | apply (zs1 ?_) | apply (zs2 ?_) | (apply (zs20 ?_ ?_) <;> intro _ <;> try (exfalso; omega)) | apply (zs65 ?_) | apply (zs68 ?_) | apply (zs69 ?_) | apply (zs70 ?_) | apply (zs74 ?_) | fail)
  all_goals (apply VQ_ret1; exact rfl; exact rfl)
  · rename_i h; exact ⟨by rw [hia.1 h], rfl⟩
  · rename_i h
    have : ¬ l.any p = true := fun e => by have := hia.2 e; omega
    exact ⟨by rw [Bool.eq_false_iff.2 this], rfl⟩
theorem indexFuncRows {α : Type} (val : α → Value) (p : α → Bool) (l : List α) (f : Nat) (cs : List Value) (hen : ∀ xs w, (callFunc f xs).run Tryz.prog w = .ok (.enter f xs) w) (hlen : l.length ≤ 9223372036854775807) {A : Option Addr} {cap B : Nat} {w0 : World} {H : List HP} {w : World} (hr : Rd B w0 H A (l.flatMap fun a => [val a]))
    (hp : ∀ a ∈ l, ∀ w, St B w0 H w → Calls Tryz.prog f ([val a] ++ cs).toArray w (Post B w0 fun v K => v = .bool (p a) ∧ K = H)) (hw : St B w0 H w) :
    Calls Tryz.prog 144 [.slice A l.length cap, .func (.func f) #[] cs.toArray].toArray w (Post B w0 fun v K => v = .int .i64 (idxFrom p l 0) ∧ K = H) := by
  refine Calls_of_VC Tryz.func144 Tryz.ntmps144 rfl rfl hw ?_
  repeat' (first | apply (zs1 ?_) | apply (zs2 ?_) | (apply zg4; refine zs9 ?_) | apply (zs65 ?_) | apply (zs68 ?_) | apply (zs69 ?_) | apply (zs70 ?_) | apply (zs73 ?_) | fail)
  refine VC_loop1 (fun (k : Nat) => [(8, .int .i64 k), (7, .int .i64 l.length), (0, .slice A l.length cap), (1, .func (.func f) #[] cs.toArray)]) (fun _ => H) (fun k => k ≤ l.length ∧ idxFrom p l 0 = idxFrom p (l.drop k) k) (fun k => l.length - k) 0 ⟨Nat.zero_le _, by simp⟩ ?_ (fun w hw => hw) ?_
  · (repeat (first | exact sub_nil _ | (apply sub_cons; first | exact rfl | exact congrArg (fun z : Int => some (Value.int .i64 z)) (by omega))))
  rintro k ⟨hk, hi⟩ K hK
  by_cases hlt : k < l.length
  · obtain ⟨a, ha⟩ : ∃ a, l[k]? = some a := ⟨_, List.getElem?_eq_getElem hlt⟩
    have hpa := hp a (List.mem_of_getElem? ha)
    rw [idx_drop p l ha] at hi
    repeat' (first | ((first | apply VL_callvt (cs := cs)); exact rfl; exact hen; (repeat (first | exact args_nil | (apply args_cons; exact rfl))); exact rfl; exact fun _ hw => hpa _ hw) | apply (zs1 ?_) | apply (zs2 ?_) | (apply zg3; refine zs60 ?_) | (apply zg5; refine zs57 ?_) | (apply (zs17 ?_ ?_) <;> intro _ <;> try (exfalso; omega)) | apply (zs65 ?_) | apply (zs68 ?_) | apply (zs69 ?_) | apply (zs70 ?_) | (apply zg27; refine zs71 ?_) | apply (zs73 ?_) | apply (zs76 ?_) | fail)
    cases hpv : p a
    · rw [hpv] at hi
      repeat' (first | apply (zs1 ?_) | (apply zg13; refine zs30 ?_) | apply (zs65 ?_) | apply (zs68 ?_) | apply (zs70 ?_) | (apply zg27; refine zs72 ?_) | apply (zs76 ?_) | apply (zs79 ?_) | fail)
      apply hK (k + 1)
      · exact ⟨by omega, hi⟩
      · omega
      · (repeat (first | exact sub_nil _ | (apply sub_cons; first | exact rfl | exact congrArg (fun z : Int => some (Value.int .i64 z)) (by omega))))
      · exact fun w hw => hw
    · rw [hpv] at hi
      repeat' (first | apply (zs1 ?_) | apply (zs2 ?_) | apply (zs65 ?_) | apply (zs68 ?_) | apply (zs69 ?_) | apply (zs70 ?_) | (apply zg27; refine zs71 ?_) | apply (zs74 ?_) | apply (zs77 ?_) | apply (zs78 ?_) | fail)
      apply VQ_ret1; exact rfl; exact rfl
      exact ⟨by rw [hi]; rfl, rfl⟩
  · repeat' (first | apply (zs2 ?_) | (apply (zs17 ?_ ?_) <;> intro _ <;> try (exfalso; omega)) | apply (zs65 ?_) | apply (zs68 ?_) | apply (zs69 ?_) | apply (zs70 ?_) | (apply zg27; refine zs72 ?_) | apply (zs74 ?_) | apply (zs75 ?_) | apply (zs80 ?_) | apply (zs81 ?_) | fail)
    apply VQ_ret1; exact rfl; exact rfl
    rw [hi, List.drop_eq_nil_of_le (by omega)]
    exact ⟨rfl, rfl⟩
theorem containsFuncRows {α : Type} (val : α → Value) (p : α → Bool) (l : List α) (f : Nat) (cs : List Value) (hen : ∀ xs w, (callFunc f xs).run Tryz.prog w = .ok (.enter f xs) w) (hlen : l.length ≤ 9223372036854775807) {A : Option Addr} {cap B : Nat} {w0 : World} {H : List HP} {w : World} (hr : Rd B w0 H A (l.flatMap fun a => [val a]))
    (hp : ∀ a ∈ l, ∀ w, St B w0 H w → Calls Tryz.prog f ([val a] ++ cs).toArray w (Post B w0 fun v K => v = .bool (p a) ∧ K = H)) (hw : St B w0 H w) :
    Calls Tryz.prog 110 [.slice A l.length cap, .func (.func f) #[] cs.toArray].toArray w (Post B w0 fun v K => v = .bool (l.any p) ∧ K = H) := by
  refine Calls_of_VC Tryz.func110 Tryz.ntmps110 rfl rfl hw ?_
  have hia := idx_any p l 0 (by omega)
  repeat' (first | ((first | apply VL_callt en144 | apply VL_callq en144); (repeat (first | exact args_nil | (apply args_cons; exact rfl))); exact rfl; exact fun _ hw => (indexFuncRows val p l f cs hen hlen hr hp hw)) | apply (zs1 ?_) | apply (zs2 ?_) | (apply (zs20 ?_ ?_) <;> intro _ <;> try (exfalso; omega)) | apply (zs65 ?_) | apply (zs68 ?_) | apply (zs69 ?_) | apply (zs70 ?_) | apply (zs74 ?_) | fail)
  all_goals (apply VQ_ret1; exact rfl; exact rfl)
  · rename_i h; exact ⟨by rw [hia.1 h], rfl⟩
  · rename_i h
    have : ¬ l.any p = true := fun e => by have := hia.2 e; omega
    exact ⟨by rw [Bool.eq_false_iff.2 this], rfl⟩
theorem isNaN_int (x : Int) {B : Nat} {w0 : World} {H : List HP} {w : World} (hw : St B w0 H w) : Calls Tryz.prog 160 [.int .i64 x].toArray w (Post B w0 fun v K => v = .bool false ∧ K = H) := by
  refine Calls_of_VC Tryz.func160 Tryz.ntmps160 rfl rfl hw ?_
  repeat' (first | apply (zs1 ?_) | apply (zs2 ?_) | (apply zg8; (refine zs16 ?_ ?_ <;> intro _ <;> try (exfalso; omega))) | apply (zs65 ?_) | apply (zs68 ?_) | apply (zs69 ?_) | apply (zs70 ?_) | apply (zs74 ?_) | fail)
  apply VQ_ret1; exact rfl; exact rfl
  exact ⟨rfl, rfl⟩
theorem compare_int (x y : Int) {B : Nat} {w0 : World} {H : List HP} {w : World} (hw : St B w0 H w) : Calls Tryz.prog 147 [.int .i64 x, .int .i64 y].toArray w (Post B w0 fun v K => v = .int .i64 (cmpI x y) ∧ K = H) := by
  refine Calls_of_VC Tryz.func147 Tryz.ntmps147 rfl rfl hw ?_
  unfold cmpI
  repeat' (first | ((first | apply VL_callt en160 | apply VL_callq en160); (repeat (first | exact args_nil | (apply args_cons; exact rfl))); exact rfl; exact fun _ hw => (isNaN_int _ hw)) | apply (zs1 ?_) | apply (zs2 ?_) | (apply (zs17 ?_ ?_) <;> intro _ <;> try (exfalso; omega)) | (apply (zs19 ?_ ?_) <;> intro _ <;> try (exfalso; omega)) | apply (zs65 ?_) | apply (zs68 ?_) | apply (zs69 ?_) | apply (zs70 ?_) | (apply zg27; first | refine zs71 ?_ | refine zs72 ?_) | apply (zs74 ?_) | apply (zs76 ?_) | apply (zs77 ?_) | fail)
  all_goals (((repeat apply VQ_tail); apply VQ_ret1; exact rfl; exact rfl; refine ⟨congrArg _ ?_, rfl⟩); (repeat (first | refine eq_ite_neg (by omega) ?_ | refine eq_ite_pos (by omega) ?_)); rfl)
end Go.Proofs.YtnkpfpgmbpnbgaaGreatDoor

/- Walks: Check of the program. -/
namespace Go.Proofs.YtnkpfpgmbpnbgaaGreatDoor
open Go.RowKit Go.Eng Go.Nw

theorem cp1_spec (xs : List Int) {A : Option Addr} {cap : Nat} (n : NetM) (g : Nat) {B : Nat} {w0 : World} {H : List HP} {w : World} (hw : St B w0 (blk g (.cells #[.int .i64 n.nodes, .slice n.pA n.rows.length n.pcap, .int .i64 n.noise, .int .i64 n.thr, .slice n.lA n.links.length n.lcap, .slice n.mA n.margin.length n.mcap] 26 (0, 0)) :: H) w) :
    Calls Tryz.prog 111 [.slice A xs.length cap, .pointer (some ⟨g, 0, none⟩)].toArray w (Post B w0 fun v K => v = .bool (wide n.nodes xs) ∧ K = blk g (.cells #[.int .i64 n.nodes, .slice n.pA n.rows.length n.pcap, .int .i64 n.noise, .int .i64 n.thr, .slice n.lA n.links.length n.lcap, .slice n.mA n.margin.length n.mcap] 26 (0, 0)) :: H) := by
  refine Calls_of_VC Tryz.func111 Tryz.ntmps111 rfl rfl hw ?_
  unfold wide
  repeat' (first | apply (zs1 ?_) | apply (zs2 ?_) | (apply zg2; refine zs6 ?_) | (apply zg3; refine zs7 ?_) | (apply zg4; refine zs9 ?_) | (apply zg8; (refine zs16 ?_ ?_ <;> intro _ <;> try (exfalso; omega))) | apply (zs65 ?_) | apply (zs68 ?_) | apply (zs69 ?_) | apply (zs70 ?_) | apply (zs74 ?_) | fail)
  · rename_i h
    apply VQ_ret1; exact rfl; exact rfl
    exact ⟨by rw [decide_eq_true h], rfl⟩
  · rename_i h
    apply VQ_ret1; exact rfl; exact rfl
    exact ⟨by rw [decide_eq_false (by omega)], rfl⟩

theorem cp2_spec (p : Int) {B : Nat} {w0 : World} {H : List HP} {w : World} (hw : St B w0 H w) : Calls Tryz.prog 112 [.int .i64 p].toArray w (Post B w0 fun v K => v = .bool (outside p) ∧ K = H) := by
  refine Calls_of_VC Tryz.func112 Tryz.ntmps112 rfl rfl hw ?_
  unfold outside
  repeat' (first | apply (zs1 ?_) | apply (zs2 ?_) | (apply zg1; first | refine zs3 ?_ | refine zs4 ?_) | (apply zg6; first | refine zs11 ?_ | refine zs12 ?_) | (apply (zs17 ?_ ?_) <;> intro _ <;> try (exfalso; omega)) | (apply (zs19 ?_ ?_) <;> intro _ <;> try (exfalso; omega)) | apply (zs65 ?_) | apply (zs68 ?_) | apply (zs69 ?_) | apply (zs70 ?_) | apply (zs74 ?_) | fail)
  · apply VQ_ret1; exact rfl; exact rfl
    exact ⟨by rw [decide_eq_true (by omega)], rfl⟩
  · apply VQ_ret1; exact rfl; exact rfl
    exact ⟨by rw [decide_eq_true (by omega)], rfl⟩
  · apply VQ_ret1; exact rfl; exact rfl
    exact ⟨by rw [decide_eq_false (by omega)], rfl⟩

theorem cp3_spec (xs : List Int) (hl : xs.length ≤ 9223372036854775807) {A : Option Addr} {cap : Nat} (g : Nat) {B : Nat} {w0 : World} {H : List HP} {w : World} (hr : Rd B w0 H A (xs.flatMap numF)) (hw : St B w0 (blk g (.cells #[.func (.func 112) #[] #[]] 124 (0, 0)) :: H) w) :
    Calls Tryz.prog 113 [.slice A xs.length cap, .pointer (some ⟨g, 0, none⟩)].toArray w (Post B w0 fun v K => v = .bool (xs.any outside) ∧ K = blk g (.cells #[.func (.func 112) #[] #[]] 124 (0, 0)) :: H) := by
  refine Calls_of_VC Tryz.func113 Tryz.ntmps113 rfl rfl hw ?_
  repeat' (first | ((first | apply VL_callt en114 | apply VL_callq en114); (repeat (first | exact args_nil | (apply args_cons; exact rfl))); exact rfl; exact fun _ hw => (containsFuncInts (fun z : Int => .int .i64 z) outside xs 112 [] en112 hl hr.cons (fun a _ _ hw => cp2_spec a hw) hw)) | apply (zs1 ?_) | apply (zs2 ?_) | (apply zg3; refine zs7 ?_) | apply (zs65 ?_) | apply (zs68 ?_) | apply (zs69 ?_) | apply (zs70 ?_) | apply (zs74 ?_) | fail)
  apply VQ_ret1; exact rfl; exact rfl
  exact ⟨rfl, rfl⟩

theorem any_rows (n : NetM) (p : List Int → Bool) : (n.rows.any fun r => p r.xs) = n.net.power.any p := by simp [NetM.net, List.any_map, Function.comp_def]

theorem checkPower_spec (n : NetM) {B : Nat} {w0 : World} {H : List HP} {w : World} (hin : n.In B w0 H) (hw : St B w0 H w) :
    Calls Tryz.prog 80 [n.val].toArray w (Post B w0 fun v K => v = .int .i64 (tableE n.net) ∧ K = H) := by
  refine Calls_of_VC Tryz.func80 Tryz.ntmps80 rfl rfl hw ?_
  obtain ⟨hpw, hrw, hlk, hmg, hs1, hs2, hs3, hs4⟩ := hin
  have e1 : n.net.power.length = n.rows.length := by simp [NetM.net]
  have e2 : n.net.nodes = n.nodes := rfl
  unfold tableE
  rw [e1, e2, ← any_rows, ← any_rows n (fun r => r.any outside)]
  repeat' (first | apply (zs1 ?_) | apply (zs2 ?_) | (apply zg1; first | refine zs3 ?_ | refine zs4 ?_) | (apply zg2; refine zs6 ?_) | (apply zg3; refine zs7 ?_) | (apply zg4; refine zs9 ?_) | (apply zg6; refine zs11 ?_) | (apply zg8; (refine zs16 ?_ ?_ <;> intro _ <;> try (exfalso; omega))) | (apply zg23; (refine zs52 ?_; intro _)) | apply (zs65 ?_) | apply (zs68 ?_) | apply (zs69 ?_) | apply (zs70 ?_) | (apply zg27; refine zs71 ?_) | apply (zs74 ?_) | apply (zs77 ?_) | (apply zg29; (apply VL_makeFunc; (repeat (first | exact args_nil | (apply args_cons; exact rfl))) ; exact rfl)) | fail)
  · ((repeat apply VQ_tail); apply VQ_ret1; exact rfl; exact rfl; refine ⟨congrArg _ ?_, rfl⟩)
    (repeat (first | refine eq_ite_neg (by omega) ?_ | refine eq_ite_pos (by omega) ?_))
    rfl
  rename_i g _
  repeat' (first | ((first | apply VL_callt en110 | apply VL_callq en110); (repeat (first | exact args_nil | (apply args_cons; exact rfl))); exact rfl; exact fun _ hw => (containsFuncRows (fun r : RowM => .slice r.A r.xs.length r.cap) (fun r => wide n.nodes r.xs) n.rows 111 [.pointer (some ⟨g, 0, none⟩)] en111 hs1 hpw.cons (fun a _ _ hw => cp1_spec a.xs n g hw) hw)) | (apply zg6; refine zs12 ?_) | apply (zs65 ?_) | apply (zs68 ?_) | fail)
  cases hc : (n.rows.any fun r => wide n.nodes r.xs)
  rotate_left
  · repeat' (first | apply (zs2 ?_) | apply (zs65 ?_) | apply (zs68 ?_) | apply (zs69 ?_) | apply (zs70 ?_) | (apply zg27; refine zs71 ?_) | apply (zs74 ?_) | apply (zs77 ?_) | fail)
    ((repeat apply VQ_tail); apply VQ_ret1; exact rfl; exact rfl; refine ⟨congrArg _ ?_, rfl⟩)
    rw [if_neg (by omega)]; rfl
  repeat' (first | (apply zg2; refine zs6 ?_) | (apply zg3; refine zs7 ?_) | (apply zg22; refine zs50 ?_) | (apply zg24; (refine zs54 ?_; intro _)) | apply (zs65 ?_) | apply (zs68 ?_) | apply (zs69 ?_) | apply (zs70 ?_) | (apply zg27; refine zs72 ?_) | apply (zs76 ?_) | (apply zg29; (apply VL_makeFunc; (repeat (first | exact args_nil | (apply args_cons; exact rfl))) ; exact rfl)) | fail)
  rename_i g2
  apply VL_callt en110
  (repeat (first | exact args_nil | (apply args_cons; exact rfl)))
  exact rfl
  exact fun _ hw => containsFuncRows (fun r : RowM => .slice r.A r.xs.length r.cap) (fun r => r.xs.any outside) n.rows 113 [.pointer (some ⟨g2, 0, none⟩)] en113 hs1 hpw.cons.cons (fun a ha _ hw => cp3_spec a.xs (hs2 a ha) g2 (hrw a ha).cons hw) hw
  cases hd : (n.rows.any fun r => r.xs.any outside)
  · repeat' (first | apply (zs2 ?_) | apply (zs65 ?_) | apply (zs68 ?_) | apply (zs69 ?_) | apply (zs70 ?_) | (apply zg27; refine zs72 ?_) | apply (zs74 ?_) | apply (zs76 ?_) | fail)
    ((repeat apply VQ_tail); apply VQ_ret1; exact rfl; exact rfl; refine ⟨congrArg _ ?_, rfl⟩)
    rw [if_neg (by omega)]; rfl
  · repeat' (first | apply (zs2 ?_) | apply (zs65 ?_) | apply (zs68 ?_) | apply (zs69 ?_) | apply (zs70 ?_) | (apply zg27; refine zs71 ?_) | apply (zs74 ?_) | apply (zs77 ?_) | fail)
    ((repeat apply VQ_tail); apply VQ_ret1; exact rfl; exact rfl; refine ⟨congrArg _ ?_, rfl⟩)
    rw [if_neg (by omega)]; rfl
end Go.Proofs.YtnkpfpgmbpnbgaaGreatDoor

/- Networks of chapter 31, plain: valid networks, their links in order, where a link is. -/
namespace Go.Nw

theorem cmpI_neg {x y : Int} : cmpI x y < 0 ↔ x < y := by unfold cmpI; split <;> (try split) <;> omega
theorem cmpI_zero {x y : Int} : cmpI x y = 0 ↔ x = y := by unfold cmpI; split <;> (try split) <;> omega
theorem cmpL_neg {a b : Lk} : cmpL a b < 0 ↔ a.1 < b.1 ∨ (a.1 = b.1 ∧ a.2.1 < b.2.1) := by
  have h1 := @cmpI_neg a.1 b.1
  have h2 := @cmpI_zero a.1 b.1
  have h3 := @cmpI_neg a.2.1 b.2.1
  unfold cmpL; split <;> omega
theorem cmpL_zero {a b : Lk} : cmpL a b = 0 ↔ a.1 = b.1 ∧ a.2.1 = b.2.1 := by
  have h2 := @cmpI_zero a.1 b.1
  have h3 := @cmpI_zero a.2.1 b.2.1
  unfold cmpL; split <;> omega

structure OkL (n : Net) (i : Nat) : Prop where
  f0 : 0 ≤ (lnk n i).1
  f1 : (lnk n i).1 < n.nodes
  t0 : 0 ≤ (lnk n i).2.1
  t1 : (lnk n i).2.1 < n.nodes
  ne : (lnk n i).1 ≠ (lnk n i).2.1
  l0 : 0 ≤ (lnk n i).2.2
  l1 : (lnk n i).2.2 ≤ 7
  ord : 0 < i → cmpL (lnk n (i - 1)) (lnk n i) < 0
  m0 : 0 ≤ mar n i
  m1 : mar n i ≤ powr n (lnk n i).1 (lnk n i).2.1

theorem link_ok {n : Net} {i : Nat} (h : linkE n i = 0) : OkL n i := by
  unfold linkE at h
  by_cases h1 : ¬ (0 ≤ (lnk n i).1 ∧ (lnk n i).1 < n.nodes) ∨ ¬ (0 ≤ (lnk n i).2.1 ∧ (lnk n i).2.1 < n.nodes) ∨ (lnk n i).1 = (lnk n i).2.1 ∨ (lnk n i).2.2 < 0 ∨ 7 < (lnk n i).2.2
  · rw [if_pos h1] at h; omega
  rw [if_neg h1] at h
  by_cases h2 : 0 < i ∧ 0 ≤ cmpL (lnk n (i - 1)) (lnk n i)
  · rw [if_pos h2] at h; omega
  rw [if_neg h2] at h
  by_cases h3 : mar n i < 0 ∨ powr n (lnk n i).1 (lnk n i).2.1 < mar n i
  · rw [if_pos h3] at h; omega
  constructor <;> omega

structure Ok (n : Net) : Prop where
  n0 : 2 ≤ n.nodes
  n1 : n.nodes ≤ 32
  p0 : (n.power.length : Int) = n.nodes
  p1 : ∀ r ∈ n.power, (r.length : Int) = n.nodes
  p2 : ∀ r ∈ n.power, ∀ p ∈ r, 0 ≤ p ∧ p ≤ 68719476736
  z0 : 0 ≤ n.noise
  z1 : n.noise ≤ 68719476736
  t0 : 1000 ≤ n.thr
  t1 : n.thr ≤ 100000
  k0 : n.links.length ≤ 128
  k1 : n.margin.length = n.links.length
  lk : ∀ i, i < n.links.length → OkL n i

theorem links_ok {n : Net} : ∀ (r i : Nat), linksE n r i = 0 → ∀ j, i ≤ j → j < i + r → OkL n j
  | 0, _, _, j, h1, h2 => by omega
  | r + 1, i, h, j, h1, h2 => by
    unfold linksE at h
    by_cases h0 : linkE n i = 0
    · rw [if_pos h0] at h
      by_cases e : i = j
      · subst e; exact link_ok h0
      · exact links_ok r (i + 1) h j (by omega) (by omega)
    · rw [if_neg h0] at h; exact absurd h h0

theorem check_ok {n : Net} (h : checkE n = 0) : Ok n := by
  unfold checkE at h
  by_cases h1 : n.nodes < 2 ∨ 32 < n.nodes
  · rw [if_pos h1] at h; omega
  rw [if_neg h1] at h
  by_cases h2 : tableE n ≠ 0
  · rw [if_pos h2] at h; exact absurd h h2
  rw [if_neg h2] at h
  by_cases h3 : n.noise < 0 ∨ 68719476736 < n.noise ∨ n.thr < 1000 ∨ 100000 < n.thr
  · rw [if_pos h3] at h; omega
  rw [if_neg h3] at h
  by_cases h4 : 128 < n.links.length
  · rw [if_pos h4] at h; omega
  rw [if_neg h4] at h
  by_cases h5 : n.margin.length ≠ n.links.length
  · rw [if_pos h5] at h; omega
  rw [if_neg h5] at h
  obtain ⟨t1, t2, t3⟩ := table_ok (Classical.not_not.1 h2)
  exact ⟨by omega, by omega, t1, t2, t3, by omega, by omega, by omega, by omega, by omega, Classical.not_not.1 h5, fun i hi => links_ok _ _ h i (Nat.zero_le _) (by omega)⟩

theorem sorted {n : Net} (h : Ok n) : ∀ (i j : Nat), i < j → j < n.links.length → cmpL (lnk n i) (lnk n j) < 0 := by
  intro i j
  induction j with
  | zero => intro h1; omega
  | succ j ih =>
    intro h1 h2
    have h3 := (h.lk (j + 1) h2).ord (by omega)
    rw [Nat.add_sub_cancel] at h3
    by_cases e : i = j
    · subst e; exact h3
    · have h4 := ih (by omega) (by omega)
      rw [cmpL_neg] at *
      omega

def isKey (a b : Int) (l : Lk) : Bool := decide (l.1 = a) && decide (l.2.1 = b)
def findE (n : Net) (a b : Int) : Int := idxFrom (isKey a b) n.links 0

theorem idxFrom_none {α : Type} {p : α → Bool} : ∀ {l : List α} {k : Int}, (∀ a ∈ l, p a = false) → idxFrom p l k = -1
  | [], _, _ => rfl
  | a :: l, k, h => by
    rw [idxFrom, h a List.mem_cons_self, if_neg (by simp)]
    exact idxFrom_none fun b hb => h b (List.mem_cons_of_mem _ hb)
theorem idxFrom_at {α : Type} {p : α → Bool} : ∀ {l : List α} {k : Int} {i : Nat} {a : α}, l[i]? = some a → p a = true → (∀ j b, j < i → l[j]? = some b → p b = false) → idxFrom p l k = k + i
  | [], _, _, _, h, _, _ => by simp at h
  | b :: l, k, 0, a, h, hp, _ => by
    obtain rfl : b = a := by simpa using h
    rw [idxFrom, if_pos hp]; simp
  | b :: l, k, i + 1, a, h, hp, hn => by
    have hb := hn 0 b (by omega) (by simp)
    rw [idxFrom, if_neg (by rw [hb]; simp), idxFrom_at (i := i) (a := a) (by simpa using h) hp fun j c hj hc => hn (j + 1) c (by omega) (by simpa using hc)]
    omega
theorem idxFrom_ge {α : Type} {p : α → Bool} : ∀ {l : List α} {k : Int}, 0 ≤ k → idxFrom p l k = -1 ∨ (k ≤ idxFrom p l k ∧ idxFrom p l k < k + l.length)
  | [], _, _ => .inl rfl
  | a :: l, k, h => by
    unfold idxFrom
    by_cases hp : p a = true
    · rw [if_pos hp]; simp only [List.length_cons]; omega
    · rw [if_neg hp]
      rcases @idxFrom_ge _ p l (k + 1) (by omega) with h1 | h1
      · exact .inl h1
      · simp only [List.length_cons]; omega
theorem idxFrom_spec {α : Type} {p : α → Bool} : ∀ {l : List α} {k : Int} {i : Nat}, 0 ≤ k → idxFrom p l k = k + i → ∃ a, l[i]? = some a ∧ p a = true
  | [], k, i, h0, h => by simp [idxFrom] at h; omega
  | a :: l, k, i, h0, h => by
    unfold idxFrom at h
    by_cases hp : p a = true
    · rw [if_pos hp] at h
      obtain rfl : i = 0 := by omega
      exact ⟨a, by simp, hp⟩
    · rw [if_neg hp] at h
      cases i with
      | zero =>
        rcases @idxFrom_ge _ p l (k + 1) (by omega) with h1 | h1 <;> omega
      | succ i =>
        obtain ⟨b, h1, h2⟩ := idxFrom_spec (p := p) (i := i) (l := l) (k := k + 1) (by omega) (by omega)
        exact ⟨b, by simpa using h1, h2⟩

theorem lnk_get {n : Net} {i : Nat} {l : Lk} (h : n.links[i]? = some l) : lnk n i = l := by simp [lnk, List.getD, h]
theorem mar_get {n : Net} {i : Nat} {z : Int} (h : n.margin[i]? = some z) : mar n i = z := by simp [mar, List.getD, h]
theorem lnk_some (n : Net) {i : Nat} (h : i < n.links.length) : n.links[i]? = some (lnk n i) := by simp [lnk, List.getD, h]

/-- What a search in the ordered links finds. -/
theorem find_pos {n : Net} (h : Ok n) {a b c : Int} {k : Nat} (hk : k ≤ n.links.length) (h1 : ∀ j, j < k → cmpL (lnk n j) (a, b, c) < 0) (h2 : ∀ j, k ≤ j → j < n.links.length → 0 ≤ cmpL (lnk n j) (a, b, c)) :
    findE n a b = if k < n.links.length ∧ cmpL (lnk n k) (a, b, c) = 0 then (k : Int) else -1 := by
  unfold findE
  have hlow : ∀ j l, j < k → n.links[j]? = some l → isKey a b l = false := fun j l hj hl => by
    have := h1 j hj
    rw [lnk_get hl, cmpL_neg] at this
    simp only [isKey, Bool.and_eq_false_iff, decide_eq_false_iff_not]
    simp only at this
    omega
  by_cases hc : k < n.links.length ∧ cmpL (lnk n k) (a, b, c) = 0
  · rw [if_pos hc, idxFrom_at (lnk_some n hc.1) (by have := cmpL_zero.1 hc.2; simp only at this; simp [isKey, this]) hlow]
    omega
  · rw [if_neg hc]
    refine idxFrom_none fun l hl => ?_
    obtain ⟨j, hj, rfl⟩ := List.mem_iff_getElem.1 hl
    by_cases hjk : j < k
    · exact hlow j _ hjk (List.getElem?_eq_getElem hj)
    · have e : lnk n j = n.links[j] := lnk_get (List.getElem?_eq_getElem hj)
      have h3 : cmpL (lnk n j) (a, b, c) ≠ 0 := by
        by_cases ejk : j = k
        · subst ejk; exact fun e => hc ⟨hj, e⟩
        · intro e0
          have h4 := sorted h k j (by omega) hj
          have h5 := h2 k (Nat.le_refl _) (by omega)
          rw [cmpL_zero] at e0
          rw [cmpL_neg] at h4
          have h6 : ¬ cmpL (lnk n k) (a, b, c) < 0 := by omega
          rw [cmpL_neg] at h6
          simp only at *
          omega
      rw [e, Ne, cmpL_zero] at h3
      simp only at h3
      simp only [isKey, Bool.and_eq_false_iff, decide_eq_false_iff_not]
      omega

def heardE (n : Net) (s d : Int) : Bool := decide (n.thr * (n.noise + d) ≤ s * 1000)
def usableE (n : Net) (i : Nat) : Bool := decide (0 ≤ findE n (lnk n i).2.1 (lnk n i).1) && (heardE n (mar n i) 0 && heardE n (mar n (findE n (lnk n i).2.1 (lnk n i).1).toNat) 0)
theorem hear_bd {n : Net} (h : Ok n) {d : Int} (h0 : 0 ≤ d) (h1 : d ≤ 8796093022208) : -9223372036854775808 ≤ n.thr * (n.noise + d) ∧ n.thr * (n.noise + d) ≤ 9223372036854775807 := by
  have h2 := h.t0; have h3 := h.t1; have h4 := h.z0; have h5 := h.z1
  have h6 : 0 ≤ n.thr * (n.noise + d) := Int.mul_nonneg (by omega) (by omega)
  have h7 : n.thr * (n.noise + d) ≤ 100000 * (n.noise + d) := Int.mul_le_mul_of_nonneg_right h3 (by omega)
  omega
theorem mar_bd {n : Net} (h : Ok n) {i : Nat} (hi : i < n.links.length) : 0 ≤ mar n i ∧ mar n i ≤ 68719476736 := by
  have hl := h.lk i hi
  refine ⟨hl.m0, Int.le_trans hl.m1 ?_⟩
  unfold powr
  have e1 : (lnk n i).1.toNat < n.power.length := by have := h.p0; have := hl.f1; have := hl.f0; omega
  rw [show n.power.getD (lnk n i).1.toNat [] = n.power[(lnk n i).1.toNat] by simp [List.getD, e1]]
  have hm := List.getElem_mem e1
  have e2 : (lnk n i).2.1.toNat < (n.power[(lnk n i).1.toNat]).length := by have := h.p1 _ hm; have := hl.t1; have := hl.t0; omega
  rw [show (n.power[(lnk n i).1.toNat]).getD (lnk n i).2.1.toNat 0 = (n.power[(lnk n i).1.toNat])[(lnk n i).2.1.toNat] by simp [List.getD, e2]]
  exact (h.p2 _ hm _ (List.getElem_mem e2)).2

theorem find_lt {n : Net} {a b : Int} (h : 0 ≤ findE n a b) : (findE n a b).toNat < n.links.length := by
  rcases @idxFrom_ge _ (isKey a b) n.links 0 (by omega) with h1 | h1 <;> unfold findE at h ⊢ <;> omega
theorem find_key {n : Net} {a b : Int} (h : 0 ≤ findE n a b) : (lnk n (findE n a b).toNat).1 = a ∧ (lnk n (findE n a b).toNat).2.1 = b := by
  obtain ⟨l, h1, h2⟩ := @idxFrom_spec _ (isKey a b) n.links 0 (findE n a b).toNat (by omega) (by unfold findE at *; omega)
  rw [lnk_get h1]
  simpa [isKey] using h2
end Go.Nw

/- Walks: comparing links, Check, and looking for a link. -/
namespace Go.Proofs.YtnkpfpgmbpnbgaaGreatDoor
open Go.RowKit Go.Eng Go.Nw

abbrev netB (g : Nat) (n : NetM) : HP := blk g (.cells #[.int .i64 n.nodes, .slice n.pA n.rows.length n.pcap, .int .i64 n.noise, .int .i64 n.thr, .slice n.lA n.links.length n.lcap, .slice n.mA n.margin.length n.mcap] 26 (0, 0))

def firstNZ : List Int → Int
  | [] => 0
  | a :: l => if a ≠ 0 then a else firstNZ l
theorem firstNZ_drop (l : List Int) {k : Nat} {a : Int} (h : l[k]? = some a) : firstNZ (l.drop k) = if a ≠ 0 then a else firstNZ (l.drop (k + 1)) := by
  obtain ⟨hk, rfl⟩ := List.getElem?_eq_some_iff.1 h
  rw [List.drop_eq_getElem_cons hk, firstNZ]

theorem or_ints (l : List Int) (hlen : l.length ≤ 1000) {A : Option Addr} {cap B : Nat} {w0 : World} {H : List HP} {w : World} (hr : Rd B w0 H A (l.flatMap numF)) (hw : St B w0 H w) :
    Calls Tryz.prog 146 [.slice A l.length cap].toArray w (Post B w0 fun v K => v = .int .i64 (firstNZ l) ∧ K = H) := by
  refine Calls_of_VC Tryz.func146 Tryz.ntmps146 rfl rfl hw ?_
  repeat' (first | apply (zs1 ?_) | apply (zs2 ?_) | (apply zg4; refine zs9 ?_) | apply (zs65 ?_) | apply (zs68 ?_) | apply (zs69 ?_) | apply (zs70 ?_) | apply (zs73 ?_) | fail)
  refine VC_loop1 (fun (k : Nat) => [(8, .int .i64 k), (7, .int .i64 l.length), (6, .slice A l.length cap), (3, .int .i64 0)]) (fun _ => H) (fun k => k ≤ l.length ∧ firstNZ l = firstNZ (l.drop k)) (fun k => l.length - k) 0 ⟨Nat.zero_le _, by simp⟩ ?_ (fun w hw => hw) ?_
  · (repeat (first | exact sub_nil _ | (apply sub_cons; first | exact rfl | exact congrArg (fun z : Int => some (Value.int .i64 z)) (by omega))))
  rintro k ⟨hk, hi⟩ K hK
  by_cases hlt : k < l.length
  · obtain ⟨a, ha⟩ : ∃ a, l[k]? = some a := ⟨_, List.getElem?_eq_getElem hlt⟩
    rw [firstNZ_drop l ha] at hi
    repeat' (first | apply (zs1 ?_) | apply (zs2 ?_) | (apply zg3; refine zs60 ?_) | (apply zg5; refine zs57 ?_) | (apply zg8; (refine zs16 ?_ ?_ <;> intro _ <;> try (exfalso; omega))) | (apply (zs17 ?_ ?_) <;> intro _ <;> try (exfalso; omega)) | (apply zg13; refine zs30 ?_) | apply (zs65 ?_) | apply (zs68 ?_) | apply (zs69 ?_) | apply (zs70 ?_) | (apply zg27; first | refine zs71 ?_ | refine zs72 ?_) | apply (zs73 ?_) | apply (zs74 ?_) | apply (zs76 ?_) | apply (zs77 ?_) | apply (zs78 ?_) | apply (zs79 ?_) | fail)
    · rename_i h
      rw [if_pos h] at hi
      ((repeat apply VQ_tail); apply VQ_ret1; exact rfl; exact rfl; refine ⟨congrArg _ ?_, rfl⟩)
      rw [hi]
    · rename_i h
      rw [if_neg (by omega)] at hi
      repeat' (first | fail)
      apply hK (k + 1)
      · exact ⟨by omega, hi⟩
      · omega
      · (repeat (first | exact sub_nil _ | (apply sub_cons; first | exact rfl | exact congrArg (fun z : Int => some (Value.int .i64 z)) (by omega))))
      · exact fun w hw => hw
  · repeat' (first | apply (zs1 ?_) | apply (zs2 ?_) | (apply (zs17 ?_ ?_) <;> intro _ <;> try (exfalso; omega)) | apply (zs65 ?_) | apply (zs68 ?_) | apply (zs69 ?_) | apply (zs70 ?_) | (apply zg27; refine zs72 ?_) | apply (zs74 ?_) | apply (zs75 ?_) | apply (zs80 ?_) | apply (zs81 ?_) | fail)
    ((repeat apply VQ_tail); apply VQ_ret1; exact rfl; exact rfl; refine ⟨congrArg _ ?_, rfl⟩)
    rw [hi, List.drop_eq_nil_of_le (by omega)]; rfl

theorem or_two (x y : Int) : firstNZ [x, y] = if x = 0 then y else x := by
  simp only [firstNZ]
  by_cases h : x = 0
  · by_cases h2 : y = 0 <;> simp [h, h2]
  · simp [h]

theorem compare_spec (a b : Lk) {B : Nat} {w0 : World} {H : List HP} {w : World} (hw : St B w0 H w) : Calls Tryz.prog 116 [lkV a, lkV b].toArray w (Post B w0 fun v K => v = .int .i64 (cmpL a b) ∧ K = H) := by
  refine Calls_of_VC Tryz.func116 Tryz.ntmps116 rfl rfl hw ?_
  repeat' (first | apply (zs2 ?_) | (apply zg23; (refine zs52 ?_; intro _)) | apply (zs65 ?_) | apply (zs68 ?_) | apply (zs69 ?_) | apply (zs70 ?_) | fail)
  apply VC_held [0, 1, 2, 3, 5, 6, 7, 8, 4, 9, 10, 11, 12] [] [true, true]
  kernel_rfl
  kernel_rfl
  (repeat (first | with_reducible exact split_nil | with_reducible apply split_t | with_reducible apply split_f))
  (simp only [pickOps, nthO]; rfl)
  exact rfl
  repeat' (first | ((first | apply VL_callt en147 | apply VL_callq en147); (repeat (first | exact args_nil | (apply args_cons; exact rfl))); exact rfl; exact fun _ hw => (compare_int _ _ hw)) | (apply zg2; refine zs6 ?_) | (apply zg3; refine zs7 ?_) | (apply zg26; (refine zs56 ?_; intro _)) | apply (zs65 ?_) | apply (zs87 ?_) | (apply VQ_heldq; (repeat (first | with_reducible exact pull_nil | (with_reducible apply pull_cons; (repeat (first | with_reducible exact rem_here | with_reducible apply rem_there)))))) | fail)
  rename_i g
  first | apply VL_callt en146 | apply VL_callq en146
  (repeat (first | exact args_nil | (apply args_cons; exact rfl)))
  exact rfl
  exact fun _ hw => (or_ints [cmpI a.1 b.1, cmpI a.2.1 b.2.1] (by simp) (Rd.blk (g := g) (cs := #[.int .i64 (cmpI a.1 b.1), .int .i64 (cmpI a.2.1 b.2.1)]) (by (focus repeat (first | with_reducible exact List.mem_cons_self | with_reducible apply List.mem_cons_of_mem | assumption)))) hw)
  repeat' (first | apply (zs2 ?_) | apply (zs65 ?_) | (apply VL_nilh; (repeat (first | with_reducible exact app_nil | with_reducible apply app_cons | exact app_niln _))) | apply (zs68 ?_) | apply (zs74 ?_) | (apply VQ_heldq; (repeat (first | with_reducible exact pull_nil | (with_reducible apply pull_cons; (repeat (first | with_reducible exact rem_here | with_reducible apply rem_there)))))) | apply (zs93 ?_) | apply (zs94 ?_) | fail)
  ((repeat apply VQ_tail); apply VQ_ret1; exact rfl; exact rfl; refine ⟨congrArg _ ?_, rfl⟩)
  rw [or_two]; rfl

theorem cl1_spec (n : NetM) (g : Nat) (a : Int) {B : Nat} {w0 : World} {H : List HP} {w : World} (hm : netB g n ∈ H) (hw : St B w0 H w) :
    Calls Tryz.prog 115 [.int .i64 a, .pointer (some ⟨g, 0, none⟩)].toArray w (Post B w0 fun v K => v = .bool (decide (0 ≤ a ∧ a < n.nodes)) ∧ K = H) := by
  refine Calls_of_VC Tryz.func115 Tryz.ntmps115 rfl rfl hw ?_
  repeat' (first | apply (zs1 ?_) | apply (zs2 ?_) | (apply zg1; first | refine zs3 ?_ | refine zs4 ?_) | (apply zg2; refine zs6 ?_) | (apply zg3; refine zs7 ?_) | (apply zg6; first | refine zs11 ?_ | refine zs12 ?_) | (apply (zs17 ?_ ?_) <;> intro _ <;> try (exfalso; omega)) | (apply (zs20 ?_ ?_) <;> intro _ <;> try (exfalso; omega)) | apply (zs65 ?_) | apply (zs68 ?_) | apply (zs69 ?_) | apply (zs70 ?_) | apply (zs74 ?_) | fail)
  · apply VQ_ret1; exact rfl; exact rfl
    exact ⟨by rw [decide_eq_true (by omega)], rfl⟩
  · apply VQ_ret1; exact rfl; exact rfl
    exact ⟨by rw [decide_eq_false (by omega)], rfl⟩
  · apply VQ_ret1; exact rfl; exact rfl
    exact ⟨by rw [decide_eq_false (by omega)], rfl⟩
end Go.Proofs.YtnkpfpgmbpnbgaaGreatDoor

/- Walks: Check of the program, and looking for a link. -/
namespace Go.Proofs.YtnkpfpgmbpnbgaaGreatDoor
open Go.RowKit Go.Eng Go.Nw

theorem powr_get {n : Net} {a b : Int} {r : List Int} {p : Int} (h1 : n.power[a.toNat]? = some r) (h2 : r[b.toNat]? = some p) : powr n a b = p := by simp [powr, List.getD, h1, h2]

theorem checkLink_spec (n : NetM) (i : Nat) {B : Nat} {w0 : World} {H : List HP} {w : World} (hin : n.In B w0 H) (hi : i < n.links.length) (hml : n.margin.length = n.links.length) (ht : tableE n.net = 0) (hw : St B w0 H w) :
    Calls Tryz.prog 81 [n.val, .int .i64 i].toArray w (Post B w0 fun v K => v = .int .i64 (linkE n.net i) ∧ K = H) := by
  refine Calls_of_VC Tryz.func81 Tryz.ntmps81 rfl rfl hw ?_
  obtain ⟨hpw, hrw, hlk, hmg, hs1, hs2, hs3, hs4⟩ := hin
  obtain ⟨t1, t2, t3⟩ := table_ok ht
  obtain ⟨l, hl⟩ : ∃ l, n.links[i]? = some l := ⟨_, List.getElem?_eq_getElem hi⟩
  obtain ⟨z, hz⟩ : ∃ z, n.margin[i]? = some z := ⟨_, List.getElem?_eq_getElem (by omega)⟩
  have e1 : lnk n.net i = l := lnk_get hl
  have e2 : mar n.net i = z := mar_get hz
  have e3 : n.net.nodes = n.nodes := rfl
  have e4 : n.net.power.length = n.rows.length := by simp [NetM.net]
  rw [e4, e3] at t1
  unfold linkE
  rw [e1, e2, e3]
  by_cases h1 : 0 ≤ l.1 ∧ l.1 < n.nodes
  rotate_left
  · skip
    repeat' (first | ((first | apply VL_callvtb (cs := [_]) | apply VL_callvqb (cs := [_])); exact rfl; exact en115; (repeat (first | exact args_nil | (apply args_cons; exact rfl))); exact rfl; exact fun _ hw => (cl1_spec n _ _ (by (focus repeat (first | with_reducible exact List.mem_cons_self | with_reducible apply List.mem_cons_of_mem | assumption))) hw); all_goals (intro hB; (try simp only [decide_eq_true_eq, decide_eq_false_iff_not] at hB); try (exfalso; omega))) | apply (zs1 ?_) | apply (zs2 ?_) | (apply zg1; refine zs3 ?_) | (apply zg2; refine zs6 ?_) | (apply zg3; first | refine zs7 ?_ | refine zs61 ?_) | (apply zg5; refine zs57 ?_) | (apply zg6; refine zs11 ?_) | (apply zg20; refine zs48 ?_) | (apply zg22; refine zs51 ?_) | (apply zg23; (refine zs52 ?_; intro _)) | (apply zg24; (refine zs54 ?_; intro _)) | apply (zs65 ?_) | apply (zs68 ?_) | apply (zs69 ?_) | apply (zs70 ?_) | (apply zg27; refine zs71 ?_) | apply (zs73 ?_) | apply (zs74 ?_) | apply (zs77 ?_) | apply (zs78 ?_) | (apply zg29; (apply VL_makeFunc; (repeat (first | exact args_nil | (apply args_cons; exact rfl))) ; exact rfl)) | fail)
    all_goals (((repeat apply VQ_tail); apply VQ_ret1; exact rfl; exact rfl; refine ⟨congrArg _ ?_, rfl⟩); (repeat (first | refine eq_ite_neg (by omega) ?_ | refine eq_ite_pos (by omega) ?_)); rfl)
  by_cases h2 : 0 ≤ l.2.1 ∧ l.2.1 < n.nodes
  rotate_left
  · skip
    repeat' (first | ((first | apply VL_callvtb (cs := [_]) | apply VL_callvqb (cs := [_])); exact rfl; exact en115; (repeat (first | exact args_nil | (apply args_cons; exact rfl))); exact rfl; exact fun _ hw => (cl1_spec n _ _ (by (focus repeat (first | with_reducible exact List.mem_cons_self | with_reducible apply List.mem_cons_of_mem | assumption))) hw); all_goals (intro hB; (try simp only [decide_eq_true_eq, decide_eq_false_iff_not] at hB); try (exfalso; omega))) | apply (zs1 ?_) | apply (zs2 ?_) | (apply zg1; first | refine zs3 ?_ | refine zs4 ?_) | (apply zg2; refine zs6 ?_) | (apply zg3; first | refine zs7 ?_ | refine zs61 ?_) | (apply zg5; refine zs57 ?_) | (apply zg6; first | refine zs11 ?_ | refine zs12 ?_) | (apply zg20; first | refine zs47 ?_ | refine zs48 ?_) | (apply zg22; refine zs51 ?_) | (apply zg23; (refine zs52 ?_; intro _)) | (apply zg24; (refine zs54 ?_; intro _)) | apply (zs65 ?_) | apply (zs68 ?_) | apply (zs69 ?_) | apply (zs70 ?_) | (apply zg27; refine zs71 ?_) | apply (zs73 ?_) | apply (zs74 ?_) | apply (zs77 ?_) | apply (zs78 ?_) | (apply zg29; (apply VL_makeFunc; (repeat (first | exact args_nil | (apply args_cons; exact rfl))) ; exact rfl)) | fail)
    all_goals (((repeat apply VQ_tail); apply VQ_ret1; exact rfl; exact rfl; refine ⟨congrArg _ ?_, rfl⟩); (repeat (first | refine eq_ite_neg (by omega) ?_ | refine eq_ite_pos (by omega) ?_)); rfl)
  obtain ⟨r, hr⟩ : ∃ r, n.rows[l.1.toNat]? = some r := ⟨_, List.getElem?_eq_getElem (by omega)⟩
  have hrm : r ∈ n.rows := List.mem_of_getElem? hr
  have hrr := hrw r hrm
  have hrs := hs2 r hrm
  have hrl : (r.xs.length : Int) = n.nodes := t2 r.xs (List.mem_map.2 ⟨r, hrm, rfl⟩)
  obtain ⟨p, hp⟩ : ∃ p, r.xs[l.2.1.toNat]? = some p := ⟨_, List.getElem?_eq_getElem (by omega)⟩
  rw [powr_get (n := n.net) (r := r.xs) (by simp [NetM.net, hr]) hp]
  by_cases h0 : 0 < i
  · obtain ⟨q, hq⟩ : ∃ q, n.links[((i : Int) - 1).toNat]? = some q := ⟨_, List.getElem?_eq_getElem (by omega)⟩
    rw [show lnk n.net (i - 1) = q from lnk_get (by rw [show i - 1 = ((i : Int) - 1).toNat by omega]; exact hq)]
    repeat' (first | ((first | apply VL_callvtb (cs := [_]) | apply VL_callvqb (cs := [_])); exact rfl; exact en115; (repeat (first | exact args_nil | (apply args_cons; exact rfl))); exact rfl; exact fun _ hw => (cl1_spec n _ _ (by (focus repeat (first | with_reducible exact List.mem_cons_self | with_reducible apply List.mem_cons_of_mem | assumption))) hw); all_goals (intro hB; (try simp only [decide_eq_true_eq, decide_eq_false_iff_not] at hB); try (exfalso; omega))) | ((first | apply VL_callt en116 | apply VL_callq en116); (repeat (first | exact args_nil | (apply args_cons; exact rfl))); exact rfl; exact fun _ hw => (compare_spec q l hw)) | apply (zs1 ?_) | apply (zs2 ?_) | (apply zg1; first | refine zs3 ?_ | refine zs4 ?_) | (apply zg2; refine zs6 ?_) | (apply zg3; first | refine zs7 ?_ | refine zs8 ?_ | refine zs60 ?_ | refine zs61 ?_) | (apply zg5; refine zs57 ?_) | (apply zg6; first | refine zs11 ?_ | refine zs12 ?_) | (apply zg7; (refine zs15 ?_ ?_ <;> intro _ <;> try (exfalso; omega))) | (apply (zs17 ?_ ?_) <;> intro _ <;> try (exfalso; omega)) | (apply (zs19 ?_ ?_) <;> intro _ <;> try (exfalso; omega)) | (apply (zs20 ?_ ?_) <;> intro _ <;> try (exfalso; omega)) | (apply zg14; refine zs31 ?_) | (apply zg20; refine zs47 ?_) | (apply zg22; refine zs51 ?_) | (apply zg23; (refine zs52 ?_; intro _)) | (apply zg24; (refine zs54 ?_; intro _)) | apply (zs65 ?_) | apply (zs66 ?_) | apply (zs68 ?_) | apply (zs69 ?_) | apply (zs70 ?_) | (apply zg27; first | refine zs71 ?_ | refine zs72 ?_) | apply (zs73 ?_) | apply (zs74 ?_) | apply (zs76 ?_) | apply (zs77 ?_) | apply (zs78 ?_) | apply (zs79 ?_) | (apply zg28; first | refine zs83 ?_ | refine zs84 ?_) | (apply zg29; (apply VL_makeFunc; (repeat (first | exact args_nil | (apply args_cons; exact rfl))) ; exact rfl)) | fail)
    all_goals (((repeat apply VQ_tail); apply VQ_ret1; exact rfl; exact rfl; refine ⟨congrArg _ ?_, rfl⟩); (repeat (first | refine eq_ite_neg (by omega) ?_ | refine eq_ite_pos (by omega) ?_)); rfl)
  · skip
    repeat' (first | ((first | apply VL_callvtb (cs := [_]) | apply VL_callvqb (cs := [_])); exact rfl; exact en115; (repeat (first | exact args_nil | (apply args_cons; exact rfl))); exact rfl; exact fun _ hw => (cl1_spec n _ _ (by (focus repeat (first | with_reducible exact List.mem_cons_self | with_reducible apply List.mem_cons_of_mem | assumption))) hw); all_goals (intro hB; (try simp only [decide_eq_true_eq, decide_eq_false_iff_not] at hB); try (exfalso; omega))) | ((first | apply VL_callt en116 | apply VL_callq en116); (repeat (first | exact args_nil | (apply args_cons; exact rfl))); exact rfl; exact fun _ hw => (compare_spec _ _ hw)) | apply (zs1 ?_) | apply (zs2 ?_) | (apply zg1; first | refine zs3 ?_ | refine zs4 ?_) | (apply zg2; refine zs6 ?_) | (apply zg3; first | refine zs7 ?_ | refine zs60 ?_ | refine zs61 ?_) | (apply zg5; refine zs57 ?_) | (apply zg6; first | refine zs11 ?_ | refine zs12 ?_) | (apply zg7; (refine zs15 ?_ ?_ <;> intro _ <;> try (exfalso; omega))) | (apply (zs17 ?_ ?_) <;> intro _ <;> try (exfalso; omega)) | (apply (zs19 ?_ ?_) <;> intro _ <;> try (exfalso; omega)) | (apply zg20; refine zs47 ?_) | (apply zg22; refine zs51 ?_) | (apply zg23; (refine zs52 ?_; intro _)) | (apply zg24; (refine zs54 ?_; intro _)) | apply (zs65 ?_) | apply (zs66 ?_) | apply (zs68 ?_) | apply (zs69 ?_) | apply (zs70 ?_) | (apply zg27; first | refine zs71 ?_ | refine zs72 ?_) | apply (zs73 ?_) | apply (zs74 ?_) | apply (zs76 ?_) | apply (zs77 ?_) | apply (zs78 ?_) | apply (zs79 ?_) | (apply zg28; first | refine zs83 ?_ | refine zs84 ?_) | (apply zg29; (apply VL_makeFunc; (repeat (first | exact args_nil | (apply args_cons; exact rfl))) ; exact rfl)) | fail)
    all_goals (((repeat apply VQ_tail); apply VQ_ret1; exact rfl; exact rfl; refine ⟨congrArg _ ?_, rfl⟩); (repeat (first | refine eq_ite_neg (by omega) ?_ | refine eq_ite_pos (by omega) ?_)); rfl)

theorem check_spec (n : NetM) {B : Nat} {w0 : World} {H : List HP} {w : World} (hin : n.In B w0 H) (hw : St B w0 H w) :
    Calls Tryz.prog 38 [n.val].toArray w (Post B w0 fun v K => v = .int .i64 (checkE n.net) ∧ K = H) := by
  refine Calls_of_VC Tryz.func38 Tryz.ntmps38 rfl rfl hw ?_
  have e3 : n.net.nodes = n.nodes := rfl
  have e5 : n.net.noise = n.noise := rfl
  have e6 : n.net.thr = n.thr := rfl
  have e7 : n.net.links = n.links := rfl
  have e8 : n.net.margin = n.margin := rfl
  have hs1 := hin.s1
  have hs3 := hin.s3
  have hs4 := hin.s4
  unfold checkE
  rw [e3, e5, e6, e7, e8]
  (apply VC_seq; apply VC_region; apply VL_box_agg; exact rfl; exact rfl; intro g)
  repeat' (first | ((first | apply VL_callt en80 | apply VL_callq en80); (repeat (first | exact args_nil | (apply args_cons; exact rfl))); exact rfl; exact fun _ hw => (checkPower_spec n hin.cons hw)) | apply (zs1 ?_) | apply (zs2 ?_) | (apply zg1; first | refine zs3 ?_ | refine zs4 ?_) | (apply zg2; refine zs6 ?_) | (apply zg3; first | refine zs7 ?_ | refine zs8 ?_) | (apply zg4; refine zs9 ?_) | (apply zg6; first | refine zs11 ?_ | refine zs12 ?_) | (apply zg8; (refine zs16 ?_ ?_ <;> intro _ <;> try (exfalso; omega))) | (apply (zs17 ?_ ?_) <;> intro _ <;> try (exfalso; omega)) | (apply (zs19 ?_ ?_) <;> intro _ <;> try (exfalso; omega)) | apply (zs65 ?_) | apply (zs68 ?_) | apply (zs69 ?_) | apply (zs70 ?_) | (apply zg27; first | refine zs71 ?_ | refine zs72 ?_) | apply (zs73 ?_) | apply (zs74 ?_) | apply (zs76 ?_) | apply (zs77 ?_) | apply (zs78 ?_) | apply (zs79 ?_) | fail)
  any_goals (((repeat apply VQ_tail); apply VQ_ret1; exact rfl; exact rfl; refine ⟨congrArg _ ?_, rfl⟩); (repeat (first | refine eq_ite_neg (by omega) ?_ | refine eq_ite_pos (by omega) ?_)); rfl)
  have ht : tableE n.net = 0 := by assumption
  refine VC_loop1 (fun (k : Nat) => [(54, .int .i64 k), (53, .int .i64 n.links.length), (1, .pointer (some ⟨g, 0, none⟩))]) (fun _ => netB g n :: H) (fun k => k ≤ n.links.length ∧ linksE n.net n.links.length 0 = linksE n.net (n.links.length - k) k) (fun k => n.links.length - k) 0 ⟨Nat.zero_le _, rfl⟩ ?_ (fun w hw => hw) ?_
  · (repeat (first | exact sub_nil _ | (apply sub_cons; first | exact rfl | exact congrArg (fun z : Int => some (Value.int .i64 z)) (by omega))))
  rintro k ⟨hk, hi⟩ K hK
  by_cases hlt : k < n.links.length
  · skip
    repeat' (first | ((first | apply VL_callt en81 | apply VL_callq en81); (repeat (first | exact args_nil | (apply args_cons; exact rfl))); exact rfl; exact fun _ hw => (checkLink_spec n k hin.cons hlt (by omega) ht hw)) | apply (zs1 ?_) | apply (zs2 ?_) | (apply zg3; refine zs8 ?_) | (apply zg8; (refine zs16 ?_ ?_ <;> intro _ <;> try (exfalso; omega))) | (apply (zs17 ?_ ?_) <;> intro _ <;> try (exfalso; omega)) | (apply zg13; refine zs30 ?_) | apply (zs65 ?_) | apply (zs68 ?_) | apply (zs69 ?_) | apply (zs70 ?_) | (apply zg27; first | refine zs71 ?_ | refine zs72 ?_) | apply (zs73 ?_) | apply (zs74 ?_) | apply (zs76 ?_) | apply (zs77 ?_) | apply (zs78 ?_) | apply (zs79 ?_) | fail)
    · ((repeat apply VQ_tail); apply VQ_ret1; exact rfl; exact rfl; refine ⟨congrArg _ ?_, rfl⟩)
      (repeat (first | refine eq_ite_neg (by omega) ?_ | refine eq_ite_pos (by omega) ?_))
      rw [hi]; exact (linksE_stop n.net hlt (by assumption)).symm
    · apply hK (k + 1)
      · exact ⟨by omega, by rw [hi]; exact linksE_step n.net hlt (by assumption)⟩
      · omega
      · (repeat (first | exact sub_nil _ | (apply sub_cons; first | exact rfl | exact congrArg (fun z : Int => some (Value.int .i64 z)) (by omega))))
      · exact fun w hw => hw
  · repeat' (first | apply (zs2 ?_) | (apply (zs17 ?_ ?_) <;> intro _ <;> try (exfalso; omega)) | apply (zs65 ?_) | apply (zs68 ?_) | apply (zs69 ?_) | apply (zs70 ?_) | (apply zg27; refine zs72 ?_) | apply (zs74 ?_) | apply (zs75 ?_) | apply (zs80 ?_) | apply (zs81 ?_) | fail)
    ((repeat apply VQ_tail); apply VQ_ret1; exact rfl; exact rfl; refine ⟨congrArg _ ?_, rfl⟩)
    (repeat (first | refine eq_ite_neg (by omega) ?_ | refine eq_ite_pos (by omega) ?_))
    rw [hi, show n.links.length - k = 0 by omega]; rfl
end Go.Proofs.YtnkpfpgmbpnbgaaGreatDoor

/- Walks: looking for a link in a valid network; what is heard, and usable. -/
namespace Go.Proofs.YtnkpfpgmbpnbgaaGreatDoor
open Go.RowKit Go.Eng Go.Nw

theorem search_spec (n : NetM) (t : Lk) {B : Nat} {w0 : World} {H : List HP} {w : World} (hin : n.In B w0 H) (hok : Ok n.net) (hw : St B w0 H w) :
    Calls Tryz.prog 148 [.slice n.lA n.links.length n.lcap, lkV t, .func (.func 116) #[] #[]].toArray w (Post B w0 fun v K => ∃ k : Nat,
      v = .tuple #[.int .i64 k, .bool (decide (k < n.links.length ∧ cmpL (lnk n.net k) t = 0))] ∧ k ≤ n.links.length ∧ (∀ j, j < k → cmpL (lnk n.net j) t < 0) ∧ (∀ j, k ≤ j → j < n.links.length → 0 ≤ cmpL (lnk n.net j) t) ∧ K = H) := by
  refine Calls_of_VC Tryz.func148 Tryz.ntmps148 rfl rfl hw ?_
  obtain ⟨hpw, hrw, hlk, hmg, hs1, hs2, hs3, hs4⟩ := hin
  have hl8 : n.links.length ≤ 128 := hok.k0
  (apply VC_seq; apply VC_region; apply VL_box_agg; exact rfl; exact rfl; intro g)
  repeat' (first | apply (zs1 ?_) | apply (zs2 ?_) | (apply zg4; refine zs9 ?_) | apply (zs65 ?_) | apply (zs68 ?_) | apply (zs69 ?_) | apply (zs70 ?_) | apply (zs73 ?_) | fail)
  refine VC_loop2 (fun (lo hi : Nat) => [(9, .int .i64 lo), (10, .int .i64 hi), (8, .int .i64 n.links.length), (0, .slice n.lA n.links.length n.lcap), (2, .func (.func 116) #[] #[]), (4, .pointer (some ⟨g, 0, none⟩))]) (fun _ _ => blk g (.cells #[.int .i64 t.1, .int .i64 t.2.1, .int .i64 t.2.2] 135 (0, 0)) :: H)
    (fun lo hi => lo ≤ hi ∧ hi ≤ n.links.length ∧ (∀ j, j < lo → cmpL (lnk n.net j) t < 0) ∧ (∀ j, hi ≤ j → j < n.links.length → 0 ≤ cmpL (lnk n.net j) t)) (fun lo hi => hi - lo) 0 n.links.length ⟨by omega, by omega, fun j hj => by omega, fun j h1 h2 => by omega⟩ ?_ (fun w hw => hw) ?_
  · (repeat (first | exact sub_nil _ | (apply sub_cons; first | exact rfl | exact congrArg (fun z : Int => some (Value.int .i64 z)) (by omega))))
  rintro lo hi ⟨h1, h2, h3, h4⟩ K hK
  by_cases hlt : lo < hi
  · obtain ⟨b, hb⟩ : ∃ b, n.links[(((lo : Int) + hi) / 2).toNat]? = some b := ⟨_, List.getElem?_eq_getElem (by omega)⟩
    have hm : (((lo : Int) + hi) / 2).toNat = (lo + hi) / 2 := by omega
    have eb : lnk n.net ((lo + hi) / 2) = b := by rw [← hm]; exact lnk_get hb
    repeat' (first | ((first | apply VL_callvt (cs := []) | apply VL_callvq (cs := [])); exact rfl; exact en116; (repeat (first | exact args_nil | (apply args_cons; exact rfl))); exact rfl; exact fun _ hw => (compare_spec b t hw)) | apply (zs1 ?_) | apply (zs2 ?_) | (apply zg3; first | refine zs8 ?_ | refine zs61 ?_) | (apply zg5; refine zs57 ?_) | (apply (zs17 ?_ ?_) <;> intro _ <;> try (exfalso; omega)) | (apply zg13; refine zs30 ?_) | (apply zg18; refine zs38 ?_) | (apply zg19; first | refine zs44 ?_ | refine zs45 ?_) | apply (zs65 ?_) | apply (zs66 ?_) | apply (zs68 ?_) | apply (zs69 ?_) | apply (zs70 ?_) | (apply zg27; first | refine zs71 ?_ | refine zs72 ?_) | apply (zs73 ?_) | apply (zs76 ?_) | apply (zs79 ?_) | (apply zg28; refine zs84 ?_) | fail)
    · rename_i hc
      apply hK ((lo + hi) / 2 + 1) hi
      · refine ⟨by omega, by omega, fun j hj => ?_, h4⟩
        by_cases e : j = (lo + hi) / 2
        · rw [e, eb]; exact hc
        · have h5 := sorted hok j ((lo + hi) / 2) (by omega) (by show _ < n.links.length; omega)
          rw [eb] at h5
          rw [cmpL_neg] at *
          omega
      · omega
      · (repeat (first | exact sub_nil _ | (apply sub_cons; first | exact rfl | exact congrArg (fun z : Int => some (Value.int .i64 z)) (by omega))))
      · exact fun w hw => hw
    · rename_i hc
      apply hK lo ((lo + hi) / 2)
      · refine ⟨by omega, by omega, h3, fun j hj hjl => ?_⟩
        by_cases e : j = (lo + hi) / 2
        · rw [e, eb]; exact hc
        · have h5 := sorted hok ((lo + hi) / 2) j (by omega) hjl
          rw [eb] at h5
          have h6 : ¬ cmpL b t < 0 := by omega
          have h7 : ¬ cmpL (lnk n.net j) t < 0 := by
            rw [cmpL_neg] at *
            omega
          omega
      · omega
      · (repeat (first | exact sub_nil _ | (apply sub_cons; first | exact rfl | exact congrArg (fun z : Int => some (Value.int .i64 z)) (by omega))))
      · exact fun w hw => hw
  · obtain rfl : lo = hi := by omega
    by_cases hl : lo < n.links.length
    · obtain ⟨b, hb⟩ : ∃ b, n.links[lo]? = some b := ⟨_, List.getElem?_eq_getElem hl⟩
      have eb : lnk n.net lo = b := lnk_get hb
      repeat' (first | ((first | apply VL_callvt (cs := []) | apply VL_callvq (cs := [])); exact rfl; exact en116; (repeat (first | exact args_nil | (apply args_cons; exact rfl))); exact rfl; exact fun _ hw => (compare_spec b t hw)) | apply (zs1 ?_) | apply (zs2 ?_) | (apply zg1; refine zs4 ?_) | (apply zg3; first | refine zs8 ?_ | refine zs61 ?_) | (apply zg5; refine zs57 ?_) | (apply zg6; refine zs11 ?_) | (apply zg7; (refine zs15 ?_ ?_ <;> intro _ <;> try (exfalso; omega))) | (apply (zs17 ?_ ?_) <;> intro _ <;> try (exfalso; omega)) | apply (zs65 ?_) | apply (zs66 ?_) | apply (zs68 ?_) | apply (zs69 ?_) | apply (zs70 ?_) | (apply zg27; refine zs72 ?_) | apply (zs74 ?_) | apply (zs75 ?_) | apply (zs80 ?_) | apply (zs81 ?_) | (apply zg28; refine zs84 ?_) | fail)
      all_goals (apply VQ_tail; apply VQ_ret2; exact rfl; exact rfl; exact rfl; refine ⟨lo, ?_, h2, h3, h4, rfl⟩; rw [eb])
      · rw [decide_eq_true ⟨hl, by assumption⟩]
      · rw [decide_eq_false fun hc => absurd hc.2 (by assumption)]
    · repeat' (first | apply (zs1 ?_) | apply (zs2 ?_) | (apply zg1; refine zs3 ?_) | (apply zg6; refine zs12 ?_) | (apply (zs17 ?_ ?_) <;> intro _ <;> try (exfalso; omega)) | apply (zs65 ?_) | apply (zs66 ?_) | apply (zs68 ?_) | apply (zs69 ?_) | apply (zs70 ?_) | (apply zg27; refine zs72 ?_) | apply (zs74 ?_) | apply (zs75 ?_) | apply (zs80 ?_) | apply (zs81 ?_) | (apply zg28; refine zs84 ?_) | fail)
      apply VQ_tail; apply VQ_ret2; exact rfl; exact rfl; exact rfl
      refine ⟨lo, ?_, h2, h3, h4, rfl⟩
      rw [decide_eq_false fun hc => hl hc.1]

theorem find_spec (n : NetM) (a b : Int) {B : Nat} {w0 : World} {H : List HP} {w : World} (hin : n.In B w0 H) (hok : Ok n.net) (hw : St B w0 H w) :
    Calls Tryz.prog 119 [n.val, .int .i64 a, .int .i64 b].toArray w (Post B w0 fun v K => v = .int .i64 (findE n.net a b) ∧ K = H) := by
  refine Calls_of_VC Tryz.func119 Tryz.ntmps119 rfl rfl hw ?_
  (apply VC_seq; apply VC_region; apply VL_box_agg; exact rfl; exact rfl; intro g)
  repeat' (first | apply (zs1 ?_) | apply (zs2 ?_) | (apply zg2; refine zs6 ?_) | (apply zg3; refine zs7 ?_) | (apply zg25; refine zs55 ?_) | apply (zs65 ?_) | apply (zs68 ?_) | apply (zs69 ?_) | apply (zs70 ?_) | fail)
  apply VL_call _ en148
  (repeat (first | exact args_nil | (apply args_cons; exact rfl)))
  exact rfl
  exact fun _ hw => (search_spec n (a, b, 0) hin.cons hok (hw))
  rintro _ _ ⟨k, rfl, hk, h1, h2, rfl⟩
  have hf := find_pos hok hk h1 h2
  rw [hf]
  by_cases hc : k < n.links.length ∧ cmpL (lnk n.net k) (a, b, 0) = 0
  · rw [decide_eq_true hc]
    repeat' (first | apply (zs1 ?_) | apply (zs2 ?_) | apply (zs13 ?_) | (apply zg20; refine zs47 ?_) | apply (zs65 ?_) | apply (zs68 ?_) | apply (zs69 ?_) | apply (zs70 ?_) | (apply zg27; refine zs72 ?_) | apply (zs74 ?_) | apply (zs76 ?_) | fail)
    ((repeat apply VQ_tail); apply VQ_ret1; exact rfl; exact rfl; refine ⟨congrArg _ ?_, rfl⟩)
    exact (if_pos hc).symm
  · rw [decide_eq_false hc]
    repeat' (first | apply (zs1 ?_) | apply (zs2 ?_) | apply (zs13 ?_) | (apply zg20; refine zs48 ?_) | apply (zs65 ?_) | apply (zs68 ?_) | apply (zs69 ?_) | apply (zs70 ?_) | (apply zg27; refine zs71 ?_) | apply (zs74 ?_) | apply (zs77 ?_) | fail)
    ((repeat apply VQ_tail); apply VQ_ret1; exact rfl; exact rfl; refine ⟨congrArg _ ?_, rfl⟩)
    exact (if_neg hc).symm

def indexE (n : Net) (a b : Int) : Int := if checkE n ≠ 0 then -1 else findE n a b
theorem index_spec (n : NetM) (a b : Int) {B : Nat} {w0 : World} {H : List HP} {w : World} (hin : n.In B w0 H) (hw : St B w0 H w) :
    Calls Tryz.prog 86 [n.val, .int .i64 a, .int .i64 b].toArray w (Post B w0 fun v K => v = .int .i64 (indexE n.net a b) ∧ K = H) := by
  refine Calls_of_VC Tryz.func86 Tryz.ntmps86 rfl rfl hw ?_
  unfold indexE
  repeat' (first | ((first | apply VL_callt en38 | apply VL_callq en38); (repeat (first | exact args_nil | (apply args_cons; exact rfl))); exact rfl; exact fun _ hw => (check_spec n hin.cons hw)) | ((first | apply VL_callt en119 | apply VL_callq en119); (repeat (first | exact args_nil | (apply args_cons; exact rfl))); exact rfl; exact fun _ hw => (find_spec n _ _ hin.cons (check_ok (by assumption)) hw)) | apply (zs1 ?_) | apply (zs2 ?_) | (apply zg3; refine zs8 ?_) | (apply zg8; (refine zs16 ?_ ?_ <;> intro _ <;> try (exfalso; omega))) | (apply zg23; (refine zs52 ?_; intro _)) | apply (zs65 ?_) | apply (zs68 ?_) | apply (zs69 ?_) | apply (zs70 ?_) | (apply zg27; first | refine zs71 ?_ | refine zs72 ?_) | apply (zs74 ?_) | apply (zs76 ?_) | apply (zs77 ?_) | fail)
  all_goals (((repeat apply VQ_tail); apply VQ_ret1; exact rfl; exact rfl; refine ⟨congrArg _ ?_, rfl⟩); (repeat (first | refine eq_ite_neg (by omega) ?_ | refine eq_ite_pos (by omega) ?_)); rfl)

theorem hears_spec (n : NetM) (s d : Int) {B : Nat} {w0 : World} {H : List HP} {w : World} (hok : Ok n.net) (hs : 0 ≤ s ∧ s ≤ 8796093022208) (hd : 0 ≤ d ∧ d ≤ 8796093022208) (hw : St B w0 H w) :
    Calls Tryz.prog 121 [n.val, .int .i64 s, .int .i64 d].toArray w (Post B w0 fun v K => v = .bool (heardE n.net s d) ∧ K = H) := by
  refine Calls_of_VC Tryz.func121 Tryz.ntmps121 rfl rfl hw ?_
  have hb : -9223372036854775808 ≤ n.thr * (n.noise + d) ∧ n.thr * (n.noise + d) ≤ 9223372036854775807 := hear_bd hok hd.1 hd.2
  have hz0 : 0 ≤ n.noise := hok.z0
  have hz1 : n.noise ≤ 68719476736 := hok.z1
  unfold heardE
  show VC Tryz.prog _ B w0 _ (bodyPost Tryz.prog _ (Post B w0 fun v K => v = .bool (decide (n.thr * (n.noise + d) ≤ s * 1000)) ∧ K = H)) _ _
  repeat' (first | apply (zs1 ?_) | apply (zs2 ?_) | (apply zg2; refine zs6 ?_) | (apply zg3; refine zs7 ?_) | (apply (zs20 ?_ ?_) <;> intro _ <;> try (exfalso; omega)) | (apply zg13; refine zs30 ?_) | (apply zg15; refine zs32 ?_) | (apply zg23; (refine zs52 ?_; intro _)) | apply (zs65 ?_) | apply (zs68 ?_) | apply (zs69 ?_) | apply (zs70 ?_) | apply (zs74 ?_) | fail)
  · (repeat apply VQ_tail); apply VQ_ret1; exact rfl; exact rfl
    exact ⟨by rw [decide_eq_true (by assumption)], rfl⟩
  · (repeat apply VQ_tail); apply VQ_ret1; exact rfl; exact rfl
    exact ⟨by rw [decide_eq_false (by omega)], rfl⟩

def hearsE (n : Net) (s d : Int) : Bool := decide (checkE n = 0) && (decide (0 ≤ s ∧ 0 ≤ d ∧ s ≤ 8796093022208 ∧ d ≤ 8796093022208) && heardE n s d)
theorem Hears_spec (n : NetM) (s d : Int) {B : Nat} {w0 : World} {H : List HP} {w : World} (hin : n.In B w0 H) (hw : St B w0 H w) :
    Calls Tryz.prog 88 [n.val, .int .i64 s, .int .i64 d].toArray w (Post B w0 fun v K => v = .bool (hearsE n.net s d) ∧ K = H) := by
  refine Calls_of_VC Tryz.func88 Tryz.ntmps88 rfl rfl hw ?_
  unfold hearsE
  by_cases h0 : checkE n.net = 0
  rotate_left
  · rw [decide_eq_false h0]
    repeat' (first | ((first | apply VL_callt en38 | apply VL_callq en38); (repeat (first | exact args_nil | (apply args_cons; exact rfl))); exact rfl; exact fun _ hw => (check_spec n hin.cons hw)) | apply (zs1 ?_) | apply (zs2 ?_) | (apply zg1; refine zs3 ?_) | (apply zg3; refine zs8 ?_) | (apply zg6; refine zs11 ?_) | (apply zg8; (refine zs16 ?_ ?_ <;> intro _ <;> try (exfalso; omega))) | (apply zg23; (refine zs52 ?_; intro _)) | apply (zs65 ?_) | apply (zs68 ?_) | apply (zs69 ?_) | apply (zs70 ?_) | (apply zg27; refine zs71 ?_) | apply (zs74 ?_) | apply (zs77 ?_) | fail)
    (repeat apply VQ_tail); apply VQ_ret1; exact rfl; exact rfl
    exact ⟨rfl, rfl⟩
  rw [decide_eq_true h0]
  by_cases h1 : 0 ≤ s ∧ 0 ≤ d ∧ s ≤ 8796093022208 ∧ d ≤ 8796093022208
  rotate_left
  · rw [decide_eq_false h1]
    repeat' (first | ((first | apply VL_callt en38 | apply VL_callq en38); (repeat (first | exact args_nil | (apply args_cons; exact rfl))); exact rfl; exact fun _ hw => (check_spec n hin.cons hw)) | apply (zs1 ?_) | apply (zs2 ?_) | (apply zg1; first | refine zs3 ?_ | refine zs4 ?_) | (apply zg3; refine zs8 ?_) | (apply zg6; first | refine zs11 ?_ | refine zs12 ?_) | (apply zg8; (refine zs16 ?_ ?_ <;> intro _ <;> try (exfalso; omega))) | (apply (zs17 ?_ ?_) <;> intro _ <;> try (exfalso; omega)) | (apply (zs19 ?_ ?_) <;> intro _ <;> try (exfalso; omega)) | (apply (zs25 ?_ ?_) <;> intro _ <;> try (exfalso; omega)) | (apply zg23; (refine zs52 ?_; intro _)) | (apply (zs62 ?_ ?_) <;> intro _ <;> try (exfalso; omega)) | apply (zs65 ?_) | apply (zs68 ?_) | apply (zs69 ?_) | apply (zs70 ?_) | (apply zg27; refine zs71 ?_) | apply (zs74 ?_) | apply (zs77 ?_) | fail)
    all_goals ((repeat apply VQ_tail); apply VQ_ret1; exact rfl; exact rfl; exact ⟨rfl, rfl⟩)
  rw [decide_eq_true h1]
  repeat' (first | ((first | apply VL_callt en38 | apply VL_callq en38); (repeat (first | exact args_nil | (apply args_cons; exact rfl))); exact rfl; exact fun _ hw => (check_spec n hin.cons hw)) | ((first | apply VL_callt en121 | apply VL_callq en121); (repeat (first | exact args_nil | (apply args_cons; exact rfl))); exact rfl; exact fun _ hw => (hears_spec n _ _ (check_ok h0) (by omega) (by omega) hw)) | apply (zs1 ?_) | apply (zs2 ?_) | (apply zg1; refine zs4 ?_) | (apply zg3; refine zs8 ?_) | (apply zg6; refine zs12 ?_) | (apply zg8; (refine zs16 ?_ ?_ <;> intro _ <;> try (exfalso; omega))) | (apply (zs17 ?_ ?_) <;> intro _ <;> try (exfalso; omega)) | (apply (zs19 ?_ ?_) <;> intro _ <;> try (exfalso; omega)) | (apply (zs25 ?_ ?_) <;> intro _ <;> try (exfalso; omega)) | (apply zg23; (refine zs52 ?_; intro _)) | (apply (zs62 ?_ ?_) <;> intro _ <;> try (exfalso; omega)) | apply (zs65 ?_) | apply (zs68 ?_) | apply (zs69 ?_) | apply (zs70 ?_) | (apply zg27; refine zs72 ?_) | apply (zs74 ?_) | apply (zs76 ?_) | fail)
  all_goals ((repeat apply VQ_tail); apply VQ_ret1; exact rfl; exact rfl; exact ⟨rfl, rfl⟩)

theorem usable_spec (n : NetM) (i : Nat) {B : Nat} {w0 : World} {H : List HP} {w : World} (hin : n.In B w0 H) (hok : Ok n.net) (hi : i < n.links.length) (hw : St B w0 H w) :
    Calls Tryz.prog 118 [n.val, .int .i64 i].toArray w (Post B w0 fun v K => v = .bool (usableE n.net i) ∧ K = H) := by
  refine Calls_of_VC Tryz.func118 Tryz.ntmps118 rfl rfl hw ?_
  obtain ⟨hpw, hrw, hlk, hmg, hs1, hs2, hs3, hs4⟩ := id hin
  have hml : n.margin.length = n.links.length := hok.k1
  obtain ⟨l, hl⟩ : ∃ l, n.links[i]? = some l := ⟨_, List.getElem?_eq_getElem hi⟩
  obtain ⟨z, hz⟩ : ∃ z, n.margin[i]? = some z := ⟨_, List.getElem?_eq_getElem (by omega)⟩
  have e1 : lnk n.net i = l := lnk_get hl
  have e2 : mar n.net i = z := mar_get hz
  have hzb := mar_bd hok hi
  unfold usableE
  rw [e2] at hzb
  rw [e1, e2]
  by_cases hb : 0 ≤ findE n.net l.2.1 l.1
  · have hlt : (findE n.net l.2.1 l.1).toNat < n.links.length := find_lt hb
    obtain ⟨y, hy⟩ : ∃ y, n.margin[(findE n.net l.2.1 l.1).toNat]? = some y := ⟨_, List.getElem?_eq_getElem (by omega)⟩
    have e3 : mar n.net (findE n.net l.2.1 l.1).toNat = y := mar_get hy
    have hyb := mar_bd hok hlt
    rw [e3] at hyb
    rw [e3, decide_eq_true hb]
    repeat' (first | ((first | apply VL_callt en119 | apply VL_callq en119); (repeat (first | exact args_nil | (apply args_cons; exact rfl))); exact rfl; exact fun _ hw => (find_spec n _ _ hin.cons hok hw)) | ((first | apply VL_calltb en121 | apply VL_callqb en121); (repeat (first | exact args_nil | (apply args_cons; exact rfl))); exact rfl; exact fun _ hw => (hears_spec n _ _ hok (by omega) (by omega) hw); all_goals (intro hB; (try simp only [decide_eq_true_eq, decide_eq_false_iff_not] at hB); try (exfalso; omega))) | apply (zs1 ?_) | apply (zs2 ?_) | (apply zg1; first | refine zs3 ?_ | refine zs4 ?_) | (apply zg2; first | refine zs6 ?_ | refine zs58 ?_) | (apply zg3; first | refine zs7 ?_ | refine zs8 ?_ | refine zs59 ?_ | refine zs60 ?_) | (apply zg5; refine zs57 ?_) | (apply zg6; first | refine zs11 ?_ | refine zs12 ?_) | (apply (zs20 ?_ ?_) <;> intro _ <;> try (exfalso; omega)) | (apply zg23; (refine zs52 ?_; intro _)) | apply (zs65 ?_) | apply (zs66 ?_) | apply (zs68 ?_) | apply (zs69 ?_) | apply (zs70 ?_) | apply (zs74 ?_) | (apply zg28; refine zs84 ?_) | fail)
    all_goals ((repeat apply VQ_tail); apply VQ_ret1; exact rfl; exact rfl; refine ⟨?_, rfl⟩; simp_all)
  · rw [decide_eq_false hb]
    repeat' (first | ((first | apply VL_callt en119 | apply VL_callq en119); (repeat (first | exact args_nil | (apply args_cons; exact rfl))); exact rfl; exact fun _ hw => (find_spec n _ _ hin.cons hok hw)) | apply (zs1 ?_) | apply (zs2 ?_) | (apply zg1; refine zs3 ?_) | (apply zg2; first | refine zs6 ?_ | refine zs58 ?_) | (apply zg3; first | refine zs7 ?_ | refine zs8 ?_ | refine zs59 ?_) | (apply zg5; refine zs57 ?_) | (apply zg6; refine zs12 ?_) | (apply (zs20 ?_ ?_) <;> intro _ <;> try (exfalso; omega)) | (apply zg23; (refine zs52 ?_; intro _)) | apply (zs65 ?_) | apply (zs66 ?_) | apply (zs68 ?_) | apply (zs69 ?_) | apply (zs70 ?_) | apply (zs74 ?_) | (apply zg28; refine zs84 ?_) | fail)
    all_goals ((repeat apply VQ_tail); apply VQ_ret1; exact rfl; exact rfl; exact ⟨rfl, rfl⟩)

def UsableE (n : Net) (i : Int) : Bool := decide (checkE n = 0) && (decide (0 ≤ i ∧ i < n.links.length) && usableE n i.toNat)
theorem Usable_spec (n : NetM) (i : Int) {B : Nat} {w0 : World} {H : List HP} {w : World} (hin : n.In B w0 H) (hw : St B w0 H w) :
    Calls Tryz.prog 85 [n.val, .int .i64 i].toArray w (Post B w0 fun v K => v = .bool (UsableE n.net i) ∧ K = H) := by
  refine Calls_of_VC Tryz.func85 Tryz.ntmps85 rfl rfl hw ?_
  have hs3 := hin.s3
  have e7 : n.net.links = n.links := rfl
  unfold UsableE
  rw [e7]
  by_cases h0 : checkE n.net = 0
  rotate_left
  · rw [decide_eq_false h0]
    repeat' (first | ((first | apply VL_callt en38 | apply VL_callq en38); (repeat (first | exact args_nil | (apply args_cons; exact rfl))); exact rfl; exact fun _ hw => (check_spec n hin.cons hw)) | apply (zs1 ?_) | apply (zs2 ?_) | (apply zg1; refine zs3 ?_) | (apply zg3; refine zs8 ?_) | (apply zg6; refine zs12 ?_) | (apply zg7; (refine zs15 ?_ ?_ <;> intro _ <;> try (exfalso; omega))) | (apply zg23; (refine zs52 ?_; intro _)) | apply (zs65 ?_) | apply (zs68 ?_) | apply (zs69 ?_) | apply (zs70 ?_) | apply (zs74 ?_) | fail)
    all_goals ((repeat apply VQ_tail); apply VQ_ret1; exact rfl; exact rfl; exact ⟨rfl, rfl⟩)
  rw [decide_eq_true h0]
  by_cases h1 : 0 ≤ i ∧ i < n.links.length
  rotate_left
  · rw [decide_eq_false h1]
    repeat' (first | ((first | apply VL_callt en38 | apply VL_callq en38); (repeat (first | exact args_nil | (apply args_cons; exact rfl))); exact rfl; exact fun _ hw => (check_spec n hin.cons hw)) | apply (zs1 ?_) | apply (zs2 ?_) | (apply zg1; first | refine zs3 ?_ | refine zs4 ?_) | (apply zg2; refine zs6 ?_) | (apply zg3; first | refine zs7 ?_ | refine zs8 ?_) | (apply zg4; refine zs9 ?_) | (apply zg6; first | refine zs11 ?_ | refine zs12 ?_) | (apply zg7; (refine zs15 ?_ ?_ <;> intro _ <;> try (exfalso; omega))) | (apply (zs17 ?_ ?_) <;> intro _ <;> try (exfalso; omega)) | (apply (zs20 ?_ ?_) <;> intro _ <;> try (exfalso; omega)) | (apply zg23; (refine zs52 ?_; intro _)) | apply (zs65 ?_) | apply (zs68 ?_) | apply (zs69 ?_) | apply (zs70 ?_) | apply (zs74 ?_) | fail)
    all_goals ((repeat apply VQ_tail); apply VQ_ret1; exact rfl; exact rfl; exact ⟨rfl, rfl⟩)
  rw [decide_eq_true h1]
  obtain ⟨k, rfl⟩ : ∃ k : Nat, i = k := ⟨i.toNat, by omega⟩
  repeat' (first | ((first | apply VL_callt en38 | apply VL_callq en38); (repeat (first | exact args_nil | (apply args_cons; exact rfl))); exact rfl; exact fun _ hw => (check_spec n hin.cons hw)) | ((first | apply VL_callt en118 | apply VL_callq en118); (repeat (first | exact args_nil | (apply args_cons; exact rfl))); exact rfl; exact fun _ hw => (usable_spec n _ hin.cons (check_ok h0) (by omega) hw)) | apply (zs1 ?_) | apply (zs2 ?_) | (apply zg1; refine zs4 ?_) | (apply zg2; refine zs6 ?_) | (apply zg3; first | refine zs7 ?_ | refine zs8 ?_) | (apply zg4; refine zs9 ?_) | (apply zg6; refine zs11 ?_) | (apply zg7; (refine zs15 ?_ ?_ <;> intro _ <;> try (exfalso; omega))) | (apply (zs17 ?_ ?_) <;> intro _ <;> try (exfalso; omega)) | (apply (zs20 ?_ ?_) <;> intro _ <;> try (exfalso; omega)) | (apply zg23; (refine zs52 ?_; intro _)) | apply (zs65 ?_) | apply (zs68 ?_) | apply (zs69 ?_) | apply (zs70 ?_) | apply (zs74 ?_) | fail)
  all_goals ((repeat apply VQ_tail); apply VQ_ret1; exact rfl; exact rfl; exact ⟨rfl, rfl⟩)
end Go.Proofs.YtnkpfpgmbpnbgaaGreatDoor

/- Walks: the reference's Heard, Hears, Good, Usable. -/
namespace Go.Proofs.YtnkpfpgmbpnbgaaGreatDoor
open Go.RowKit Go.Eng Go.Nw

def goodE (n : Net) (a b : Int) : Bool := decide (0 ≤ findE n a b) && (decide (0 ≤ findE n b a) && (heardE n (mar n (findE n a b).toNat) 0 && heardE n (mar n (findE n b a).toNat) 0))
theorem find_self {n : Net} (h : Ok n) {i : Nat} (hi : i < n.links.length) : findE n (lnk n i).1 (lnk n i).2.1 = i := by
  have h1 : ∀ j, j < i → cmpL (lnk n j) ((lnk n i).1, (lnk n i).2.1, (lnk n i).2.2) < 0 := fun j hj => sorted h j i hj hi
  have h2 : ∀ j, i ≤ j → j < n.links.length → 0 ≤ cmpL (lnk n j) ((lnk n i).1, (lnk n i).2.1, (lnk n i).2.2) := fun j hj hl => by
    by_cases e : i = j
    · subst e
      have : cmpL (lnk n i) ((lnk n i).1, (lnk n i).2.1, (lnk n i).2.2) = 0 := cmpL_zero.2 ⟨rfl, rfl⟩
      omega
    · have h3 := sorted h i j (by omega) hl
      have h4 : ¬ cmpL (lnk n j) ((lnk n i).1, (lnk n i).2.1, (lnk n i).2.2) < 0 := by
        rw [cmpL_neg] at *
        simp only
        omega
      omega
  rw [find_pos h (Nat.le_of_lt hi) h1 h2, if_pos ⟨hi, cmpL_zero.2 ⟨rfl, rfl⟩⟩]
theorem usable_good {n : Net} (h : Ok n) {i : Nat} (hi : i < n.links.length) : usableE n i = goodE n (lnk n i).1 (lnk n i).2.1 := by
  unfold usableE goodE
  rw [find_self h hi]
  simp

end Go.Proofs.YtnkpfpgmbpnbgaaGreatDoor

/- Networks of chapter 31, plain: which nodes can be reached. -/
namespace Go.Nw

theorem nodup_len : ∀ (N : Nat) (l : List Int), l.Nodup → (∀ x ∈ l, 0 ≤ x ∧ x < N) → l.length ≤ N
  | 0, l, _, h => by
    cases l with
    | nil => simp
    | cons a l => have := h a List.mem_cons_self; omega
  | N + 1, l, hn, h => by
    have h1 := nodup_len N (l.erase (N : Int)) (hn.erase _) (fun x hx => by
      have h2 := h x (List.mem_of_mem_erase hx)
      have h3 : x ≠ (N : Int) := fun e => by subst e; exact (List.Nodup.not_mem_erase hn) hx
      omega)
    have h4 : l.length - 1 ≤ (l.erase (N : Int)).length := by rw [List.length_erase]; split <;> omega
    omega

end Go.Nw

/- Schedules, plain: the first fault of a schedule, as the program and as the reference find it. -/
namespace Go.Proofs.YtnkpfpgmbpnbgaaGreatDoor
open Go.RowKit Go.Eng Go.Nw

def fromC (c : Cel) : Int := c.2.2.1
def toC (c : Cel) : Int := c.2.2.2.1
def flowC (c : Cel) : Int := c.2.2.2.2
def touchE (a b : Cel) : Bool := decide (fromC a = fromC b ∨ fromC a = toC b ∨ toC a = fromC b ∨ toC a = toC b)
theorem touch_comm (a b : Cel) : touchE a b = touchE b a := by
  unfold touchE
  rw [decide_eq_decide]
  omega
def cellF (n : Net) (l : List Flw) (s : Sch) (i : Nat) : Int :=
  if placedE s (celAt s i) = false then 2
  else if goodE n (fromC (celAt s i)) (toC (celAt s i)) = false ∨ findF l (flowC (celAt s i)) < 0 then 7
  else if 0 < i ∧ celLt (celAt s (i - 1)) (celAt s i) = false then 5 else 0
def twiceB (s : Sch) (i : Nat) : Bool := (List.range i).any fun k => decide ((celAt s k).1 = (celAt s i).1) && touchE (celAt s i) (celAt s k)
def placeB (c d : Cel) : Bool := decide (d.1 = c.1 ∧ d.2.1 = c.2.1)
def shareE (s : Sch) (i : Nat) : List Cel := s.cells.filter (placeB (celAt s i))
def shareAt (s : Sch) (i : Nat) : Nat := ((s.cells.take i).filter (placeB (celAt s i))).length
def celL (l : List Cel) (i : Nat) : Cel := l.getD i (0, 0, 0, 0, 0)
def powN (n : Net) (a b : Int) : Int := if insE a n.nodes = true ∧ insE b n.nodes = true then powr n a b else 0
def distTo (n : Net) (l : List Cel) (j : Nat) (node : Int) : Nat → Int
  | 0 => 0
  | k + 1 => distTo n l j node k + if k = j then 0 else powN n (fromC (celL l k)) node + powN n (toC (celL l k)) node
def noNode (n : Net) (c : Cel) : Bool := !(insE (fromC c) n.nodes) || !(insE (toC c) n.nodes)
def distE (n : Net) (l : List Cel) (i node : Int) : Int :=
  if checkE n ≠ 0 ∨ i < 0 ∨ l.length ≤ i ∨ insE node n.nodes = false ∨ l.any (noNode n) = true then 0 else distTo n l i.toNat node l.length
def disturbB (n : Net) (s : Sch) (i : Nat) : Bool :=
  !(hearsE n (mar n (findE n (fromC (celAt s i)) (toC (celAt s i))).toNat) (distE n (shareE s i) (shareAt s i) (toC (celAt s i)))) || !(hearsE n (mar n (findE n (toC (celAt s i)) (fromC (celAt s i))).toNat) (distE n (shareE s i) (shareAt s i) (fromC (celAt s i))))
def wholeE (n : Net) (l : List Flw) (s : Sch) : Int :=
  if checkE n ≠ 0 then 1 else if (flowsE n.nodes l).2 ≠ 0 then 1 else if sizedE s = false then 2
  else if (l.any fun f => decide (s.len.tmod f.2.2.2.1 ≠ 0)) = true then 11 else if 512 < s.cells.length then 8 else 0
def cellsF (n : Net) (l : List Flw) (s : Sch) : Int × Int := firstF (cellF n l s) s.cells.length 0
def twiceF (s : Sch) : Int × Int := firstF (fun i => if twiceB s i = true then 6 else 0) s.cells.length 0
def distF (n : Net) (s : Sch) : Int × Int := firstF (fun i => if disturbB n s i = true then 16 else 0) s.cells.length 0
/-- What Check returns. -/
def schE (n : Net) (l : List Flw) (s : Sch) : Int × Int :=
  if wholeE n l s ≠ 0 then (-1, wholeE n l s) else if (cellsF n l s).2 ≠ 0 then cellsF n l s else if (twiceF s).2 ≠ 0 then twiceF s else distF n s

/-- What the reference's Fault says of cells. -/
def rfaultB (n : Net) (l : List Cel) (i : Nat) : Bool :=
  !(goodE n (fromC (celL l i)) (toC (celL l i))) || ((List.range l.length).any fun k => decide (k ≠ i) && touchE (celL l i) (celL l k))
    || (!(heardE n (mar n (findE n (fromC (celL l i)) (toC (celL l i))).toNat) (distTo n l i (toC (celL l i)) l.length)) || !(heardE n (mar n (findE n (toC (celL l i)) (fromC (celL l i))).toNat) (distTo n l i (fromC (celL l i)) l.length)))
theorem good_nodes {n : Net} (h : Ok n) {u v : Int} (hg : goodE n u v = true) : (0 ≤ u ∧ u < n.nodes) ∧ (0 ≤ v ∧ v < n.nodes) ∧ u ≠ v ∧ 0 ≤ findE n u v ∧ 0 ≤ findE n v u := by
  unfold goodE at hg
  simp only [Bool.and_eq_true, decide_eq_true_eq] at hg
  obtain ⟨h1, h2, _⟩ := hg
  obtain ⟨k1, k2⟩ := find_key h1
  have := h.lk _ (find_lt h1)
  have a1 := this.f0; have a2 := this.f1; have a3 := this.t0; have a4 := this.t1; have a5 := this.ne
  rw [k1] at a1 a2 a5
  rw [k2] at a3 a4 a5
  exact ⟨⟨a1, a2⟩, ⟨a3, a4⟩, a5, h1, h2⟩
theorem use_good {n : Net} (h : checkE n = 0) (a b : Int) : UsableE n (indexE n a b) = goodE n a b := by
  have hok := check_ok h
  unfold UsableE indexE
  rw [if_neg (by omega), decide_eq_true h, Bool.true_and]
  by_cases h0 : 0 ≤ findE n a b
  · have hl := find_lt h0
    rw [usable_good hok hl, (find_key h0).1, (find_key h0).2, decide_eq_true (by omega), Bool.true_and]
  · rw [decide_eq_false (by omega), Bool.false_and]
    unfold goodE
    rw [decide_eq_false h0, Bool.false_and]

theorem share_at {s : Sch} {i : Nat} (h : i < s.cells.length) : (shareE s i)[shareAt s i]? = some (celAt s i) := by
  have h1 := celAt_some h
  obtain ⟨h2, h3⟩ := List.getElem?_eq_some_iff.1 h1
  have hsp : s.cells = s.cells.take i ++ celAt s i :: s.cells.drop (i + 1) := by
    rw [← h3, List.getElem_cons_drop, List.take_append_drop]
  unfold shareE shareAt
  have hp : placeB (celAt s i) (celAt s i) = true := by unfold placeB; simp
  have hf : s.cells.filter (placeB (celAt s i)) = (s.cells.take i).filter (placeB (celAt s i)) ++ celAt s i :: (s.cells.drop (i + 1)).filter (placeB (celAt s i)) := by
    conv => lhs; rw [hsp]
    rw [List.filter_append, List.filter_cons, if_pos hp]
  rw [hf, List.getElem?_append_right (Nat.le_refl _), Nat.sub_self]
  rfl

/-- All cells are good, and no node is twice in a slot. -/
structure Fine (n : Net) (s : Sch) : Prop where
  good : ∀ c ∈ s.cells, goodE n (fromC c) (toC c) = true
  once : s.cells.Pairwise fun a b => a.1 = b.1 → touchE a b = false
theorem fine_of {n : Net} {l : List Flw} {s : Sch} (h1 : (cellsF n l s).2 = 0) (h2 : (twiceF s).2 = 0) : Fine n s := by
  have k1 := firstF_ok.1 h1
  have k2 := firstF_ok.1 h2
  constructor
  · intro c hc
    obtain ⟨i, hi⟩ := List.mem_iff_getElem?.1 hc
    have hl := (List.getElem?_eq_some_iff.1 hi).1
    have := k1 i (Nat.zero_le _) (by omega)
    unfold cellF at this
    rw [celAt_get hi] at this
    cases hg : goodE n (fromC c) (toC c) with
    | true => rfl
    | false =>
      rw [hg] at this
      split at this
      · omega
      · rw [if_pos (.inl rfl)] at this; omega
  · refine List.pairwise_iff_getElem.2 fun i j hi hj hij hs => ?_
    have := k2 j (Nat.zero_le _) (by omega)
    have e1 : celAt s i = s.cells[i] := celAt_get (List.getElem?_eq_getElem hi)
    have e2 : celAt s j = s.cells[j] := celAt_get (List.getElem?_eq_getElem hj)
    cases ht : touchE s.cells[i] s.cells[j] with
    | false => rfl
    | true =>
      have hb : twiceB s j = true := by
        unfold twiceB
        rw [List.any_eq_true]
        refine ⟨i, List.mem_range.2 hij, ?_⟩
        rw [e1, e2, decide_eq_true hs, Bool.true_and, touch_comm]
        exact ht
      simp only [hb, if_true] at this
      omega

theorem pow_bd {n : Net} (h : Ok n) {a b : Int} (ha : 0 ≤ a ∧ a < n.nodes) (hb : 0 ≤ b ∧ b < n.nodes) : 0 ≤ powr n a b ∧ powr n a b ≤ 68719476736 := by
  have hp := h.p0
  obtain ⟨r, hr⟩ : ∃ r, n.power[a.toNat]? = some r := ⟨_, List.getElem?_eq_getElem (by omega)⟩
  have hrm := List.mem_of_getElem? hr
  have hl := h.p1 r hrm
  obtain ⟨p, hpe⟩ : ∃ p, r[b.toNat]? = some p := ⟨_, List.getElem?_eq_getElem (by omega)⟩
  have := h.p2 r hrm p (List.mem_of_getElem? hpe)
  have e1 : n.power.getD a.toNat [] = r := by rw [List.getD_eq_getElem?_getD, hr]; rfl
  have e2 : r.getD b.toNat 0 = p := by rw [List.getD_eq_getElem?_getD, hpe]; rfl
  unfold powr
  rw [e1, e2]
  exact this
theorem powN_bd {n : Net} (h : Ok n) (a b : Int) : 0 ≤ powN n a b ∧ powN n a b ≤ 68719476736 := by
  unfold powN
  split
  · rename_i hc
    unfold insE at hc
    simp only [decide_eq_true_eq] at hc
    exact pow_bd h hc.1 hc.2
  · omega
theorem dist_bd {n : Net} (h : Ok n) (l : List Cel) (j : Nat) (node : Int) : ∀ k : Nat, 0 ≤ distTo n l j node k ∧ distTo n l j node k ≤ (k : Int) * 137438953472
  | 0 => by simp [distTo]
  | k + 1 => by
    have h1 := dist_bd h l j node k
    have h2 := powN_bd h (fromC (celL l k)) node
    have h3 := powN_bd h (toC (celL l k)) node
    unfold distTo
    split <;> omega
theorem share_len {n : Net} (h : Ok n) {s : Sch} (hf : Fine n s) (i : Nat) : (shareE s i).length ≤ 16 := by
  have hsub : (shareE s i).Sublist s.cells := List.filter_sublist
  have hpw : (shareE s i).Pairwise fun a b => touchE a b = false := by
    refine (hf.once.sublist hsub).imp_of_mem fun {a b} ha hb hab => hab ?_
    have h1 := (List.mem_filter.1 ha).2
    have h2 := (List.mem_filter.1 hb).2
    unfold placeB at h1 h2
    simp only [decide_eq_true_eq] at h1 h2
    rw [h1.1, h2.1]
  have hnd : ((shareE s i).flatMap fun c => [fromC c, toC c]).Nodup := by
    refine List.pairwise_flatMap.2 ⟨fun c hc => ?_, hpw.imp fun {a b} hab x hx y hy => ?_⟩
    · have := good_nodes h (hf.good c (hsub.subset hc))
      simp [this.2.2.1]
    · unfold touchE at hab
      have hab := of_decide_eq_false hab
      simp only [List.mem_cons, List.not_mem_nil, or_false] at hx hy
      omega
  have hlen := Go.Nw.nodup_len n.nodes.toNat _ hnd (fun x hx => by
    obtain ⟨c, hc, hx⟩ := List.mem_flatMap.1 hx
    have := good_nodes h (hf.good c (hsub.subset hc))
    have := h.n0
    simp only [List.mem_cons, List.not_mem_nil, or_false] at hx
    omega)
  have h2 : ((shareE s i).flatMap fun c => [fromC c, toC c]).length = (shareE s i).length * 2 := by
    induction shareE s i with
    | nil => rfl
    | cons c l ih => rw [List.flatMap_cons, List.length_append, ih]; simp only [List.length_cons, List.length_nil]; omega
  have := h.n1
  omega

theorem dist_ref {n : Net} (hck : checkE n = 0) {s : Sch} (hf : Fine n s) {i : Nat} (hi : i < s.cells.length) : disturbB n s i = rfaultB n (shareE s i) (shareAt s i) := by
  have hok := check_ok hck
  have hat := share_at hi
  have hlt := (List.getElem?_eq_some_iff.1 hat).1
  have hc : celL (shareE s i) (shareAt s i) = celAt s i := by unfold celL; rw [List.getD_eq_getElem?_getD, hat]; rfl
  have hsub : (shareE s i).Sublist s.cells := List.filter_sublist
  have hg := hf.good _ (celAt_mem hi)
  have hgn := good_nodes hok hg
  have hle := share_len hok hf i
  have hpw : (shareE s i).Pairwise fun a b => touchE a b = false := by
    refine (hf.once.sublist hsub).imp_of_mem fun {a b} ha hb hab => hab ?_
    have h1 := (List.mem_filter.1 ha).2
    have h2 := (List.mem_filter.1 hb).2
    unfold placeB at h1 h2
    simp only [decide_eq_true_eq] at h1 h2
    rw [h1.1, h2.1]
  have hto : ((List.range (shareE s i).length).any fun k => decide (k ≠ shareAt s i) && touchE (celL (shareE s i) (shareAt s i)) (celL (shareE s i) k)) = false := by
    rw [List.any_eq_false]
    intro k hk
    have hk := List.mem_range.1 hk
    by_cases e : k = shareAt s i
    · rw [decide_eq_false (fun h => h e)]; simp
    · have hpk := List.pairwise_iff_getElem.1 hpw
      have e1 : celL (shareE s i) k = (shareE s i)[k] := by unfold celL; rw [List.getD_eq_getElem?_getD, List.getElem?_eq_getElem hk]; rfl
      have e2 : celL (shareE s i) (shareAt s i) = (shareE s i)[shareAt s i] := by unfold celL; rw [List.getD_eq_getElem?_getD, List.getElem?_eq_getElem hlt]; rfl
      rw [decide_eq_true e, Bool.true_and, e1, e2]
      rcases Nat.lt_or_gt_of_ne e with h | h
      · rw [touch_comm, hpk k _ hk hlt h]; simp
      · rw [hpk _ k hlt hk h]; simp
  have hno : (shareE s i).any (noNode n) = false := by
    rw [List.any_eq_false]
    intro c hcm
    have := good_nodes hok (hf.good c (hsub.subset hcm))
    unfold noNode insE
    rw [decide_eq_true this.1, decide_eq_true this.2.1]
    simp
  have hde : ∀ node, 0 ≤ node → node < n.nodes → distE n (shareE s i) (shareAt s i) node = distTo n (shareE s i) (shareAt s i) node (shareE s i).length := fun node h0 h1 => by
    unfold distE
    rw [if_neg]
    · rfl
    · rintro (h | h | h | h | h)
      · exact h hck
      · omega
      · omega
      · unfold insE at h
        have := of_decide_eq_false h
        omega
      · rw [hno] at h; cases h
  have hhe : ∀ (a b node : Int), 0 ≤ findE n a b → hearsE n (mar n (findE n a b).toNat) (distTo n (shareE s i) (shareAt s i) node (shareE s i).length) = heardE n (mar n (findE n a b).toNat) (distTo n (shareE s i) (shareAt s i) node (shareE s i).length) := fun a b node h0 => by
    have h1 := mar_bd hok (find_lt h0)
    have h2 := dist_bd hok (shareE s i) (shareAt s i) node (shareE s i).length
    unfold hearsE
    rw [decide_eq_true hck, decide_eq_true (by omega)]
    rfl
  unfold disturbB rfaultB
  rw [hc] at hto ⊢
  rw [hto, hg, hde _ hgn.2.1.1 hgn.2.1.2, hde _ hgn.1.1 hgn.1.2, hhe _ _ _ hgn.2.2.2.1, hhe _ _ _ hgn.2.2.2.2]
  rfl

end Go.Proofs.YtnkpfpgmbpnbgaaGreatDoor

/- Schedules, plain: the place of a cell; a further cell, one less, what differs, and a schedule several times. -/
namespace Go.Proofs.YtnkpfpgmbpnbgaaGreatDoor
open Go.RowKit Go.Eng Go.Nw

abbrev Ord (l : List Cel) : Prop := l.Pairwise fun a b => celLt a b = true
def zeroS : Sch := ⟨0, 0, []⟩
def atE (s : Sch) (slot : Int) : List Cel := if formE s = false ∨ slot < 0 then [] else s.cells.filter fun c => decide (c.1 = slot.tmod s.len)
def movC (d : Int) (c : Cel) : Cel := (c.1 + d, c.2)
def repC (s : Sch) (k : Nat) : List Cel := (List.range k).flatMap fun i : Nat => s.cells.map (movC ((i : Int) * s.len))
def repE (s : Sch) (times : Int) : Sch × Int :=
  if formE s = false then (zeroS, 1) else if times < 1 ∨ 512 < s.len * times then (zeroS, 2) else if 512 < (s.cells.length : Int) * times then (zeroS, 8)
  else (⟨s.len * times, s.off, repC s times.toNat⟩, 0)

theorem ord_nodup {l : List Cel} (h : Ord l) : l.Nodup := h.imp fun {a b} hab e => by subst e; rw [cel_irrefl] at hab; cases hab
end Go.Proofs.YtnkpfpgmbpnbgaaGreatDoor

/- Texts, plain: lists of bytes cut at a byte; numbers of one to four digits. -/
namespace Go.Proofs.YtnkpfpgmbpnbgaaGreatDoor

/-- A list cut at each c. -/
def cutC (c : UInt8) : List UInt8 → List (List UInt8)
  | [] => [[]]
  | x :: l => if x = c then [] :: cutC c l else match cutC c l with
    | [] => [[x]]
    | h :: t => (x :: h) :: t
theorem cut_ne (c : UInt8) : ∀ l, cutC c l ≠ []
  | [] => by simp [cutC]
  | x :: l => by
    unfold cutC
    split
    · simp
    · split <;> simp
theorem cut_app {c : UInt8} : ∀ {a : List UInt8} (l : List UInt8), c ∉ a → cutC c (a ++ c :: l) = a :: cutC c l
  | [], l, _ => by rw [List.nil_append, cutC, if_pos rfl]
  | x :: a, l, h => by
    have hx : x ≠ c := fun e => h (e ▸ List.mem_cons_self)
    rw [List.cons_append, cutC, if_neg hx, cut_app l fun hm => h (List.mem_cons_of_mem _ hm)]
theorem cut_no {c : UInt8} : ∀ {a : List UInt8}, c ∉ a → cutC c a = [a]
  | [], _ => rfl
  | x :: a, h => by
    have hx : x ≠ c := fun e => h (e ▸ List.mem_cons_self)
    rw [cutC, if_neg hx, cut_no fun hm => h (List.mem_cons_of_mem _ hm)]
/-- Pieces with c between them. -/
def joinC (c : UInt8) : List (List UInt8) → List UInt8
  | [] => []
  | [p] => p
  | p :: q :: r => p ++ c :: joinC c (q :: r)
theorem join_cut {c : UInt8} : ∀ l : List UInt8, joinC c (cutC c l) = l
  | [] => rfl
  | x :: l => by
    have ih := join_cut (c := c) l
    unfold cutC
    split
    · rename_i e
      subst e
      cases h : cutC x l with
      | nil => exact absurd h (cut_ne x l)
      | cons a t => rw [h] at ih; show [] ++ x :: joinC x (a :: t) = _; rw [ih]; rfl
    · split
      · rename_i h; exact absurd h (cut_ne c l)
      · rename_i a t h
        rw [h] at ih
        cases t with
        | nil => show x :: a = _; rw [show a = l from ih]
        | cons b t => show (x :: a) ++ c :: joinC c (b :: t) = _; rw [List.cons_append, show a ++ c :: joinC c (b :: t) = l from ih]
theorem cut_join {c : UInt8} : ∀ {ps : List (List UInt8)}, ps ≠ [] → (∀ p ∈ ps, c ∉ p) → cutC c (joinC c ps) = ps
  | [], h, _ => absurd rfl h
  | [p], _, h => cut_no (h p List.mem_cons_self)
  | p :: q :: r, _, h => by
    show cutC c (p ++ c :: joinC c (q :: r)) = _
    rw [cut_app _ (h p List.mem_cons_self), cut_join (by simp) fun x hx => h x (List.mem_cons_of_mem _ hx)]
theorem index_cut {c : UInt8} : ∀ {a : List UInt8} (b : List UInt8), c ∉ a → Lib.index (a ++ c :: b) [c] = a.length
  | [], b, _ => by simp [Lib.index, List.isPrefixOf]
  | x :: a, b, h => by
    have hx : ¬ c = x := fun e => h (e ▸ List.mem_cons_self)
    have ih := index_cut (c := c) (a := a) b fun hm => h (List.mem_cons_of_mem _ hm)
    rw [List.cons_append, Lib.index, if_neg (by simp [List.isPrefixOf, hx]), ih, if_neg (by intro h; have := eq_of_beq h; omega)]
    simp
theorem index_no {c : UInt8} : ∀ {a : List UInt8}, c ∉ a → Lib.index a [c] = -1
  | [], _ => rfl
  | x :: a, h => by
    have hx : ¬ c = x := fun e => h (e ▸ List.mem_cons_self)
    have ih := index_no (c := c) (a := a) fun hm => h (List.mem_cons_of_mem _ hm)
    rw [Lib.index, if_neg (by simp [List.isPrefixOf, hx]), ih, if_pos (by decide)]
theorem split_cut {c : UInt8} (s : List UInt8) : Lib.split s [c] = cutC c s := by
  unfold Lib.split
  obtain ⟨k, hk⟩ : ∃ k, s.length = k := ⟨_, rfl⟩
  induction k using Nat.strongRecOn generalizing s with
  | _ k ih =>
    by_cases hm : c ∈ s
    · obtain ⟨a, b, rfl, ha⟩ := List.eq_append_cons_of_mem hm
      have hi := index_cut b ha
      rw [Lib.count_hit (by simp) hi, Nat.add_comm, Lib.splitK, if_neg (by rw [hi]; intro h; have := eq_of_beq h; omega), hi, cut_app b ha]
      have e1 : ((a.length : Int).toNat) = a.length := rfl
      have e2 : (a ++ c :: b).take (a.length + 0) = a := by simp
      have e3 : (a ++ c :: b).drop (a.length + [c].length) = b := by
        rw [show a ++ c :: b = (a ++ [c]) ++ b by simp, show a.length + [c].length = (a ++ [c]).length by simp, List.drop_left]
      rw [e1, e2, e3, ih b.length (by rw [← hk]; simp; omega) b rfl]
    · rw [Lib.count_miss (index_no hm), Lib.splitK, cut_no hm]

def digB (b : UInt8) : Bool := decide (48 ≤ b.toNat ∧ b.toNat ≤ 57)
def valN (l : List UInt8) : Nat := l.foldl (fun a b => 10 * a + (b.toNat - 48)) 0
/-- The number of a word of one to four digits, -1 if it is none. -/
def numW (w : List UInt8) : Int := if w.length < 1 ∨ 4 < w.length ∨ (1 < w.length ∧ w.head? = some 48) ∨ w.all digB = false then -1 else (valN w : Int)
theorem val_snoc (l : List UInt8) (d : UInt8) : valN (l ++ [d]) = 10 * valN l + (d.toNat - 48) := by
  unfold valN; rw [List.foldl_append]; rfl
theorem val_pos : ∀ {l : List UInt8}, l ≠ [] → l.all digB = true → l.head? ≠ some 48 → 1 ≤ valN l := by
  intro l
  obtain ⟨k, hk⟩ : ∃ k, l.length = k := ⟨_, rfl⟩
  induction k generalizing l with
  | zero => intro h; exact absurd (List.length_eq_zero_iff.1 hk) h
  | succ k ih =>
    intro hne ha hh
    rcases List.eq_nil_or_concat l with rfl | ⟨m, d, rfl⟩
    · exact absurd rfl hne
    rw [List.concat_eq_append] at *
    rw [val_snoc]
    cases m with
    | nil =>
      have h1 : digB d = true := by simpa using ha
      unfold digB at h1
      have h2 := of_decide_eq_true h1
      have h3 : d ≠ 48 := fun e => hh (by rw [e]; rfl)
      have h4 : d.toNat ≠ 48 := fun e => h3 (UInt8.toNat_inj.1 e)
      omega
    | cons x m =>
      have := ih (l := x :: m) (by simpa using hk) (by simp) (by rw [List.all_append] at ha; simp only [Bool.and_eq_true] at ha; exact ha.1) (by simpa using hh)
      omega
theorem dec_val : ∀ {l : List UInt8}, l ≠ [] → l.all digB = true → (l.length = 1 ∨ l.head? ≠ some 48) → Lib.decDigits (valN l) = l := by
  intro l
  obtain ⟨k, hk⟩ : ∃ k, l.length = k := ⟨_, rfl⟩
  induction k generalizing l with
  | zero => intro h; exact absurd (List.length_eq_zero_iff.1 hk) h
  | succ k ih =>
    intro hne ha hh
    rcases List.eq_nil_or_concat l with rfl | ⟨m, d, rfl⟩
    · exact absurd rfl hne
    rw [List.concat_eq_append] at *
    rw [List.all_append] at ha
    simp only [Bool.and_eq_true] at ha
    have h1 : digB d = true := by simpa using ha.2
    unfold digB at h1
    have h2 := of_decide_eq_true h1
    have hd : UInt8.ofNat (48 + (d.toNat - 48)) = d := by
      rw [show 48 + (d.toNat - 48) = d.toNat by omega]; exact UInt8.ofNat_toNat
    rw [val_snoc]
    cases m with
    | nil => rw [show 10 * valN [] + (d.toNat - 48) = d.toNat - 48 by simp [valN], Lib.decDigits_one (by omega), hd]; rfl
    | cons x m =>
      have hx : (x :: m).head? ≠ some 48 := by
        rcases hh with h | h
        · simp at h
        · simpa using h
      have hp := val_pos (by simp) ha.1 hx
      rw [Lib.decDigits, dif_neg (by omega), show (10 * valN (x :: m) + (d.toNat - 48)) / 10 = valN (x :: m) by omega, show (10 * valN (x :: m) + (d.toNat - 48)) % 10 = d.toNat - 48 by omega, hd, ih (by simpa using hk) (by simp) ha.1 (.inr hx)]
theorem val_bd {l : List UInt8} (h : l.all digB = true) : valN l < 10 ^ l.length := by
  obtain ⟨k, hk⟩ : ∃ k, l.length = k := ⟨_, rfl⟩
  induction k generalizing l with
  | zero => rw [List.length_eq_zero_iff.1 hk]; decide
  | succ k ih =>
    rcases List.eq_nil_or_concat l with rfl | ⟨m, d, rfl⟩
    · simp at hk
    rw [List.concat_eq_append] at *
    rw [List.all_append] at h
    simp only [Bool.and_eq_true] at h
    have h1 : digB d = true := by simpa using h.2
    unfold digB at h1
    have h2 := of_decide_eq_true h1
    have hm : m.length = k := by simpa using hk
    have := ih h.1 hm
    rw [val_snoc, List.length_append, hm, List.length_singleton, Nat.pow_succ]
    rw [hm] at this
    omega
structure Dec (u : Nat) (l : List UInt8) : Prop where
  ne : l ≠ []
  dig : l.all digB = true
  head : 1 ≤ u → l.head? ≠ some 48
  one : u = 0 → l.length = 1
  val : valN l = u
theorem dec_dec (u : Nat) : Dec u (Lib.decDigits u) := by
  induction u using Nat.strongRecOn with
  | _ u ih =>
    have hdg : ∀ d : Nat, d < 10 → (UInt8.ofNat (48 + d)).toNat = 48 + d := fun d hd => by rw [UInt8.toNat_ofNat']; omega
    by_cases h : u < 10
    · rw [Lib.decDigits_one h]
      have e := hdg u h
      refine ⟨by simp, ?_, fun h1 => ?_, fun _ => rfl, ?_⟩
      · simp [digB]; omega
      · simp only [List.head?_cons, ne_eq, Option.some.injEq]
        intro e2
        rw [e2] at e
        have : (48 : UInt8).toNat = 48 := rfl
        omega
      · show 10 * 0 + ((UInt8.ofNat (48 + u)).toNat - 48) = u
        rw [e]; omega
    · have h2 := ih (u / 10) (by omega)
      have e := hdg (u % 10) (by omega)
      rw [Lib.decDigits, dif_neg h]
      refine ⟨by simp, ?_, fun _ => ?_, fun h0 => by omega, ?_⟩
      · rw [List.all_append, h2.dig]
        simp [digB]; omega
      · have := h2.head (by omega)
        cases hl : Lib.decDigits (u / 10) with
        | nil => exact absurd hl h2.ne
        | cons x m => rw [hl] at this; simpa using this
      · rw [val_snoc, h2.val, e]; omega
theorem num_dec {w : List UInt8} (h : 0 ≤ numW w) : (numW w).toNat < 10000 ∧ w = Lib.decDigits (numW w).toNat := by
  unfold numW at h ⊢
  split at h
  · omega
  · rename_i hc
    rw [if_neg hc]
    have hne : w ≠ [] := fun e => hc (.inl (by rw [e]; decide))
    have hd : w.all digB = true := by
      cases hd : w.all digB with
      | true => rfl
      | false => exact absurd (.inr (.inr (.inr hd))) hc
    have hb := val_bd hd
    have h4 : w.length ≤ 4 := by omega
    refine ⟨?_, ?_⟩
    · have : 10 ^ w.length ≤ 10 ^ 4 := Nat.pow_le_pow_right (by decide) h4
      simp only [Int.toNat_natCast]
      omega
    · rw [Int.toNat_natCast, dec_val hne hd]
      by_cases h1 : w.length = 1
      · exact .inl h1
      · refine .inr fun e => hc (.inr (.inr (.inl ⟨?_, e⟩)))
        have := List.length_pos_iff.2 hne
        omega
theorem dec_len {u : Nat} (h : u < 10000) : (Lib.decDigits u).length ≤ 4 := by
  rw [Lib.decDigits_length]
  by_cases h1 : u < 10
  · rw [Lib.nDigits_small h1]; omega
  · rw [Lib.nDigits_big h1]
    by_cases h2 : u / 10 < 10
    · rw [Lib.nDigits_small h2]; omega
    · rw [Lib.nDigits_big h2]
      by_cases h3 : u / 10 / 10 < 10
      · rw [Lib.nDigits_small h3]; omega
      · rw [Lib.nDigits_big h3, Lib.nDigits_small (by omega)]; omega
theorem num_of_dec {u : Nat} (h : u < 10000) : numW (Lib.decDigits u) = u := by
  have hd := dec_dec u
  have hl := dec_len h
  unfold numW
  rw [if_neg, hd.val]
  rintro (h1 | h1 | ⟨h1, h2⟩ | h1)
  · have := List.length_pos_iff.2 hd.ne; omega
  · omega
  · rcases Nat.eq_zero_or_pos u with h0 | h0
    · have := hd.one h0; omega
    · exact hd.head h0 h2
  · rw [hd.dig] at h1; cases h1
theorem decFrom_val : ∀ (l : List UInt8) (a : Nat), l.all digB = true → Lib.decFrom a l = some (l.foldl (fun a b => 10 * a + (b.toNat - 48)) a)
  | [], _, _ => rfl
  | b :: l, a, h => by
    simp only [List.all_cons, Bool.and_eq_true] at h
    have h1 := h.1
    unfold digB at h1
    have h2 := of_decide_eq_true h1
    rw [Lib.decFrom, show Lib.digitVal b = some (b.toNat - 48) by unfold Lib.digitVal; rw [if_pos h2]]
    show Lib.decFrom (a * 10 + (b.toNat - 48)) l = _
    rw [decFrom_val l _ h.2, List.foldl_cons, Nat.mul_comm]
/-- How Atoi ends at a number's word. -/
theorem atoi_dec {u : Nat} (h : u < 10000) : Lib.atoiAll (Lib.decDigits u) = .ok (u : Int) := by
  have hd := dec_dec u
  have hl := dec_len h
  rw [Lib.atoiAll_short _ (by omega)]
  have h1 : Lib.atoi (Lib.decDigits u) = some (u : Int) := by
    have hv := decFrom_val _ 0 hd.dig
    have e := hd.val
    unfold valN at e
    rw [e] at hv
    have hdig := hd.dig
    cases hl : Lib.decDigits u with
    | nil => exact absurd hl hd.ne
    | cons b r =>
      rw [hl] at hv hdig
      simp only [List.all_cons, Bool.and_eq_true] at hdig
      have h1 := hdig.1
      unfold digB at h1
      have h2 := of_decide_eq_true h1
      have n1 : ¬ (b == 45) = true := fun e => by
        have := eq_of_beq e
        rw [this] at h2
        exact absurd h2.1 (by decide)
      have n2 : ¬ (b == 43) = true := fun e => by
        have := eq_of_beq e
        rw [this] at h2
        exact absurd h2.1 (by decide)
      show (if (b == 45) = true then (Lib.decNat r).map (fun (m : Nat) => -(m : Int)) else if (b == 43) = true then (Lib.decNat r).map (fun (m : Nat) => (m : Int)) else (Lib.decNat (b :: r)).map fun (m : Nat) => (m : Int)) = _
      rw [if_neg n1, if_neg n2]
      unfold Lib.decNat
      rw [if_neg (by simp), hv]
      rfl
  rw [h1]
  rfl
/-- What the program takes for a number is one. -/
theorem prog_num {w : List UInt8} {n : Int} (h : Lib.atoiAll w = .ok n) : (w.length ≤ 4 ∧ Lib.itoa n = w ∧ 0 ≤ n → numW w = n) ∧ (¬ (w.length ≤ 4 ∧ Lib.itoa n = w ∧ 0 ≤ n) → numW w < 0) := by
  constructor
  · rintro ⟨h1, h2, h3⟩
    obtain ⟨u, rfl⟩ : ∃ u : Nat, n = u := ⟨n.toNat, by omega⟩
    have h4 : Lib.itoa (u : Int) = Lib.decDigits u := by unfold Lib.itoa; rw [if_neg (by omega)]; rfl
    rw [h4] at h2
    subst h2
    refine num_of_dec ?_
    have := Lib.lt_pow_nDigits u
    rw [Lib.decDigits_length] at h1
    have h5 : 10 ^ Lib.nDigits u ≤ 10 ^ 4 := Nat.pow_le_pow_right (by decide) h1
    omega
  · intro hc
    refine Int.not_le.1 fun h0 => hc ?_
    obtain ⟨h1, h2⟩ := num_dec h0
    have h3 := atoi_dec h1
    rw [← h2, h] at h3
    injection h3 with h3
    have h4 : Lib.itoa ((numW w).toNat : Int) = Lib.decDigits (numW w).toNat := by unfold Lib.itoa; rw [if_neg (by omega)]; rfl
    refine ⟨?_, ?_, by omega⟩
    · have := dec_len h1
      rw [← h2] at this; exact this
    · rw [h3, h4]; exact h2.symm
theorem prog_bad {w : List UInt8} (h : ∀ n, Lib.atoiAll w ≠ .ok n) : numW w < 0 := by
  refine Int.not_le.1 fun h0 => ?_
  obtain ⟨h1, h2⟩ := num_dec h0
  have h3 := atoi_dec h1
  rw [← h2] at h3
  exact h _ h3
end Go.Proofs.YtnkpfpgmbpnbgaaGreatDoor

/- Schedules as texts, plain: Print and Parse, and that they are inverse. -/
namespace Go.Proofs.YtnkpfpgmbpnbgaaGreatDoor
open Go.RowKit Go.Eng Go.Nw

def wordS : List UInt8 := [115, 99, 104, 101, 100, 117, 108, 101]
def wordC : List UInt8 := [99, 101, 108, 108]
def bodyB (w : List UInt8) (l : List Int) : List UInt8 := w ++ l.flatMap fun n => 32 :: Lib.itoa n
def lineB (w : List UInt8) (l : List Int) : List UInt8 := bodyB w l ++ [10]
def textE (s : Sch) : List UInt8 := lineB wordS [s.len, s.off] ++ s.cells.flatMap fun c => lineB wordC (nums c)
def printE (s : Sch) : List UInt8 × Int := if formE s = false then ([], 1) else (textE s, 0)
def numsW (ws : List (List UInt8)) : Option (List Int) := if (ws.any fun w => decide (numW w < 0)) = true then none else some (ws.map numW)
/-- The numbers of a line with a word. -/
def readE (line word : List UInt8) (many : Nat) : Option (List Int) :=
  if (cutC 32 line).length ≠ many + 1 ∨ (cutC 32 line).headD [] ≠ word then none else numsW (cutC 32 line).tail
def wordOf (i : Nat) : List UInt8 := if i = 0 then wordS else wordC
def manyOf (i : Nat) : Nat := if i = 0 then 2 else 5
def rowE (i : Nat) (line : List UInt8) : Option (List Int) := readE line (wordOf i) (manyOf i)
def lineAt (ls : List (List UInt8)) (i : Nat) : List UInt8 := ls.getD i []
def badRow (ls : List (List UInt8)) (i : Nat) : Int := if (rowE i (lineAt ls i)).isNone = true then 3 else 0
def celOf (x : List Int) : Cel := (x.getD 0 0, x.getD 1 0, x.getD 2 0, x.getD 3 0, x.getD 4 0)
def stepS (i : Nat) (s : Sch) (x : List Int) : Sch := if i = 0 then ⟨x.getD 0 0, x.getD 1 0, s.cells⟩ else ⟨s.len, s.off, s.cells ++ [celOf x]⟩
def schTo (ls : List (List UInt8)) : Nat → Sch
  | 0 => zeroS
  | k + 1 => stepS k (schTo ls k) ((rowE k (lineAt ls k)).getD [])
def parseL (ls : List (List UInt8)) : Sch × (Int × Int) :=
  if (firstF (badRow ls) (ls.length - 1) 0).2 ≠ 0 then (zeroS, firstF (badRow ls) (ls.length - 1) 0)
  else if ls.length - 1 = 0 ∨ lineAt ls (ls.length - 1) ≠ [] then (zeroS, (((ls.length - 1 : Nat) : Int), 3))
  else if formE (schTo ls (ls.length - 1)) = false then (zeroS, (-1, 1)) else (schTo ls (ls.length - 1), (-1, 0))
/-- What Parse returns. -/
def parseE (text : List UInt8) : Sch × (Int × Int) := parseL (cutC 10 text)

theorem joinC_cons {c : UInt8} (p : List UInt8) : ∀ l : List (List UInt8), joinC c (p :: l) = p ++ l.flatMap fun q => c :: q
  | [] => by simp [joinC]
  | q :: r => by
    show p ++ c :: joinC c (q :: r) = _
    rw [joinC_cons q r]; rfl
theorem join_lines : ∀ l : List (List UInt8), joinC 10 (l ++ [[]]) = l.flatMap fun p => p ++ [10]
  | [] => rfl
  | p :: l => by
    rw [List.cons_append, joinC_cons, List.flatMap_cons, ← join_lines l]
    cases l with
    | nil => simp [joinC]
    | cons q r => rw [List.cons_append, joinC_cons, List.flatMap_cons]; simp
theorem body_join (w : List UInt8) (l : List Int) : bodyB w l = joinC 32 (w :: l.map Lib.itoa) := by
  rw [joinC_cons, List.flatMap_map]; rfl
theorem dec_free (u : Nat) {b : UInt8} (hb : b ∈ Lib.decDigits u) : b ≠ 32 ∧ b ≠ 10 := by
  have := List.all_eq_true.1 (dec_dec u).dig b hb
  unfold digB at this
  have h := of_decide_eq_true this
  constructor <;> (intro e; subst e; exact absurd h (by decide))
theorem itoa_nat {n : Int} (h : 0 ≤ n) : Lib.itoa n = Lib.decDigits n.toNat := by unfold Lib.itoa; rw [if_neg (by omega)]
theorem body_free {w : List UInt8} {l : List Int} (hw : (10 : UInt8) ∉ w) (hl : ∀ n ∈ l, 0 ≤ n) : (10 : UInt8) ∉ bodyB w l := by
  unfold bodyB
  intro h
  rcases List.mem_append.1 h with h | h
  · exact hw h
  · obtain ⟨n, hn, h⟩ := List.mem_flatMap.1 h
    rcases List.mem_cons.1 h with h | h
    · exact absurd h (by decide)
    · rw [itoa_nat (hl n hn)] at h
      exact (dec_free _ h).2 rfl
theorem read_body {w : List UInt8} {l : List Int} (hw : (32 : UInt8) ∉ w) (hl : ∀ n ∈ l, 0 ≤ n ∧ n < 10000) : readE (bodyB w l) w l.length = some l := by
  have hc : cutC 32 (bodyB w l) = w :: l.map Lib.itoa := by
    rw [body_join]
    refine cut_join (by simp) fun p hp => ?_
    rcases List.mem_cons.1 hp with rfl | hp
    · exact hw
    · obtain ⟨n, hn, rfl⟩ := List.mem_map.1 hp
      rw [itoa_nat (hl n hn).1]
      exact fun h => (dec_free _ h).1 rfl
  have hn : ∀ n ∈ l, numW (Lib.itoa n) = n := fun n hm => by
    have := hl n hm
    rw [itoa_nat this.1, num_of_dec (by omega)]
    omega
  unfold readE
  rw [hc, if_neg (by simp), List.tail_cons]
  unfold numsW
  rw [if_neg, List.map_map]
  · congr 1
    have : l.map (numW ∘ Lib.itoa) = l.map id := List.map_congr_left fun n hm => hn n hm
    rw [this, List.map_id]
  · rw [List.any_map, Bool.not_eq_true, List.any_eq_false]
    intro n hm
    show ¬ decide (numW (Lib.itoa n) < 0) = true
    rw [hn n hm, decide_eq_true_eq]
    have := hl n hm
    omega
theorem read_some {line w : List UInt8} {k : Nat} {x : List Int} (h : readE line w k = some x) : line = bodyB w x ∧ x.length = k ∧ ∀ n ∈ x, 0 ≤ n := by
  unfold readE at h
  split at h
  · cases h
  rename_i hc
  unfold numsW at h
  split at h
  · cases h
  rename_i ha
  have h1 : (cutC 32 line).length = k + 1 := Decidable.byContradiction fun e => hc (.inl e)
  have h2 : (cutC 32 line).headD [] = w := Decidable.byContradiction fun e => hc (.inr e)
  have hj := join_cut (c := 32) line
  cases hcl : cutC 32 line with
  | nil => exact absurd hcl (cut_ne _ _)
  | cons p r =>
    rw [hcl] at h1 h2 hj h ha
    obtain rfl : p = w := h2
    have hx := Option.some.inj h
    rw [List.tail_cons] at hx ha
    have hpos : ∀ q ∈ r, 0 ≤ numW q := fun q hq => by
      refine Int.not_lt.1 fun hlt => ha ?_
      rw [List.any_eq_true]
      exact ⟨q, hq, decide_eq_true hlt⟩
    refine ⟨?_, ?_, ?_⟩
    · rw [body_join, ← hj, ← hx, List.map_map]
      congr 2
      have : r.map (Lib.itoa ∘ numW) = r.map id := List.map_congr_left fun q hq => by
        show Lib.itoa (numW q) = q
        rw [itoa_nat (hpos q hq)]
        exact (num_dec (hpos q hq)).2.symm
      rw [this, List.map_id]
    · rw [← hx, List.length_map]
      simpa using h1
    · intro n hn
      rw [← hx] at hn
      obtain ⟨q, hq, rfl⟩ := List.mem_map.1 hn
      exact hpos q hq
theorem celOf_nums (c : Cel) : celOf (nums c) = c := rfl

/-- The rows of a schedule. -/
def rowsS (s : Sch) : List (List UInt8) := bodyB wordS [s.len, s.off] :: s.cells.map fun c => bodyB wordC (nums c)
theorem text_rows (s : Sch) : textE s = (rowsS s).flatMap fun p => p ++ [10] := by
  unfold textE rowsS lineB
  rw [List.flatMap_cons, List.flatMap_map]
theorem form_nums {s : Sch} (h : Frm s) : (∀ n ∈ [s.len, s.off], 0 ≤ n ∧ n < 10000) ∧ ∀ c ∈ s.cells, ∀ n ∈ nums c, 0 ≤ n ∧ n < 10000 := by
  have h1 := h.sized
  unfold sizedE at h1
  have h2 := of_decide_eq_true h1
  constructor
  · intro n hn
    simp only [List.mem_cons, List.not_mem_nil, or_false] at hn
    omega
  · intro c hc n hn
    have h3 := h.formed c hc
    unfold formedE placedE insE at h3
    simp only [Bool.and_eq_true, decide_eq_true_eq] at h3
    unfold nums at hn
    simp only [List.mem_cons, List.not_mem_nil, or_false] at hn
    omega
theorem cut_text {s : Sch} (h : Frm s) : cutC 10 (textE s) = rowsS s ++ [[]] := by
  obtain ⟨h1, h2⟩ := form_nums h
  rw [text_rows, ← join_lines]
  refine cut_join (by simp) fun p hp => ?_
  rcases List.mem_append.1 hp with hp | hp
  · unfold rowsS at hp
    rcases List.mem_cons.1 hp with rfl | hp
    · exact body_free (by decide) fun n hn => (h1 n hn).1
    · obtain ⟨c, hc, rfl⟩ := List.mem_map.1 hp
      exact body_free (by decide) fun n hn => (h2 c hc n hn).1
  · obtain rfl := List.mem_singleton.1 hp
    simp
theorem row_text {s : Sch} (h : Frm s) {i : Nat} (hi : i < s.cells.length + 1) : rowE i (lineAt (rowsS s ++ [[]]) i) = some (if i = 0 then [s.len, s.off] else nums (celAt s (i - 1))) := by
  obtain ⟨h1, h2⟩ := form_nums h
  unfold rowE lineAt rowsS
  cases i with
  | zero => exact read_body (w := wordS) (l := [s.len, s.off]) (by decide) h1
  | succ i =>
    have hi : i < s.cells.length := by omega
    have hc := celAt_some hi
    have e : ((bodyB wordS [s.len, s.off] :: s.cells.map fun c => bodyB wordC (nums c)) ++ [[]]).getD (i + 1) [] = bodyB wordC (nums (celAt s i)) := by
      rw [List.cons_append, List.getD_cons_succ, List.getD_eq_getElem?_getD, List.getElem?_append_left (by simpa using hi), List.getElem?_map, hc]; rfl
    rw [e, if_neg (by omega), Nat.add_sub_cancel]
    exact read_body (w := wordC) (l := nums (celAt s i)) (by decide) (h2 _ (celAt_mem hi))
theorem sch_text {s : Sch} (h : Frm s) : ∀ k, k ≤ s.cells.length → schTo (rowsS s ++ [[]]) (k + 1) = ⟨s.len, s.off, s.cells.take k⟩
  | 0, _ => by
    unfold schTo
    rw [row_text h (Nat.succ_pos _)]
    rfl
  | k + 1, hk => by
    unfold schTo
    rw [sch_text h k (by omega), row_text h (by omega), if_neg (by omega), Nat.add_sub_cancel]
    unfold stepS
    rw [if_neg (by omega), Option.getD_some, celOf_nums, List.take_add_one, celAt_some (by omega)]
    rfl
/-- The text of a schedule is read as this schedule. -/
theorem parse_print {s : Sch} (h : formE s = true) : parseE (textE s) = (s, (-1, 0)) := by
  have hf := form_iff.1 h
  have hl : (rowsS s ++ [[]]).length - 1 = s.cells.length + 1 := by unfold rowsS; simp
  have hbad : (firstF (badRow (rowsS s ++ [[]])) (s.cells.length + 1) 0).2 = 0 := firstF_ok.2 fun k _ hk => by
    unfold badRow
    rw [row_text hf (by omega)]
    rfl
  have hlast : lineAt (rowsS s ++ [[]]) (s.cells.length + 1) = [] := by
    unfold lineAt rowsS
    rw [List.getD_eq_getElem?_getD, List.getElem?_append_right (by simp)]
    simp
  have hs : schTo (rowsS s ++ [[]]) (s.cells.length + 1) = s := by
    rw [sch_text hf _ (Nat.le_refl _), List.take_length]
  unfold parseE parseL
  rw [cut_text hf, hl, if_neg (fun e => e hbad), hlast, if_neg (by rintro (e | e) <;> first | (exact absurd e (Nat.succ_ne_zero _)) | exact e rfl), hs, if_neg (by rw [h]; decide)]
end Go.Proofs.YtnkpfpgmbpnbgaaGreatDoor

/- Walks: what the library's functions on texts answer: Itoa, Atoi, Split, Builder. -/
namespace Go.Proofs.YtnkpfpgmbpnbgaaGreatDoor
open Go.RowKit Go.Eng Go.Nw

/-- What the library's tables and errors hold. -/
structure Tabs (w : World) : Prop where
  pow : Lib.TabIs Tryz.prog w "internal/strconv.uint64pow10" .u64 Lib.pow10Tab
  syn : ∃ tp p, w.var? Tryz.prog "strconv.ErrSyntax" = some #[.iface tp p]
  rng : ∃ tp p, w.var? Tryz.prog "strconv.ErrRange" = some #[.iface tp p]
  mx : ∃ m, w.cell? ⟨0, 0, none⟩ = some (.int .i64 m)
def TabsB (B : Nat) (w0 : World) : Prop := ∀ w, Below B w0 w → Tabs w
theorem TabsB.here {B : Nat} {w0 w : World} {H : List HP} (h : TabsB B w0) (hw : St B w0 H w) : TabsB w.heap.size w := fun w1 h1 => h w1 (hw.below.trans (h1.mono hw.le))
abbrev strV (l : List UInt8) : Value := .string ⟨l.toArray⟩
def strL (l : List UInt8) : List Value := [strV l]

theorem itoa_spec (n : Int) (h0 : -9223372036854775808 ≤ n) (h1 : n ≤ 9223372036854775807) {B : Nat} {w0 : World} {H : List HP} {w : World} (ht : TabsB B w0) (hw : St B w0 H w) :
    Calls Tryz.prog 96 [.int .i64 n].toArray w (Post B w0 fun v K => v = strV (Lib.itoa n) ∧ K = H) :=
  calls_grow hw ((Tryz.strconv_Itoa n h0 h1 w (ht w hw.below).pow).mono fun e w' ⟨h1, k, os, h2⟩ => ⟨h1, by rw [h2]; exact Lib.below_grow _ w (Nat.le_refl _) k os⟩)
theorem atoi_ok (l : List UInt8) (hl : l.length ≤ 1000000) (v : Int) (h : Lib.atoiAll l = .ok v) {B : Nat} {w0 : World} {H : List HP} {w : World} (hw : St B w0 H w) :
    Calls Tryz.prog 99 [strV l].toArray w (Post B w0 fun u K => u = .tuple #[.int .i64 v, .nilIface] ∧ K = H) := by
  have hs : (⟨l.toArray⟩ : ByteArray).size = l.length := by simp [ByteArray.size]
  refine calls_grow hw ((Tryz.strconv_Atoi_ok ⟨l.toArray⟩ (by omega) v h w).mono ?_)
  rintro e w' ⟨rfl, h2 | ⟨t, rfl⟩⟩
  · rw [h2]; exact ⟨rfl, Below.refl _ _⟩
  · exact ⟨rfl, Go.Joins.below_bytesWorld _ _ _ _ (Nat.le_refl _)⟩
theorem atoi_bad (l : List UInt8) (hl : l.length ≤ 1000000) (h : ∀ v, Lib.atoiAll l ≠ .ok v) {B : Nat} {w0 : World} {H : List HP} {w : World} (ht : TabsB B w0) (hw : St B w0 H w) :
    Calls Tryz.prog 99 [strV l].toArray w (Post B w0 fun u K => (∃ n t p, u = .tuple #[.int .i64 n, .iface t p]) ∧ K = H) := by
  have hs : (⟨l.toArray⟩ : ByteArray).size = l.length := by simp [ByteArray.size]
  have hT := ht w hw.below
  obtain ⟨tp1, p1, hv1⟩ := hT.syn
  obtain ⟨tp2, p2, hv2⟩ := hT.rng
  cases ha : Lib.atoiAll l
  · exact absurd ha (h _)
  · refine (Any.strconv_Atoi_syntax_var Tryz.laysC172 ⟨l.toArray⟩ (by omega) ha tp1 p1 w hv1).mono ?_
    rintro e w' ⟨N, rfl, _, _, hb⟩
    exact ⟨_, H, rfl, hw.grow hb, ⟨_, _, _, rfl⟩, rfl⟩
  · refine (Any.strconv_Atoi_range_var Tryz.laysC172 ⟨l.toArray⟩ (by omega) ha tp2 p2 w hv2).mono ?_
    rintro e w' ⟨N, rfl, _, _, hb⟩
    exact ⟨_, H, rfl, hw.grow hb, ⟨_, _, _, rfl⟩, rfl⟩
theorem split_spec (l : List UInt8) (c : UInt8) (hl : l.length ≤ 1000000) {B : Nat} {w0 : World} {H : List HP} {w : World} (ht : TabsB B w0) (hw : St B w0 H w) :
    Calls Tryz.prog 61 [strV l, .string ⟨#[c]⟩].toArray w (Post B w0 fun v K => ∃ g, v = .slice (some ⟨g, 0, none⟩) (cutC c l).length (cutC c l).length ∧ K = blk g (.cells ((cutC c l).map strV).toArray 9 (0, 0)) :: H) := by
  have hs : (⟨l.toArray⟩ : ByteArray).size = l.length := by simp [ByteArray.size]
  have hc : (⟨#[c]⟩ : ByteArray).size = 1 := rfl
  obtain ⟨m, hm⟩ := (ht w hw.below).mx
  have hlen := Lib.splitB_all ⟨#[c]⟩ (by rw [hc]; exact Nat.le_refl _) 0 _ (⟨l.toArray⟩ : ByteArray) rfl
  have hd := Lib.splitB_data ⟨#[c]⟩ 0 (Lib.countB ⟨l.toArray⟩ ⟨#[c]⟩) ⟨l.toArray⟩
  have e1 : (Lib.splitB ⟨#[c]⟩ 0 (Lib.countB ⟨l.toArray⟩ ⟨#[c]⟩) ⟨l.toArray⟩).map (·.data.toList) = cutC c l := by
    rw [hd]
    exact split_cut l
  have e2 : (cutC c l).length = Lib.countB ⟨l.toArray⟩ ⟨#[c]⟩ + 1 := by
    rw [← e1, List.length_map, hlen]
  have e3 : (Lib.splitB ⟨#[c]⟩ 0 (Lib.countB ⟨l.toArray⟩ ⟨#[c]⟩) ⟨l.toArray⟩).map Value.string = (cutC c l).map strV := by
    rw [← e1, List.map_map]
    refine List.map_congr_left fun x _ => ?_
    rfl
  refine (Tryz.strings_Split ⟨l.toArray⟩ ⟨#[c]⟩ m w (by omega) hm (by rw [hc]; exact Nat.le_refl _)).mono ?_
  rintro e w' ⟨rfl, hw'⟩
  rw [e3] at hw'
  refine ⟨_, _, rfl, by rw [hw']; exact hw.alloc _, w.heap.size, ?_, rfl⟩
  rw [e2]
end Go.Proofs.YtnkpfpgmbpnbgaaGreatDoor

/- Walks: cmp.Compare of numbers, slices.Compare of lists of numbers. -/
namespace Go.Proofs.YtnkpfpgmbpnbgaaGreatDoor
open Go.RowKit Go.Eng Go.Nw

def cmpV (a b : List Int) : Int := if lexLt a b = true then -1 else if lexLt b a = true then 1 else 0
theorem compareI_spec (a b : List Int) (hla : a.length ≤ 1000000000000) (hlb : b.length ≤ 1000000000000) {A1 A2 : Option Addr} {c1 c2 B : Nat} {w0 : World} {H : List HP} {w : World} (hr1 : Rd B w0 H A1 (a.flatMap numF)) (hr2 : Rd B w0 H A2 (b.flatMap numF)) (hw : St B w0 H w) :
    Calls Tryz.prog 141 [.slice A1 a.length c1, .slice A2 b.length c2].toArray w (Post B w0 fun v K => v = .int .i64 (cmpV a b) ∧ K = H) := by
  refine Calls_of_VC Tryz.func141 Tryz.ntmps141 rfl rfl hw ?_
  repeat' (first | apply (zs1 ?_) | apply (zs2 ?_) | (apply zg4; refine zs9 ?_) | apply (zs65 ?_) | apply (zs68 ?_) | apply (zs69 ?_) | apply (zs70 ?_) | apply (zs73 ?_) | fail)
  refine VC_loop1 (fun (i : Nat) => [(11, .int .i64 i), (10, .int .i64 a.length), (9, .slice A1 a.length c1), (0, .slice A1 a.length c1), (1, .slice A2 b.length c2)]) (fun _ => H) (fun i => i ≤ a.length ∧ i ≤ b.length ∧ lexLt a b = lexLt (a.drop i) (b.drop i) ∧ lexLt b a = lexLt (b.drop i) (a.drop i)) (fun i => a.length - i) 0 ⟨Nat.zero_le _, Nat.zero_le _, rfl, rfl⟩ ?_ (fun w hw => hw) ?_
  · (repeat (first | exact sub_nil _ | (apply sub_cons; first | exact rfl | exact congrArg (fun z : Int => some (Value.int .i64 z)) (by omega))))
  rintro i ⟨hi, hib, e1, e2⟩ K hK
  by_cases hlt : i < a.length
  · obtain ⟨x, hx⟩ : ∃ x, a[i]? = some x := ⟨_, List.getElem?_eq_getElem hlt⟩
    by_cases hltb : i < b.length
    · obtain ⟨y, hy⟩ : ∃ y, b[i]? = some y := ⟨_, List.getElem?_eq_getElem hltb⟩
      have d1 := lex_drop hx hy
      have d2 := lex_drop hy hx
      have hcm := fun {w : World} (hw : St B w0 H w) => compare_int x y hw
      by_cases hxy : x = y
      · rw [if_neg (fun h => h hxy)] at d1
        rw [if_neg (fun h => h hxy.symm)] at d2
        rw [show cmpI x y = 0 by unfold cmpI; rw [if_neg (by omega), if_neg (by omega)]] at hcm
        repeat' (first | ((first | apply VL_callt en147 | apply VL_callq en147); (repeat (first | exact args_nil | (apply args_cons; exact rfl))); exact rfl; exact fun _ hw => (hcm hw)) | apply (zs1 ?_) | apply (zs2 ?_) | (apply zg3; refine zs60 ?_) | (apply zg4; refine zs9 ?_) | (apply zg5; refine zs57 ?_) | (apply zg8; (refine zs16 ?_ ?_ <;> intro _ <;> try (exfalso; omega))) | (apply (zs17 ?_ ?_) <;> intro _ <;> try (exfalso; omega)) | (apply (zs20 ?_ ?_) <;> intro _ <;> try (exfalso; omega)) | (apply zg13; refine zs30 ?_) | apply (zs65 ?_) | apply (zs68 ?_) | apply (zs69 ?_) | apply (zs70 ?_) | (apply zg27; first | refine zs71 ?_ | refine zs72 ?_) | apply (zs73 ?_) | apply (zs76 ?_) | apply (zs79 ?_) | fail)
        apply hK (i + 1)
        · exact ⟨by omega, by omega, e1.trans d1, e2.trans d2⟩
        · omega
        · (repeat (first | exact sub_nil _ | (apply sub_cons; first | exact rfl | exact congrArg (fun z : Int => some (Value.int .i64 z)) (by omega))))
        · exact fun w hw => hw
      · rw [if_pos hxy] at d1
        rw [if_pos (Ne.symm hxy)] at d2
        clear hK
        rcases Int.lt_or_gt_of_ne hxy with h | h
        · rw [show cmpI x y = -1 by unfold cmpI; rw [if_pos h]] at hcm
          have hv : cmpV a b = -1 := by unfold cmpV; rw [e1, d1, if_pos (decide_eq_true h)]
          rw [hv]
          repeat' (first | ((first | apply VL_callt en147 | apply VL_callq en147); (repeat (first | exact args_nil | (apply args_cons; exact rfl))); exact rfl; exact fun _ hw => (hcm hw)) | apply (zs1 ?_) | apply (zs2 ?_) | (apply zg3; refine zs60 ?_) | (apply zg4; refine zs9 ?_) | (apply zg5; refine zs57 ?_) | (apply zg8; (refine zs16 ?_ ?_ <;> intro _ <;> try (exfalso; omega))) | (apply (zs17 ?_ ?_) <;> intro _ <;> try (exfalso; omega)) | (apply (zs20 ?_ ?_) <;> intro _ <;> try (exfalso; omega)) | apply (zs65 ?_) | apply (zs68 ?_) | apply (zs69 ?_) | apply (zs70 ?_) | (apply zg27; first | refine zs71 ?_ | refine zs72 ?_) | apply (zs73 ?_) | apply (zs74 ?_) | apply (zs76 ?_) | apply (zs77 ?_) | apply (zs78 ?_) | fail)
          apply VQ_ret1; exact rfl; exact rfl; exact ⟨rfl, rfl⟩
        · rw [show cmpI x y = 1 by unfold cmpI; rw [if_neg (by omega), if_pos h]] at hcm
          have hv : cmpV a b = 1 := by unfold cmpV; rw [e1, d1, decide_eq_false (by omega), if_neg (by decide), e2, d2, if_pos (decide_eq_true h)]
          rw [hv]
          repeat' (first | ((first | apply VL_callt en147 | apply VL_callq en147); (repeat (first | exact args_nil | (apply args_cons; exact rfl))); exact rfl; exact fun _ hw => (hcm hw)) | apply (zs1 ?_) | apply (zs2 ?_) | (apply zg3; refine zs60 ?_) | (apply zg4; refine zs9 ?_) | (apply zg5; refine zs57 ?_) | (apply zg8; (refine zs16 ?_ ?_ <;> intro _ <;> try (exfalso; omega))) | (apply (zs17 ?_ ?_) <;> intro _ <;> try (exfalso; omega)) | (apply (zs20 ?_ ?_) <;> intro _ <;> try (exfalso; omega)) | apply (zs65 ?_) | apply (zs68 ?_) | apply (zs69 ?_) | apply (zs70 ?_) | (apply zg27; first | refine zs71 ?_ | refine zs72 ?_) | apply (zs73 ?_) | apply (zs74 ?_) | apply (zs76 ?_) | apply (zs77 ?_) | apply (zs78 ?_) | fail)
          apply VQ_ret1; exact rfl; exact rfl; exact ⟨rfl, rfl⟩
    · obtain rfl : i = b.length := by omega
      clear hK
      have hv : cmpV a b = 1 := by
        unfold cmpV
        rw [e1, e2, List.drop_length, List.drop_eq_getElem_cons hlt]
        rfl
      rw [hv]
      repeat' (first | apply (zs1 ?_) | apply (zs2 ?_) | (apply zg3; refine zs60 ?_) | (apply zg4; refine zs9 ?_) | (apply zg5; refine zs57 ?_) | (apply (zs17 ?_ ?_) <;> intro _ <;> try (exfalso; omega)) | (apply (zs20 ?_ ?_) <;> intro _ <;> try (exfalso; omega)) | apply (zs65 ?_) | apply (zs68 ?_) | apply (zs69 ?_) | apply (zs70 ?_) | (apply zg27; refine zs71 ?_) | apply (zs73 ?_) | apply (zs74 ?_) | apply (zs76 ?_) | apply (zs77 ?_) | apply (zs78 ?_) | fail)
      apply VQ_ret1; exact rfl; exact rfl; exact ⟨rfl, rfl⟩
  · obtain rfl : i = a.length := by omega
    clear hK
    rw [List.drop_length] at e1 e2
    by_cases hl : a.length < b.length
    · have hv : cmpV a b = -1 := by
        unfold cmpV
        rw [e1, List.drop_eq_getElem_cons hl]
        rfl
      rw [hv]
      repeat' (first | apply (zs1 ?_) | apply (zs2 ?_) | (apply zg4; refine zs9 ?_) | (apply (zs17 ?_ ?_) <;> intro _ <;> try (exfalso; omega)) | apply (zs65 ?_) | apply (zs68 ?_) | apply (zs69 ?_) | apply (zs70 ?_) | (apply zg27; first | refine zs71 ?_ | refine zs72 ?_) | apply (zs74 ?_) | apply (zs75 ?_) | apply (zs77 ?_) | apply (zs80 ?_) | apply (zs81 ?_) | fail)
      apply VQ_ret1; exact rfl; exact rfl; exact ⟨rfl, rfl⟩
    · have hv : cmpV a b = 0 := by
        unfold cmpV
        rw [e1, e2, List.drop_eq_nil_of_le (by omega)]
        rfl
      rw [hv]
      repeat' (first | apply (zs1 ?_) | apply (zs2 ?_) | (apply zg4; refine zs9 ?_) | (apply (zs17 ?_ ?_) <;> intro _ <;> try (exfalso; omega)) | apply (zs65 ?_) | apply (zs68 ?_) | apply (zs69 ?_) | apply (zs70 ?_) | (apply zg27; refine zs72 ?_) | apply (zs74 ?_) | apply (zs75 ?_) | apply (zs76 ?_) | apply (zs80 ?_) | apply (zs81 ?_) | fail)
      apply VQ_ret1; exact rfl; exact rfl; exact ⟨rfl, rfl⟩
end Go.Proofs.YtnkpfpgmbpnbgaaGreatDoor
