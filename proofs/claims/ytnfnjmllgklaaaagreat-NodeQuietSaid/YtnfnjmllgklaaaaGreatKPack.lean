/- bits.Pack. -/
import Derived.Test.YtnfnjmllgklaaaaGreatKChunk
import Derived.RangeFuncCalls
import Derived.Maps.OwnIn
set_option linter.unusedVariables false
set_option linter.unusedSimpArgs false
namespace Go.Proofs.YtnfnjmllgklaaaaGreat
open Go Go.RowKit Go.Shelf Om
attribute [local go_sem] Oper.semAt_some

/-- ap1 in a round. -/
theorem ap1In {F : Fence} {nF : Nat} {P : Program} {ops : Array Oper} {rest : List Oper} {o : Oper} {a : Act} {Q : Exit → Act → World → Prop} {w0 W : World} (B : Nat) (hgd : o.guard = none) (s x : Operand) (t e : TypeId) (z : Value) (bytes : Nat)
    (ho : o.op = .call { callee := .builtin .append, args := #[s, x], argTypes := #[t, t] })
    (ht : P.underlying t = some (.slice e)) (hinfo : (P.info? e).map (fun i => (i.zero, i.size, i.bytes)) = some (some z, 1, bytes)) (hz : z.cells.size = 1) (hb0 : 0 < bytes)
    (v : Value) (xs : List Value) (y : Value) (hs : a.eval s = v) (hx : a.eval x = .slice (some ⟨W.heap.size, 0, none⟩) 1 1) (h1 : y.oneCell' = true)
    (HO : W.ownsRow B e 1 v xs.length xs) (HB : Below B w0 W) (hbase : B ≤ W.heap.size) (hl : (xs.length + 1) * bytes ≤ 140737488355328)
    (h : ∀ A1 c1 w1, w1.ownsRow B e 1 (.slice A1 (xs.length + 1) c1) (xs.length + 1) (xs ++ [y]) → Below B w0 w1 → W.grownBy w1 v.ownBlock →
      ((Value.slice A1 (xs.length + 1) c1).ownBlock = v.ownBlock ∨ ∃ b, (Value.slice A1 (xs.length + 1) c1).ownBlock = some b ∧ W.heap.size ≤ b) → wpListIn F nF P ops Q rest (a.put o.dst (.slice A1 (xs.length + 1) c1)) w1) :
    wpListIn F nF P ops Q (o :: rest) a (W.alloc (.cells #[y] e)) := by
  obtain ⟨i0, hi, hzz⟩ := Option.map_eq_some_iff.1 hinfo
  simp only [Prod.mk.injEq] at hzz
  obtain ⟨hz0, hz1, hz2⟩ := hzz
  have hlen : xs.length + 1 ≤ 140737488355328 := Nat.le_trans (Nat.le_mul_of_pos_right _ hb0) hl
  refine wpListIn_append_own_at (W.alloc (.cells #[y] e)) hgd s x t ho B e i0 z 1 bytes ht hi hz0 hz1 hz2 hz (by omega) v xs.length xs hs (HO.alloc _) ⟨W.heap.size, 0, none⟩ 1 1 [y] hx rfl
    (World.news_of_block (cs := #[y]) (t := e) (fr := (0, 0)) (heap_alloc_new W _)) (by simpa using h1) (by simp only [maxLen]; omega) hl (by simp; omega) ?_
  intro v1 w1 hown hg _ hat
  obtain ⟨A1, c1, rfl, _⟩ := own_form hown
  refine h A1 c1 w1 hown ((HB.alloc hbase _).grown hg (by simp; omega) (own_base HO)) (World.grownBy.trans (World.grownBy_alloc W _ _) hg) ?_
  rcases hat with hat | hat
  · exact .inl hat
  · exact .inr ⟨_, hat, by simp⟩

theorem keepsOthers_of_below {W W' : World} (h : Below W.heap.size W W') : KeepsOthers W W' := ⟨h.size, fun k o hk _ => (h.block k (lt_of_block hk)).trans hk⟩
set_option maxHeartbeats 1000000 in
theorem chunk_in (m : Nat) (D : Option Addr) (len cap n : Nat) (hn : 1 ≤ n) (w : World) :
    CallsIn Fence.wide m Tryz.prog 258 #[.slice D len cap, .int .i64 n] w fun e w' => e = .returned (.func (.func 270) #[] #[.pointer (some ⟨w.heap.size, 0, none⟩), .pointer (some ⟨w.heap.size + 1, 0, none⟩)]) ∧
      w' = (w.alloc (.cells #[.slice D len cap] 23)).alloc (.cells #[.int .i64 n] 3) := by
  refine callsIn_of_wp Tryz.func258 rfl trivial ?_ rfl
  simp only [Tryz.ntmps258, List.size_toArray, List.length_cons, List.length_nil, Nat.reduceAdd, Nat.reduceSub, Array.replicate_succ, Array.replicate_zero, List.push_toArray, List.append_toArray, List.nil_append, List.cons_append]
  gi_wp2
  go_ret
  exact ⟨rfl, rfl⟩
theorem chunk_stops (m : Nat) (hm : 1 ≤ m) (Bs Bn : Nat) (S : Nat → Prop) (D : Option Addr) (cap len n : Nat) (hn : 1 ≤ n) (hn8 : n ≤ 64) (hreach : len ≤ 100000000) (hcap : len ≤ cap) (hD : 0 < len → ∃ ad, D = some ad)
    (w : World) (hBs : w.cell? ⟨Bs, 0, none⟩ = some (.slice D len cap)) (hBnc : w.cell? ⟨Bn, 0, none⟩ = some (.int .i64 n)) (hBsS : S Bs) (hBnS : S Bn) (hS : ∀ k, S k → k < w.heap.size) :
    SeqStopsK Fence.wide m Tryz.prog 270 #[.pointer (some ⟨Bs, 0, none⟩), .pointer (some ⟨Bn, 0, none⟩)] (encC D n len) (KeepS S) (fun ys => ys = upto (fun k => k) ((len + n - 1) / n))
      (fun pre => ∃ k, k < (len + n - 1) / n ∧ pre = upto (fun k => k) (k + 1)) ((len + n - 1) / n) w := fun lp J Jx W hW hJ _ hY h0 => by
  exact chunk1_in m hm lp Bs Bn S D cap len n hn hn8 hreach hcap hD J Jx (fun s W1 h => hJ s W1 _ none h ⟨rfl, rfl, rfl, Nat.le_refl _, fun _ _ _ => rfl⟩ (fun _ e => by cases e)) hY W ((hW.cell (p := ⟨Bs, 0, none⟩) (hS Bs hBsS)).trans hBs) ((hW.cell (p := ⟨Bn, 0, none⟩) (hS Bn hBnS)).trans hBnc) hBsS hBnS h0

theorem pack_snoc : ∀ (k : Nat) (l : List Bool), 8 * (k + 1) ≤ l.length → pack (l.take (8 * (k + 1))) = pack (l.take (8 * k)) ++ [UInt8.ofNat (num ((l.drop (8 * k)).take 8))]
  | 0, l, h => by
    match l, h with
    | a :: b :: c :: d :: e :: f :: g :: i :: r, _ => rfl
  | k + 1, l, h => by
    match l, h with
    | a :: b :: c :: d :: e :: f :: g :: i :: r, h =>
      have := pack_snoc k r (by simp only [List.length_cons] at h; omega)
      rw [show 8 * (k + 1 + 1) = 8 * (k + 1) + 8 by omega, show 8 * (k + 1) = 8 * k + 8 by omega]
      simp only [List.take_succ_cons, List.drop_succ_cons, pack, List.cons_append]
      rw [show 8 * k + 8 = 8 * (k + 1) by omega, this]
theorem pack_length : ∀ (k : Nat) (l : List Bool), 8 * k ≤ l.length → (pack (l.take (8 * k))).length = k
  | 0, l, _ => by simp [pack]
  | k + 1, l, h => by rw [pack_snoc k l h, List.length_append, pack_length k l (by omega)]; rfl

/-- What a part's bits are as a byte. -/
def chunkByte (l : List Bool) (x : Nat) : UInt8 := UInt8.ofNat (num ((l.drop (8 * clamp 8 l.length x)).take 8))
theorem pack_eq (l : List Bool) (q : Nat) (hq : l.length = 8 * q) : ∀ k, k ≤ q → (upto (fun k : Nat => k) k).map (chunkByte l) = pack (l.take (8 * k))
  | 0, _ => by simp [upto, pack]
  | k + 1, h => by
    rw [upto_succ, List.map_append, pack_eq l q hq k (by omega), pack_snoc k l (by omega)]
    have hc : clamp 8 l.length k = k := by unfold clamp; rw [hq]; omega
    simp [chunkByte, hc]

set_option maxRecDepth 100000 in
set_option maxHeartbeats 2000000 in
theorem pack_in (m : Nat) (hm : 3 ≤ m) (D : Option Addr) (cap q : Nat) (l : List Bool) (hq : l.length = 8 * q) (hl : l.length ≤ 65536) (hcap : l.length ≤ cap) (w : World) (hr : Rd w D (bitsV l)) :
    CallsIn Fence.wide m Tryz.prog 252 #[.slice D l.length cap] w (Row2Post 5 w.heap.size (bytesV (pack l)) w) := by
  have h1 : 1 ≤ m := by omega
  have hck := check_ok D cap l w hr hl
  have hfn : ∀ f, Fence.wide.fn f := fun _ => trivial
  have hmod : ((l.length : Int) % 8) = 0 := by omega
  have HR := Lib.hid hr
  have HQ := Lib.hid hq
  clear hr hq
  refine callsIn_of_wp_marks Tryz.func252 rfl trivial ?_ rfl
  simp only [Tryz.ntmps252, List.size_toArray, List.length_cons, List.length_nil, Nat.reduceAdd, Nat.reduceSub, Array.replicate_succ, Array.replicate_zero, List.push_toArray, List.append_toArray, List.nil_append, List.cons_append]
  gi_wp2_with (first | (gi_at_call 194; refine (callsIn_wide.2 hck).mono ?_; rintro e w' ⟨rfl, rfl⟩) | (gi_at_call 258; refine (chunk_in (m - 1) _ _ _ 8 (by decide) _).mono ?_; rintro e w' ⟨rfl, rfl⟩))
  have bO := Boxed.new w' 23 (.slice none 0 0)
  have bS := Boxed.new (w'.alloc (.cells #[.slice none 0 0] 23)) 23 (.slice D l.length cap)
  have bN := Boxed.new ((w'.alloc (.cells #[.slice none 0 0] 23)).alloc (.cells #[.slice D l.length cap] 23)) 3 (.int .i64 8)
  rw [World.size_alloc] at bS
  rw [World.size_alloc, World.size_alloc] at bN
  have hB0 : Below w'.heap.size w' (((w'.alloc (.cells #[.slice none 0 0] 23)).alloc (.cells #[.slice D l.length cap] 23)).alloc (.cells #[.int .i64 8] 3)) := (((Below.refl _ w').alloc (Nat.le_refl _) _).alloc (by simp) _).alloc (by simp; omega) _
  have hDs : 0 < l.length → ∃ ad, D = some ad := fun h => by obtain ⟨ad, e, _⟩ := HR.out.bit 0 h; exact ⟨ad, e⟩
  have hNq : (l.length + 8 - 1) / 8 = q := by rw [HQ.out]; omega
  refine wpIn_rangeFunc_ownG rfl h1 (gf := 270) (lb := #[.pointer (some ⟨w'.heap.size + 1, 0, none⟩), .pointer (some ⟨w'.heap.size + 1 + 1, 0, none⟩)]) rfl trivial (enters_of Tryz.func270 (by kernel_rfl) rfl)
    (chunk_stops (m - 1) (by omega) (w'.heap.size + 1) (w'.heap.size + 1 + 1) (fun k => k < w'.heap.size ∨ k = w'.heap.size + 1 ∨ k = w'.heap.size + 1 + 1) D cap l.length 8 (by decide) (by decide) (by omega) hcap hDs _ (bS.alloc _).cell bN.cell (.inr (.inl rfl)) (.inr (.inr rfl)) (by intro k hk; have hk' : k < w'.heap.size ∨ k = w'.heap.size + 1 ∨ k = w'.heap.size + 1 + 1 := hk; simp; omega))
    keepS_t (keepS_b (by intro k hk; have hk' : k < w'.heap.size ∨ k = w'.heap.size + 1 ∨ k = w'.heap.size + 1 + 1 := hk; simp; omega)) (Below.refl _ _) (fun _ => rfl)
    (fun pre W => ((Boxed W (w'.heap.size + 1) 23 (.slice D l.length cap) ∧ Boxed W (w'.heap.size + 1 + 1) 3 (.int .i64 8)) ∧ ∃ A c, Boxed W w'.heap.size 23 (.slice A pre.length c) ∧ W.ownsRow w'.heap.size 5 1 (.slice A pre.length c) pre.length (bytesV (pre.map (chunkByte l)))) ∧ Below w'.heap.size w' W)
    (fun _ _ _ => False)
    (OwnFrom.and (Own.from (fun s A B row hs hg hr => by
      obtain ⟨⟨hb1, hb2⟩, Aa, c, hb, ho⟩ := hs
      refine ⟨⟨hb1.kept hg (fun e' => by obtain ⟨o, ho', hc'⟩ := hr _ e'.symm; rw [show A.heap[_]? = _ from hb1] at ho'; cases ho'; cases hc'), hb2.kept hg (fun e' => by obtain ⟨o, ho', hc'⟩ := hr _ e'.symm; rw [show A.heap[_]? = _ from hb2] at ho'; cases ho'; cases hc')⟩,
        Aa, c, hb.kept hg (fun e' => by obtain ⟨o, ho', hc'⟩ := hr _ e'.symm; rw [show A.heap[_]? = _ from hb] at ho'; cases ho'; cases hc'), ho.kept hg ?_⟩
      by_cases hn : (Value.slice Aa s.length c).ownBlock = none
      · exact .inl hn
      · refine .inr fun e' => ?_
        rcases ho.2 with ⟨h', _⟩ | ⟨g, cp, cur, h', _, hgg, _⟩
        · rw [h'] at hn; exact hn rfl
        · rw [h'] at e'
          obtain ⟨o, ho', hc'⟩ := hr _ e'.symm
          rw [hgg] at ho'; cases ho'; cases hc') _) (ownFrom_below (Nat.le_refl _) (by simp; omega)))
    (fun _ _ _ _ _ hs _ _ => hs)
    ⟨⟨⟨bS.alloc _, bN⟩, none, 0, (bO.alloc _).alloc _, by simpa [bytesV] using World.ownsRow_nil _ _ _ _⟩, hB0⟩
    (fun x => { tmps := #[.slice D l.length cap, undef, .slice none 0 0, .int .i64 0, .int .i64 0, .pointer (some ⟨w'.heap.size, 0, none⟩), .slice (D.map (·.add (clamp 8 l.length x * 8))) (partLen 8 l.length (clamp 8 l.length x)) (partLen 8 l.length (clamp 8 l.length x)), undef, .slice D l.length cap, .int .i64 0, .int .i64 0, .bool false, undef, .slice D l.length cap, .int .i64 l.length, .int .i64 0, .bool false, .slice D l.length cap,
        .func (.func 270) #[] #[.pointer (some ⟨w'.heap.size + 1, 0, none⟩), .pointer (some ⟨w'.heap.size + 1 + 1, 0, none⟩)], .slice (D.map (·.add (clamp 8 l.length x * 8))) (partLen 8 l.length (clamp 8 l.length x)) (partLen 8 l.length (clamp 8 l.length x)), undef, undef, undef, undef, undef, undef, undef, undef, undef], defers := [] }) ?assign ?body ?done ?stop
  case assign =>
    intro lp x W K hK
    simp only [encC, encC0]
    gi_wp2
    exact hK
  case body =>
    rintro lp pre x W ⟨⟨⟨hbs, hbn⟩, A, c, hb, ho⟩, hB⟩ hlt
    have hq0 : 0 < q := by omega
    have hDs' : ∃ ad, D = some ad := hDs (by rw [HQ.out]; omega)
    obtain ⟨ad, rfl⟩ := hDs'
    have hrw := (HR.out).kept hB
    have hrt := (hrw.drop (8 * clamp 8 l.length x)).take 8
    have hcb : chunkByte l x = UInt8.ofNat (num ((l.drop (8 * clamp 8 l.length x)).take 8)) := rfl
    have hq' := HQ.out
    have hy : clamp 8 l.length x < q := by unfold clamp; omega
    have hpl : partLen 8 l.length (clamp 8 l.length x) = 8 := by unfold partLen; omega
    have hpart : ((l.drop (8 * clamp 8 l.length x)).take 8).length = 8 := by simp; omega
    rw [hpl]
    generalize clamp 8 l.length x = y at *
    obtain ⟨part, hpd⟩ : ∃ part, part = (l.drop (8 * y)).take 8 := ⟨_, rfl⟩
    rw [← hpd] at hcb hpart
    have hrp : Rd W (some (ad.add (y * 8))) (bitsV part) := by
      rw [hpd, Nat.mul_comm y 8]
      simpa [bitsV, List.map_take, List.map_drop] using hrt
    clear hpd hrt hrw hy hpl
    have hnum := each_num W.heap.size W.heap.size (some (ad.add (y * 8))) 8 part (W.alloc (.cells #[.int .u64 0] 292)) (heap_alloc_new W _) (hrp.kept ((Below.refl _ _).alloc (Nat.le_refl _) _)) (fun ad' e hne => by cases e; exact hrp.lt (by simpa [bitsV] using hne)) (Nat.le_refl _) (by omega)
    rw [hpart] at hnum
    have HRP := Lib.hid hrp
    clear hrp
    gi_wp2_with fail
    refine ⟨fun _ => by omega, ?_⟩; refine (CallsIn.inRound lp ((callsIn_wide (n := m - 1 - 1 - 1)).2 hnum)).mono ?_; rintro e w2 ⟨rfl, hB2, hb2⟩
    have hBW : Below W.heap.size W w2 := ((Below.refl _ _).alloc (Nat.le_refl _) _).trans hB2
    have hco : w2.cell? ⟨w'.heap.size, 0, none⟩ = some (.slice A pre.length c) := (hBW.cell (p := ⟨w'.heap.size, 0, none⟩) hb.lt).trans hb.cell
    have hfo : w2.frozen? ⟨w'.heap.size, 0, none⟩ = false := (hBW.frozen (p := ⟨w'.heap.size, 0, none⟩) hb.lt).trans hb.frozen
    have hcn : w2.cell? ⟨W.heap.size, 0, none⟩ = some (.int .u64 (num part : Nat)) := cell_of_one hb2
    have ho2 := own_kept ho hBW
    have hnl : num part < 256 := by have := num_lt part; rw [hpart] at this; exact this
    clear hnum hck bS bN hB0 hDs hB2
    have hb2' : Below w'.heap.size w' w2 := hB.trans (hBW.mono hB.size)
    have hml : (bytesV (pre.map (chunkByte l))).length = pre.length := by simp [bytesV]
    have hmk : bytesV (pre.map (chunkByte l)) ++ [.int .u8 (num part : Nat)] = bytesV ((pre ++ [x]).map (chunkByte l)) := by
      rw [List.map_append, List.map_cons, hcb]
      have : (UInt8.ofNat (num part)).toNat = num part := by simp; omega
      simp [bytesV, byV, this]
    clear hcb
    generalize bytesV (pre.map (chunkByte l)) = bs at *
    rw [← hml] at ho2 hco hlt
    have HMK := Lib.hid hmk
    have HML := Lib.hid hml
    have hbo2 : Boxed w2 w'.heap.size 23 (.slice A bs.length c) := by rw [hml]; exact blk_kept hb hBW
    have hbs2 := blk_kept hbs hBW
    have hbn2 := blk_kept hbn hBW
    have HB0 := Lib.hid hbo2
    have HBS := Lib.hid hbs2
    have HBN := Lib.hid hbn2
    have HBW := Lib.hid hBW
    have HS1 := Lib.hid hbs
    have HN1 := Lib.hid hbn
    clear hmk hml hq0 hb ho hbs hbn hbo2 hbs2 hbn2
    gi_wp2_with (gi_at_builtin; refine ap1In w'.heap.size rfl _ _ _ _ _ _ rfl Tryz.underlying23 info5 rfl (by decide) (.slice A bs.length c) bs (.int .u8 (num part : Nat)) rfl rfl (by simp [Value.oneCell']) ho2 hb2' (by have := hb2'.size; omega) (by omega) ?_; intro A2 c2 w3 hO3 hB3 hg3 _; have hco3 := (show Boxed w3 w'.heap.size 23 (.slice A bs.length c) from blk_grown HB0.out hg3 (own_ne ho2 HB0.out (by decide))).cell; have hfo3 := (show Boxed w3 w'.heap.size 23 (.slice A bs.length c) from blk_grown HB0.out hg3 (own_ne ho2 HB0.out (by decide))).frozen)
    have hno := own_ne ho2 HB0.out (by decide)
    have hns := own_ne ho2 HBS.out (by decide)
    have hnn := own_ne ho2 HBN.out (by decide)
    have hbo3 : Boxed w3 w'.heap.size 23 (.slice A bs.length c) := blk_grown HB0.out hg3 hno
    have hbs3 := blk_grown HBS.out hg3 hns
    have hbn3 := blk_grown HBN.out hg3 hnn
    have hko : KeepsOthers W w3 := (keepsOthers_of_below HBW.out).trans (KeepsOthers.of_grownBy hg3 (fun j o hj ho' => by
      rcases ho2.2 with ⟨h', _⟩ | ⟨g, cp, cur, h', _, hgg, _⟩
      · rw [h'] at hj; cases hj
      · rw [h'] at hj; cases hj; rw [hgg] at ho'; cases ho'; rfl))
    have hks : KeepS (fun k => k < w'.heap.size ∨ k = w'.heap.size + 1 ∨ k = w'.heap.size + 1 + 1) W w3 := by
      intro k hk
      rcases hk with hk | hk | hk
      · exact (hB3.block k hk).trans (hB.block k hk).symm
      · subst hk; exact hbs3.trans HS1.out.symm
      · subst hk; exact hbn3.trans HN1.out.symm
    have hlen : (pre ++ [x]).length = bs.length + 1 := by rw [List.length_append, HML.out]; rfl
    have hnw : Boxed w3 w'.heap.size 23 (.slice A bs.length c) := hbo3
    refine ⟨(hko.trans (KeepsOthers.setCell _ _ _)).from _, keepS_t hks (keepS_set _ _ _ (by simp; omega)), ⟨⟨blk_other hbs3 _ _ (by simp), blk_other hbn3 _ _ (by simp; omega)⟩, A2, c2, ?_, ?_⟩, hB3.setCell (p := ⟨w'.heap.size, 0, none⟩) (by simp) _⟩
    · rw [hlen]; exact hbo3.set _
    · rw [hlen, ← HMK.out]
      exact hO3.kept (grownBy_setCell' _ _ _) (.inr (own_ne hO3 hbo3 (by decide)))
  case done =>
    rintro Dd ys W hD rfl ⟨⟨_, A, c, hb, ho⟩, hB⟩ hK
    have hps : pack l = (upto (fun k : Nat => k) q).map (chunkByte l) := by
      rw [pack_eq l q HQ.out q (Nat.le_refl _), List.take_of_length_le (by have := HQ.out; omega)]
    have hc := hb.cell
    have HB1 := Lib.hid hb
    have HO := Lib.hid ho
    rw [hNq] at *
    have HP := Lib.hid hps
    clear hb ho hps
    gi_wp2
    refine ⟨by simp, .inl ⟨_, _, rfl, run_takeDeferred hK, ?_⟩⟩
    have hlen : (bytesV (pack l)).length = (upto (fun k : Nat => k) q).length := by rw [HP.out]; simp [bytesV]
    refine ⟨.tuple #[.slice A (upto (fun k : Nat => k) q).length c, .int .i64 0], by simp [results, Tryz.results252, go_sem], A, c, by rw [hlen], ?_, hB.trans (belowK_b (w := w') (Nat.le_refl _) W Dd _ _ (by simp at hD; omega) hK rfl rfl)⟩
    rw [hlen, HP.out]
    refine HO.out.kept (grownBy_putObj' W Dd _) (.inr fun e => ?_)
    rcases HO.out.2 with ⟨h', _⟩ | ⟨g, cp, cur, h', _, hgg, _⟩
    · rw [h'] at e; cases e
    · rw [h'] at e; cases e; rw [hgg] at hK; cases hK
  case stop =>
    rintro Dd c pre W _ _ h _
    exact h.elim
/-- bits.Pack as any call. -/
theorem pack_any (D : Option Addr) (cap q : Nat) (l : List Bool) (hq : l.length = 8 * q) (hl : l.length ≤ 65536) (hcap : l.length ≤ cap) (w : World) (hr : Rd w D (bitsV l)) :
    Calls Tryz.prog 252 #[.slice D l.length cap] w (Row2Post 5 w.heap.size (bytesV (pack l)) w) :=
  (callsIn_wide (n := 3)).1 (pack_in 3 (Nat.le_refl _) D cap q l hq hl hcap w hr)
end Go.Proofs.YtnfnjmllgklaaaaGreat
