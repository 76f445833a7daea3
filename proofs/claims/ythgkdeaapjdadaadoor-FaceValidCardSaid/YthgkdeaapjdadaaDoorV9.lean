/- Contract of font.Valid at the built-in font. -/
import Derived.Test.YthgkdeaapjdadaaDoorV8
import Derived.Test.YthgkdeaapjdadaaDoorQS
import Derived.StillTailTactics
import Derived.Deep.RegionHeldLaw
import Derived.Maps.Own
namespace Go.Proofs.YthgkdeaapjdadaaDoor
open Go.RowKit Go.Maps

/-- the stretches lie in block g -/
structure SRow (w : World) (g : Nat) : Prop where
  lt : g < w.heap.size
  at_ : ∀ i (hi : i < largeN.length), ∃ sb pb, w.cell? ⟨g, i * 4, none⟩ = some (.string ⟨largeN[i].toArray⟩) ∧ w.cell? ⟨g, i * 4 + 1, none⟩ = some (.slice (some ⟨sb, 0, none⟩) 4 4) ∧ w.cell? ⟨g, i * 4 + 2, none⟩ = some (pv largeN[i] pb) ∧ w.cell? ⟨g, i * 4 + 3, none⟩ = some (.int .i64 (ov largeN[i])) ∧ StBlk w ⟨largeN[i], sb, pb⟩
theorem SRow.below {w w' : World} {g : Nat} (h : SRow w g) (hb : Below w.heap.size w w') : SRow w' g :=
  ⟨Nat.lt_of_lt_of_le h.lt hb.size, fun i hi => by
    obtain ⟨sb, pb, h0, h1, h2, h3, h4⟩ := h.at_ i hi
    exact ⟨sb, pb, (hb.cell (p := ⟨g, _, none⟩) h.lt).trans h0, (hb.cell (p := ⟨g, _, none⟩) h.lt).trans h1, (hb.cell (p := ⟨g, _, none⟩) h.lt).trans h2, (hb.cell (p := ⟨g, _, none⟩) h.lt).trans h3, h4.below hb⟩⟩
/-- what holds in the loops of Valid -/
structure VI (w wr : World) (F B b k : Nat) (cs : Array Value) : Prop where
  bl : Below w.heap.size w wr
  fc : wr.heap[F]? = some (.cells cs 29)
  mp : HMap wr B k
  mc : wr.heap[b]? = some (.cells #[.map (some B)] 69)
  ge : w.heap.size ≤ B
section
variable {w wr wr' : World} {F B b k : Nat} {cs : Array Value}
theorem VI.below (h : VI w wr F B b k cs) (hb : Below wr.heap.size wr wr') : VI w wr' F B b k cs :=
  ⟨h.bl.trans (hb.mono h.bl.size), (hb.block _ (blk_lt h.fc)).trans h.fc, h.mp.below hb, (hb.block _ (blk_lt h.mc)).trans h.mc, h.ge⟩
theorem VI.more (h : VI w wr F B b k cs) (hk : k < GF.length) (hm : wr'.ownsMap Tryd.prog 9 (plainElem (H := Unit) Tryd.prog 3) B (k + 1) ((hD (GF.take k)).put (.string GF[k].name) (hgt GF[k]))) (hg : wr.grownBy wr' (some B)) : VI w wr' F B b (k + 1) cs := by
  have hlt := h.mp.lt
  have hBm : ∃ es clock, wr.heap[B]? = some (.map es clock) := by obtain ⟨es, clock, hb, _⟩ := h.mp; exact ⟨es, clock, hb⟩
  obtain ⟨es, clock, hB⟩ := hBm
  refine ⟨h.bl.grown hg h.bl.size (fun j hj => by cases hj; exact h.ge), ?_, ?_, ?_, h.ge⟩
  · refine (hg.block F (blk_lt h.fc) fun e => ?_).trans h.fc
    cases e
    exact absurd h.fc (by rw [hB]; simp)
  · unfold HMap
    rw [List.take_succ_eq_append_getElem hk, hD_snoc]
    exact hm
  · refine (hg.block b (blk_lt h.mc) fun e => ?_).trans h.mc
    cases e
    exact absurd h.mc (by rw [hB]; simp)
end
theorem run_makeMap_hint {P : Program} (t k e : TypeId) (kd : IntKind) (n : Int) (ht : P.underlying t = some (.map k e)) (w : World) :
    (Instr.makeMap t (some (.int kd n))).run P w = .ok (.map (some w.heap.size)) (w.alloc (.map #[] 0)) := by
  simp [Instr.makeMap, run_underlying ht]; rfl
/-- the glyphs of the font are in order -/
def gOk (g : Gl) : Bool := nameOk g.name && decide (0 ≤ g.w) && decide (g.w ≤ 20000) && decide (0 ≤ g.h) && decide (g.h ≤ 20000) && decide (-20000 ≤ g.d) && decide (g.d ≤ 20000) && decide (-20000 ≤ g.it) && decide (g.it ≤ 20000) && decide (-20000 ≤ g.at_) && decide (g.at_ ≤ 20000)
theorem gf_all : GF.all gOk = true := by decide +kernel
theorem gf_ok (k : Nat) (h : k < GF.length) : nameOk GF[k].name = true ∧ (0 ≤ GF[k].w ∧ GF[k].w ≤ 20000) ∧ (0 ≤ GF[k].h ∧ GF[k].h ≤ 20000) ∧ (-20000 ≤ GF[k].d ∧ GF[k].d ≤ 20000) ∧ (-20000 ≤ GF[k].it ∧ GF[k].it ≤ 20000) ∧ (-20000 ≤ GF[k].at_ ∧ GF[k].at_ ≤ 20000) := by
  have := List.all_eq_true.1 gf_all _ (List.getElem_mem h)
  unfold gOk at this
  simp only [Bool.and_eq_true, decide_eq_true_eq] at this
  obtain ⟨⟨⟨⟨⟨⟨⟨⟨⟨⟨h1, h2⟩, h3⟩, h4⟩, h5⟩, h6⟩, h7⟩, h8⟩, h9⟩, h10⟩, h11⟩ := this
  exact ⟨h1, ⟨h2, h3⟩, ⟨h4, h5⟩, ⟨h6, h7⟩, ⟨h8, h9⟩, ⟨h10, h11⟩⟩
theorem gf_new (k : Nat) (h : k < GF.length) : findG (GF.take k) GF[k].name = none := by
  unfold findG
  rw [List.find?_eq_none]
  intro g hg
  obtain ⟨j, hj, rfl⟩ := List.mem_iff_getElem.1 hg
  rw [List.length_take] at hj
  rw [List.getElem_take]
  have := gf_apart j k (by omega) h (by omega)
  simpa using this
theorem key_nm (nm : List UInt8) (h : nm.length ≤ 1000) : keyOf Tryd.prog 9 (.string ⟨nm.toArray⟩) = some (.string nm) := by
  have hs : (⟨nm.toArray⟩ : ByteArray).size ≤ maxLen := by
    have : (⟨nm.toArray⟩ : ByteArray).size = nm.length := by simp [ByteArray.size]
    unfold maxLen; omega
  have := Go.WideMaps.keyOf_string_mk (P := Tryd.prog) (k := 9) Tryd.underlying9 hs
  simpa using this
def pnL (n : List UInt8) (k : Nat) : List UInt8 := n ++ (if k + 1 = pk n then [116, 111, 112] else if k % 2 = 0 then [98, 111, 116] else [101, 120, 116])
theorem pnm_L (n : List UInt8) (k : Nat) : pnm n k = ⟨(pnL n k).toArray⟩ := by
  unfold pnm pnL
  split
  · exact cat n [116, 111, 112]
  · split
    · exact cat n [98, 111, 116]
    · exact cat n [101, 120, 116]
def hvOk (n : List UInt8) : Bool := (findG GF n).isSome && decide (51 ≤ hv GF n) && decide (hv GF n ≤ 20000) && decide (n.length ≤ 1000)
def stOk (n : List UInt8) : Bool := nameOk n && (List.range 4).all (fun k => (findG GF (sizeN n k)).isSome && decide (hv GF (sizeN n k) = 1000 + 600 * (k : Int)) && decide ((sizeN n k).length ≤ 1000)) && (!asmN.contains n || (List.range (pk n)).all (fun k => hvOk (pnL n k))) && !pbm n 0 && pbm n 1 && decide (3 ≤ pk n)
theorem st_all : largeN.all stOk = true := by decide +kernel
def pm (n : List UInt8) : Nat := if asmN.contains n then pk n else 0
theorem st_ok (n : List UInt8) (h : n ∈ largeN) : SOk n (pm n) (ov n) (pnL n) (pbm n) := by
  have := List.all_eq_true.1 st_all n h
  unfold stOk at this
  simp only [Bool.and_eq_true, decide_eq_true_eq, List.all_eq_true, List.mem_range, Bool.not_eq_true', Bool.or_eq_true] at this
  obtain ⟨⟨⟨⟨⟨h1, h2⟩, h3⟩, h4⟩, h5⟩, h6⟩ := this
  refine ⟨h1, fun k hk => ⟨(h2 k hk).1.1, (h2 k hk).1.2, (h2 k hk).2⟩, ?_, fun k hk => ?_, ?_⟩
  · unfold pm; split
    · exact pk_le n
    · omega
  · unfold pm at hk
    split at hk
    · rename_i hc
      rcases h3 with h3 | h3
      · rw [hc] at h3; cases h3
      · have := h3 k hk
        unfold hvOk at this
        simp only [Bool.and_eq_true, decide_eq_true_eq] at this
        exact ⟨this.1.1.1, this.1.1.2, this.1.2, this.2⟩
    · omega
  · unfold pm ov
    cases hc : asmN.contains n with
    | true => right; rw [if_pos rfl, if_pos rfl]; exact ⟨h6, rfl, h4, h5⟩
    | false => left; exact ⟨rfl, rfl⟩
/-- the parts of a stretch, as a slice -/
theorem pv_slice {w : World} (n : List UInt8) (sb pb : Nat) (h : StBlk w ⟨n, sb, pb⟩) : ∃ A c, pv n pb = .slice A (pm n) c ∧ (0 < pm n → ∃ p, A = some ⟨p, 0, none⟩ ∧ PAt w w.heap.size p (pm n) (fun k => ⟨(pnL n k).toArray⟩) (pbm n)) := by
  unfold pv pm
  cases hc : asmN.contains n with
  | true =>
    refine ⟨some ⟨pb, 0, none⟩, pk n, rfl, fun _ => ⟨pb, rfl, ?_⟩⟩
    have hb := h.pt hc
    refine ⟨blk_lt hb, fun k hk => ?_⟩
    obtain ⟨p1, p2⟩ := part_at n k hk
    rw [cell_blk hb, cell_blk hb, partC_L, List.getElem?_toArray, List.getElem?_toArray, p1, p2, pnm_L]
    exact ⟨rfl, rfl⟩
  | false => exact ⟨none, 0, rfl, fun h => absurd h (by simp)⟩
theorem gf_400 : GF.length ≤ 400 := by decide +kernel
theorem name_len {n : List UInt8} (h : nameOk n = true) : n.length ≤ 16 := by
  unfold nameOk at h
  simp only [Bool.and_eq_true, decide_eq_true_eq] at h
  exact h.1.2

set_option maxRecDepth 100000 in
set_option maxHeartbeats 4000000 in
theorem fvalid_any (gb c t sc : Nat) (w : World) (hsc : 14 ≤ sc) (hg : GR w w.heap.size (some ⟨gb, 0, none⟩) GF) (hs : SRow w t) :
    Calls Tryd.prog 18 #[.agg (rfC (.slice (some ⟨gb, 0, none⟩) GF.length c) (.slice (some ⟨t, 0, none⟩) 14 sc))] w fun e w' => e = .returned (.bool true) ∧ Below w.heap.size w w' := by
  have h400 := gf_400
  have HG := Lib.hid hg
  have HS := Lib.hid hs
  clear hg hs
  have HVP : Hid (∀ w, Calls Tryd.prog 30 #[.agg parL.toArray] w fun r w' => r = .returned (.bool true) ∧ Below w.heap.size w w') := fun w => validParams_any w
  obtain ⟨cs, hcs⟩ : ∃ cs, cs = rfC (.slice (some ⟨gb, 0, none⟩) GF.length c) (.slice (some ⟨t, 0, none⟩) 14 sc) := ⟨_, rfl⟩
  have HC := Lib.hid hcs
  rw [← hcs]
  clear hcs
  have HB1 : Hid (Below w.heap.size w (w.alloc (.cells cs 29))) := (Below.refl _ _).alloc (Nat.le_refl _) _
  have HF1 : Hid ((w.alloc (.cells cs 29)).heap[w.heap.size]? = some (.cells cs 29)) := blk_new _ _
  have HR1 : Hid ((w.alloc (.cells cs 29)).rangeAt w.heap.size 2 parL) := by
    have := HF1.out
    rw [HC.out] at this ⊢
    exact rf_range this
  have hq0 : cs[0]? = some (.slice (some ⟨gb, 0, none⟩) GF.length c) := by rw [HC.out]; rfl
  have hq1 : cs[1]? = some (.slice (some ⟨t, 0, none⟩) 14 sc) := by rw [HC.out]; rfl
  have a0 := (cell_blk HF1.out 0).trans hq0
  have a1 := (cell_blk HF1.out 1).trans hq1
  have HQ := Lib.hid (And.intro hq0 hq1)
  have HLP : Hid ((Tryd.prog.info? 27).map (·.size) = some parL.length) := by show _ = _; kernel_rfl
  clear hq0 hq1 HC
  generalize parL = pl at *
  have hmm := fun (n : Int) (w : World) => run_makeMap_hint (P := Tryd.prog) 69 9 3 .i64 n under69 w
  obtain ⟨n, hn⟩ : ∃ n, n = GF.length := ⟨_, rfl⟩
  have HN := Lib.hid hn
  rw [← hn] at h400 a0
  have hn4 : ¬ (400 : Int) < (n : Int) := by omega
  clear hn
  go_enter Tryd.func18, Tryd.ntmps18
  go_wp2_with (first | (with_reducible refine Great.wpList_boxTo rfl 29 (.tmp 0) rfl (some 1) rfl w.heap.size rfl cs rfl ?_) | (with_reducible refine wpList_load_midG rfl 27 (.tmp 24) rfl w.heap.size 2 rfl pl _ HR1.out Tryd.underlying27 rfl HLP.out ?_))
  obtain ⟨w1, hw1⟩ : ∃ w1, w1 = w.alloc (.cells cs 29) := ⟨_, rfl⟩
  rw [← hw1] at HB1 HF1 HR1 a0 a1 ⊢
  clear hw1
  refine (HVP.out _).mono ?_
  rintro e w2 ⟨rfl, hb2⟩
  have HB2 := Lib.hid (HB1.out.trans (hb2.mono HB1.out.size))
  have HF2 : Hid (w2.heap[w.heap.size]? = some (.cells cs 29)) := (hb2.block _ (blk_lt HF1.out)).trans HF1.out
  clear hb2 a0 a1 HB1 HF1 HR1
  have a0 : w2.cell? ⟨w.heap.size, 0, none⟩ = some (.slice (some ⟨gb, 0, none⟩) n c) := by rw [HN.out]; exact (cell_blk HF2.out 0).trans HQ.out.1
  have k0 : (w2.alloc (.map #[] 0)).cell? ⟨w.heap.size, 0, none⟩ = some (.slice (some ⟨gb, 0, none⟩) n c) := by
    rw [World.cell?_alloc_lt _ _ _ (blk_lt HF2.out)]; exact a0
  have k1 : ((w2.alloc (.map #[] 0)).alloc (.cells #[.map (some w2.heap.size)] 69)).cell? ⟨w.heap.size, 0, none⟩ = some (.slice (some ⟨gb, 0, none⟩) n c) := by
    rw [World.cell?_alloc_lt _ _ _ (by have := blk_lt HF2.out; simp; omega)]; exact k0
  have HV : Hid (VI w ((w2.alloc (.map #[] 0)).alloc (.cells #[.map (some w2.heap.size)] 69)) w.heap.size w2.heap.size (w2.heap.size + 1) 0 cs) := by
    refine ⟨(HB2.out.alloc HB2.out.size _).alloc (by have := HB2.out.size; simp; omega) _, heap_old (heap_old HF2.out (blk_lt HF2.out) _) (by have := blk_lt HF2.out; simp; omega) _, ?_, ?_, HB2.out.size⟩
    · have := World.ownsMap_made (H := Unit) w2 Tryd.prog 9 (plainElem Tryd.prog 3)
      exact this.alloc _
    · have := blk_new (w2.alloc (.map #[] 0)) (.cells #[.map (some w2.heap.size)] 69)
      rw [World.size_alloc] at this
      exact this
  go_wp2_with fail
  go_loopg [36] n (fun gg s36 wr => ∃ k : Nat, k ≤ n ∧ n - k ≤ gg ∧ s36 = .int .i64 k ∧ Aside (VI w wr w.heap.size w2.heap.size (w2.heap.size + 1) k cs))
  case atStart => exact ⟨0, by omega, by omega, rfl, HV.out⟩
  case round =>
    obtain ⟨k, hk, hgg, rfl, HR⟩ := hrel
    clear HV HB2 HF2 a0 k0 k1 hmm
    generalize w2.heap.size = B at *
    have a0 : wr.cell? ⟨w.heap.size, 0, none⟩ = some (.slice (some ⟨gb, 0, none⟩) n c) := by rw [HN.out]; exact (cell_blk HR.out.fc 0).trans HQ.out.1
    by_cases hlt : k < n
    · have hltz : (k : Int) < (n : Int) := by omega
      have hkG : k < GF.length := by rw [← HN.out]; exact hlt
      obtain ⟨gb', off', hA, _, hat⟩ := (HG.out.below HR.out.bl).at_ hkG
      injection hA with hA
      injection hA with hA1 hA2 _
      subst hA1 hA2
      rw [Nat.zero_add] at hat
      have HOK := Lib.hid (gf_ok k hkG)
      have HNEW := Lib.hid (gf_new k hkG)
      have HKG := Lib.hid hkG
      obtain ⟨gl, hgl⟩ : ∃ gl, gl = GF[k]'hkG := ⟨_, rfl⟩
      have HGL : Hid (∃ h : k < GF.length, gl = GF[k]'h) := ⟨hkG, hgl⟩
      rw [← hgl] at hat HOK HNEW
      clear hgl hkG
      obtain ⟨nm, gw, gh, gd, gi, ga⟩ := gl
      obtain ⟨c0, c1, c2, c3, c4, c5⟩ := hat
      simp only at c0 c1 c2 c3 c4 c5 HOK HNEW
      obtain ⟨o1, o2, o3, o4, o5, o6⟩ := HOK.out
      have hnl := name_len o1
      have O1 := Lib.hid o1
      have O2 := Lib.hid (And.intro o2 (And.intro o3 (And.intro o4 (And.intro o5 o6))))
      clear o1 o2 o3 o4 o5 o6 HOK
      have CC := Lib.hid (And.intro c0 (And.intro c1 (And.intro c2 (And.intro c3 (And.intro c4 c5)))))
      go_wp2_with fail
      refine wp_region_pre_quiet_tail 16 32 (by kernel_rfl) (by kernel_rfl) ?_
      simp only [List.take_succ_cons, List.take_zero, List.drop_succ_cons, List.drop_zero]
      obtain ⟨w3, hw3⟩ : ∃ w3 : World, w3 = { wr with drawn := wr.drawn + 1 } := ⟨_, rfl⟩
      rw [← hw3]
      have hb3 : Below wr.heap.size wr w3 := by rw [hw3]; exact ⟨rfl, rfl, rfl, Nat.le_refl _, fun _ _ => rfl⟩
      have HR3 := Lib.hid (HR.out.below hb3)
      have hlg : gb < wr.heap.size := World.block_lt_of_cell? wr _ CC.out.1
      have d0 := (hb3.cell (p := ⟨gb, k * 6, none⟩) hlg).trans CC.out.1
      have d1 := (hb3.cell (p := ⟨gb, k * 6 + 1, none⟩) hlg).trans CC.out.2.1
      have d2 := (hb3.cell (p := ⟨gb, k * 6 + 2, none⟩) hlg).trans CC.out.2.2.1
      have d3 := (hb3.cell (p := ⟨gb, k * 6 + 3, none⟩) hlg).trans CC.out.2.2.2.1
      have d4 := (hb3.cell (p := ⟨gb, k * 6 + 4, none⟩) hlg).trans CC.out.2.2.2.2.1
      have d5 := (hb3.cell (p := ⟨gb, k * 6 + 5, none⟩) hlg).trans CC.out.2.2.2.2.2
      have hlg3 : gb < w3.heap.size := Nat.lt_of_lt_of_le hlg hb3.size
      clear hw3 hb3 CC c0 c1 c2 c3 c4 c5 HR a0 hlg
      have DD := Lib.hid (And.intro d0 (And.intro d1 (And.intro d2 (And.intro d3 (And.intro d4 d5)))))
      clear d2 d3 d4 d5
      go_wp2_with fail
      refine (named_any nm _ O1.out).mono ?_
      rintro e w' ⟨rfl, rfl⟩
      have HBL1 : Hid ((w3.alloc (.cells #[.int .i64 gw] 3)).heap[w3.heap.size]? = some (.cells (([gw] : List Int).map (Value.int .i64)).toArray 3)) := blk_new _ _
      go_wp2_with fail
      refine (within_any 0 20000 w3.heap.size [gw] _ HBL1.out (by have := O2.out.1; simp; omega) (by simp)).mono ?_
      rintro e w' ⟨rfl, rfl⟩
      go_wp2_with fail
      have hb4 : Below w3.heap.size w3 (w3.alloc (.cells #[.int .i64 gw] 3)) := (Below.refl _ _).alloc (Nat.le_refl _) _
      have HR4 := Lib.hid (HR3.out.below hb4)
      obtain ⟨w4, hw4⟩ : ∃ w4 : World, w4 = w3.alloc (.cells #[.int .i64 gw] 3) := ⟨_, rfl⟩
      have e0 := (hb4.cell (p := ⟨gb, k * 6, none⟩) hlg3).trans DD.out.1
      have e2 := (hb4.cell (p := ⟨gb, k * 6 + 2, none⟩) hlg3).trans DD.out.2.2.1
      have e3 := (hb4.cell (p := ⟨gb, k * 6 + 3, none⟩) hlg3).trans DD.out.2.2.2.1
      have e4 := (hb4.cell (p := ⟨gb, k * 6 + 4, none⟩) hlg3).trans DD.out.2.2.2.2.1
      have e5 := (hb4.cell (p := ⟨gb, k * 6 + 5, none⟩) hlg3).trans DD.out.2.2.2.2.2
      have hlg4 := Nat.lt_of_lt_of_le hlg3 hb4.size
      rw [← hw4] at HR4 e0 e2 e3 e4 e5 hlg4 ⊢
      clear hb4 hw4 HR3 HBL1 DD d0 d1 hlg3
      have r2 := fun d os => cell_regrown e2 d os
      have r3 := fun d os => cell_regrown e3 d os
      have r4 := fun d os => cell_regrown e4 d os
      have r5 := fun d os => cell_regrown e5 d os
      have EE := Lib.hid (And.intro e0 (And.intro e2 e3))
      clear e0 e2 e3 e4 e5
      refine ⟨fun w' => ∃ p : Regrown, w' = Sort.grow (redrawn w4 p.d) p.os, ⟨⟨w4.drawn, #[]⟩, by rw [Sort.grow_empty]; rfl⟩, ?_⟩
      repeat (first | go_big_quiet_step (fail) | quiet_step (fail))
      refine wpQuiet_nil ?_
      intro w' hw'
      obtain ⟨⟨dq, osq⟩, hw''⟩ := hw'
      subst hw''
      have hb5 := below_regrown w4 dq osq
      have HR5 := Lib.hid (HR4.out.below hb5)
      obtain ⟨w5, hw5⟩ : ∃ w5 : World, w5 = Sort.grow (redrawn w4 dq) osq := ⟨_, rfl⟩
      have e0 := (hb5.cell (p := ⟨gb, k * 6, none⟩) hlg4).trans EE.out.1
      have e2 := (hb5.cell (p := ⟨gb, k * 6 + 2, none⟩) hlg4).trans EE.out.2.1
      have e3 := (hb5.cell (p := ⟨gb, k * 6 + 3, none⟩) hlg4).trans EE.out.2.2
      have hlg5 := Nat.lt_of_lt_of_le hlg4 hb5.size
      rw [← hw5] at HR5 e0 e2 e3 hlg5 ⊢
      clear hb5 hw5 HR4 EE r2 r3 r4 r5 hlg4
      have HBL2 : Hid ((w5.alloc (.cells #[.int .i64 gh, .int .i64 gd, .int .i64 gi, .int .i64 ga] 3)).heap[w5.heap.size]? = some (.cells (([gh, gd, gi, ga] : List Int).map (Value.int .i64)).toArray 3)) := blk_new _ _
      have hb6 : Below w5.heap.size w5 (w5.alloc (.cells #[.int .i64 gh, .int .i64 gd, .int .i64 gi, .int .i64 ga] 3)) := (Below.refl _ _).alloc (Nat.le_refl _) _
      have HB6 := Lib.hid hb6
      clear hb6
      go_wp2_with fail
      refine (within_any (-20000) 20000 w5.heap.size [gh, gd, gi, ga] _ HBL2.out (by have := O2.out.2; simp; omega) (by simp)).mono ?_
      rintro e w' ⟨rfl, rfl⟩
      have HR6 := Lib.hid (HR5.out.below HB6.out)
      have f0 := (HB6.out.cell (p := ⟨gb, k * 6, none⟩) hlg5).trans e0
      have f2 := (HB6.out.cell (p := ⟨gb, k * 6 + 2, none⟩) hlg5).trans e2
      have f3 := (HB6.out.cell (p := ⟨gb, k * 6 + 3, none⟩) hlg5).trans e3
      have hlg6 := Nat.lt_of_lt_of_le hlg5 HB6.out.size
      obtain ⟨w6, hw6⟩ : ∃ w6 : World, w6 = w5.alloc (.cells #[.int .i64 gh, .int .i64 gd, .int .i64 gi, .int .i64 ga] 3) := ⟨_, rfl⟩
      rw [← hw6] at HR6 f0 f2 f3 hlg6 ⊢
      clear hw6 HB6 HBL2 HR5 e0 e2 e3 hlg5
      have m0 : w6.cell? ⟨B + 1, 0, none⟩ = some (.map (some B)) := cell_blk HR6.out.mc 0
      have hlk : ∀ q, (Instr.lookup 69 (.map (some B)) (.string ⟨nm.toArray⟩) true).run Tryd.prog (w6.drewN q) = .ok (.tuple #[.int .i64 (hv (GF.take k) nm), .bool (findG (GF.take k) nm).isSome]) (w6.drewN q) := fun q => look_map (HR6.out.mp.below (w' := w6.drewN q) ⟨rfl, rfl, rfl, Nat.le_refl _, fun _ _ => rfl⟩) (by rw [← HN.out]; omega) nm (by omega)
      rw [HNEW.out] at hlk
      simp only [Option.isSome_none] at hlk
      generalize hv (GF.take k) nm = hx at hlk
      go_wp2_with fail
      go_quiet (fail)
      have hb7 : Below w6.heap.size w6 (w6.drewN nq) := ⟨rfl, rfl, rfl, Nat.le_refl _, fun _ _ => rfl⟩
      have HR7 := Lib.hid (HR6.out.below hb7)
      have g0 := (hb7.cell (p := ⟨gb, k * 6, none⟩) hlg6).trans f0
      have g2 := (hb7.cell (p := ⟨gb, k * 6 + 2, none⟩) hlg6).trans f2
      have g3 := (hb7.cell (p := ⟨gb, k * 6 + 3, none⟩) hlg6).trans f3
      have m1 := (hb7.cell (p := ⟨B + 1, 0, none⟩) (World.block_lt_of_cell? w6 _ m0)).trans m0
      generalize w6.drewN nq = w7 at *
      clear hb7 hlk m0 f0 f2 f3 HR6 hlg6
      go_wp2_with fail
      have r0 := fun d os => cell_regrown g0 d os
      have r2 := fun d os => cell_regrown g2 d os
      have r3 := fun d os => cell_regrown g3 d os
      have rm := fun d os => cell_regrown m1 d os
      clear g0 g2 g3 m1
      refine wp_region_quiet_tail (C := fun w' => ∃ p : Regrown, w' = Sort.grow (redrawn w7 p.d) p.os) 14 (by kernel_rfl) (by kernel_rfl) ⟨⟨w7.drawn + 1, #[]⟩, by rw [Sort.grow_empty]; rfl⟩ ?_
      simp only [List.take_succ_cons, List.take_zero, List.drop_succ_cons, List.drop_zero]
      repeat (first | go_big_quiet_step (fail) | quiet_step (fail))
      refine wpQuiet_nil ?_
      intro w' hw'
      obtain ⟨⟨dq, osq⟩, hw''⟩ := hw'
      subst hw''
      have HR8 := Lib.hid (HR7.out.below (below_regrown w7 dq osq))
      obtain ⟨w8, hw8⟩ : ∃ w8 : World, w8 = Sort.grow (redrawn w7 dq) osq := ⟨_, rfl⟩
      rw [← hw8] at HR8 ⊢
      clear hw8 HR7 r0 r2 r3 rm
      have hwr : IntKind.i64.wrap (gh + gd) = gh + gd := wrap64_of (by have := O2.out.2; omega) (by have := O2.out.2; omega)
      have HWF : Hid ((Lit.int .i64 (gh + gd)).wf = true) := by
        show (Lit.int .i64 (gh + gd)).wf = true
        have := O2.out.2
        simp [Lit.wf, IntKind.min, IntKind.max, IntKind.signed, IntKind.bits]; omega
      have HKEY := Lib.hid (key_nm nm (by omega))
      have hwr64 : wrap64 (gh + gd) = gh + gd := by have := O2.out.2; unfold wrap64; omega
      first | rw [hwr] | rw [hwr64] | skip
      refine wpList_mapUpdate_own _ rfl _ _ _ 69 rfl 9 3 law9 under69 _ B k (hD (GF.take k)) rfl HR8.out.mp (by unfold maxLen; omega) _ _ (.string nm) rfl rfl HKEY.out (.lit (.int .i64 (gh + gd))) [] (plainElem_int Tryd.underlying3 HWF.out) ?_
      intro w9 hown hgrow
      have HR9 : Hid (VI w w9 w.heap.size B (B + 1) (k + 1) cs) := by
        obtain ⟨hk', hgl⟩ := HGL.out
        exact HR8.out.more hk' (by rw [← hgl]; exact hown) hgrow
      clear hown hgrow HR8 hwr hwr64
      go_wp2_with fail
      go_roundg (n - (k + 1))
      case measure => omega
      case rel => exact ⟨k + 1, by omega, by omega, by go_num, HR9.out⟩
    · have hltz : ¬ (k : Int) < (n : Int) := by omega
      obtain rfl : k = n := by omega
      rw [HN.out] at HR
      have m0 : wr.cell? ⟨w.heap.size, 1, none⟩ = some (.slice (some ⟨t, 0, none⟩) 14 sc) := (cell_blk HR.out.fc 1).trans HQ.out.2
      clear HN h400 hk hgg hn4
      go_wp2_with fail
      obtain ⟨w9, hw9⟩ : ∃ w9, w9 = wr := ⟨_, rfl⟩
      rw [← hw9] at HR ⊢
      clear hw9 a0 m0
      go_loopg [108] 14 (fun gg s108 wq => ∃ i : Nat, i ≤ 14 ∧ 14 - i ≤ gg ∧ s108 = .int .i64 i ∧ Aside (VI w wq w.heap.size B (B + 1) GF.length cs))
      case atStart => exact ⟨0, by omega, by omega, rfl, HR.out⟩
      case round =>
        obtain ⟨i, hi, hgg, rfl, HRi⟩ := hrel
        by_cases hil : i < 14
        · have hiz : (i : Int) < 14 := by omega
          have HSr := HS.out.below HRi.out.bl
          obtain ⟨sb, pb, h0, h1, h2, h3, h4⟩ := HSr.at_ i (show i < 14 from hil)
          have hmem : largeN[i]'(show i < 14 from hil) ∈ largeN := List.getElem_mem _
          obtain ⟨A, pc, hpv, hPP⟩ := pv_slice _ sb pb h4
          have HOK := Lib.hid (st_ok _ hmem)
          have HSA := Lib.hid (sizes_at h4.sz)
          have HNI : Hid (∀ j (hj : j < 14), j < i → largeN[j]'hj ≠ largeN[i]'(show i < 14 from hil)) := fun j hj hji => by
            have := large_ne j i hj hil (by omega)
            rw [getD_at largeN j (show j < largeN.length from hj), getD_at largeN i (show i < largeN.length from hil)] at this
            exact this
          obtain ⟨ni, hni⟩ : ∃ ni, ni = largeN[i]'(show i < 14 from hil) := ⟨_, rfl⟩
          rw [hpv] at h2
          rw [← hni] at h0 h2 h3 HOK HSA hPP HNI
          have HPP := Lib.hid hPP
          have htl : t < wr.heap.size := HSr.lt
          have hb10 : Below wr.heap.size wr (wr.alloc (.cells #[.string ⟨ni.toArray⟩, .slice (some ⟨sb, 0, none⟩) 4 4, .slice A (pm ni) pc, .int .i64 (ov ni)] 43)) := (Below.refl _ _).alloc (Nat.le_refl _) _
          have HB10 := Lib.hid hb10
          have HBK : Hid ((wr.alloc (.cells #[.string ⟨ni.toArray⟩, .slice (some ⟨sb, 0, none⟩) 4 4, .slice A (pm ni) pc, .int .i64 (ov ni)] 43)).heap[wr.heap.size]? = some (.cells #[.string ⟨ni.toArray⟩, .slice (some ⟨sb, 0, none⟩) 4 4, .slice A (pm ni) pc, .int .i64 (ov ni)] 43)) := blk_new _ _
          clear hni hmem hpv hPP h4 hb10 HSr
          obtain ⟨m, hm⟩ : ∃ m, m = pm ni := ⟨_, rfl⟩
          obtain ⟨o, ho⟩ : ∃ o, o = ov ni := ⟨_, rfl⟩
          rw [← hm, ← ho] at HOK HB10 HBK
          rw [← hm] at h2 HPP
          rw [← ho] at h3
          clear hm ho
          go_wp2_with fail
          have HR10 := Lib.hid (HRi.out.below HB10.out)
          obtain ⟨w10, hw10⟩ : ∃ w10, w10 = wr.alloc (.cells #[.string ⟨ni.toArray⟩, .slice (some ⟨sb, 0, none⟩) 4 4, .slice A m pc, .int .i64 o] 43) := ⟨_, rfl⟩
          have HS10 : Hid (SAt w10 w10.heap.size sb ni) := by
            rw [← hw10] at HB10
            exact ⟨Nat.lt_of_lt_of_le HSA.out.1 HB10.out.size, (HSA.out.below HB10.out).2⟩
          have HP10 : Hid (0 < m → ∃ p, A = some ⟨p, 0, none⟩ ∧ PAt w10 w10.heap.size p m (fun k => ⟨(pnL ni k).toArray⟩) (pbm ni)) := fun h => by
            rw [← hw10] at HB10
            obtain ⟨p, e, hp⟩ := HPP.out h
            exact ⟨p, e, (hp.below HB10.out).more HB10.out.size⟩
          rw [← hw10] at HB10 HBK HR10 ⊢
          refine (vst_any ni sb A m pc o (pnL ni) (pbm ni) (B + 1) B _ HOK.out HS10.out HP10.out (blk_lt HR10.out.mc) (cell_blk HR10.out.mc 0) HR10.out.mp).mono ?_
          rintro e w11 ⟨rfl, hb11⟩
          have HR11 := Lib.hid (HR10.out.below hb11)
          have HBK11 : Hid (w11.heap[wr.heap.size]? = some (.cells #[.string ⟨ni.toArray⟩, .slice (some ⟨sb, 0, none⟩) 4 4, .slice A m pc, .int .i64 o] 43)) := (hb11.block _ (blk_lt HBK.out)).trans HBK.out
          have hi14 : i ≤ sc := by omega
          have q1 : w11.cell? ⟨w.heap.size, 1, none⟩ = some (.slice (some ⟨t, 0, none⟩) 14 sc) := (cell_blk HR11.out.fc 1).trans HQ.out.2
          clear hb11 hw10 HR10 HB10 HBK HS10 HP10 HPP HSA HOK HRi h0 h1 h2 h3 htl
          obtain ⟨S, hS⟩ : ∃ S, S = wr.heap.size := ⟨_, rfl⟩
          rw [← hS] at HBK11 ⊢
          clear hS
          go_wp2_with fail
          clear q1
          go_loopg [122] i (fun gg s122 wq => ∃ j : Nat, j ≤ i ∧ i - j ≤ gg ∧ s122 = .int .i64 j ∧ Aside (Below w11.heap.size w11 wq))
          case atStart => exact ⟨0, by omega, by omega, rfl, Below.refl _ _⟩
          case round =>
            obtain ⟨j, hj, hgg3, rfl, HBq⟩ := hrel
            have HRq := Lib.hid (HR11.out.below HBq.out)
            by_cases hji : j < i
            · have hjz : (j : Int) < (i : Int) := by omega
              have HSq := HS.out.below HRq.out.bl
              obtain ⟨sb2, pb2, h0, h1, h2, h3, _⟩ := HSq.at_ j (show j < 14 by omega)
              have hne := HNI.out j (by omega) hji
              have z0 : wr.cell? ⟨S, 0, none⟩ = some (.string ⟨ni.toArray⟩) := by
                rw [cell_blk ((HBq.out.block _ (blk_lt HBK11.out)).trans HBK11.out) 0]; rfl
              obtain ⟨nj, hnj⟩ : ∃ nj, nj = largeN[j]'(show j < 14 by omega) := ⟨_, rfl⟩
              rw [← hnj] at h0 h2 h3 hne
              clear hnj HSq
              obtain ⟨A2, m2, c2, hpv2⟩ : ∃ A2 m2 c2, pv nj pb2 = .slice A2 m2 c2 := by unfold pv; split; exact ⟨_, _, _, rfl⟩; exact ⟨_, _, _, rfl⟩
              rw [hpv2] at h2
              clear hpv2
              generalize ov nj = o2 at h3
              have e1 : (nj == ni) = false := by simpa using hne
              have e2 : (nj != ni) = true := by simpa using hne
              clear hne
              have hSl : S < wr.heap.size := World.block_lt_of_cell? wr _ z0
              have z1 : (wr.alloc (.cells #[.string ⟨nj.toArray⟩, .slice (some ⟨sb2, 0, none⟩) 4 4, .slice A2 m2 c2, .int .i64 o2] 43)).cell? ⟨S, 0, none⟩ = some (.string ⟨ni.toArray⟩) := by
                rw [World.cell?_alloc_lt _ _ _ hSl]; exact z0
              have HBn := Lib.hid (HBq.out.alloc HBq.out.size (.cells #[.string ⟨nj.toArray⟩, .slice (some ⟨sb2, 0, none⟩) 4 4, .slice A2 m2 c2, .int .i64 o2] 43))
              go_wp2_with fail
              go_roundg (i - (j + 1))
              case measure => omega
              case rel => exact ⟨j + 1, by omega, by omega, by go_num, HBn.out⟩
            · have hjz : ¬ (j : Int) < (i : Int) := by omega
              go_wp2_with fail
              go_roundg (14 - (i + 1))
              case measure => omega
              case rel => exact ⟨i + 1, by omega, by omega, by go_num, HRq.out⟩
        · have hiz : ¬ (i : Int) < 14 := by omega
          go_wp2_with fail
          go_ret
          exact ⟨rfl, HRi.out.bl⟩
end Go.Proofs.YthgkdeaapjdadaaDoor
