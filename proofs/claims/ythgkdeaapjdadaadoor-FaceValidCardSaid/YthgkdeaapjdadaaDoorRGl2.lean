/- Contract of the reference's glyphs: it returns the same list of glyphs as the program's. -/
import Derived.Test.YthgkdeaapjdadaaDoorRGl
import Derived.Deep.RegionHeldLaw
namespace Go.Proofs.YthgkdeaapjdadaaDoor
open Go.RowKit

/-- 'string([]byte{b})' -/
theorem conv_byte (b : Int) (w : World) : (convert 38 9 (.slice (some ⟨w.heap.size, 0, none⟩) 1 1)).run Tryd.prog (w.alloc (.cells #[.int .u8 b] 5)) = .ok (.string ⟨#[UInt8.ofNat b.toNat]⟩) (w.alloc (.cells #[.int .u8 b] 5)) := by
  rw [run_convert_bytes_string _ 38 9 5 _ _ _ Tryd.underlying38 Tryd.underlying5 Tryd.underlying9]
  rw [run_bytesToString _ _ _ _ [b] (by simp [loadCells, go_sem])]
  rfl
/-- the row of glyphs beside block bb -/
structure Gr (w0 w : World) (v : Value) (l : List Gl) (N : Nat) (ns : List (List UInt8)) : Prop where
  own : w.ownsRow w0.heap.size 32 6 v l.length (gcells l)
  bel : Below w0.heap.size w0 w
  nam : w.heap[N]? = some (.cells (strC ns) 9)
theorem Gr.below {w0 w w' : World} {v : Value} {l : List Gl} {N : Nat} {ns : List (List UInt8)} (h : Gr w0 w v l N ns) (hb : Below w.heap.size w w') : Gr w0 w' v l N ns :=
  ⟨own_below h.own hb, h.bel.trans (hb.mono h.bel.size), (hb.block _ (blk_lt h.nam)).trans h.nam⟩
theorem Gr.grown {w0 w w' : World} {v v' : Value} {l l' : List Gl} {N : Nat} {ns : List (List UInt8)} (h : Gr w0 w v l N ns) (hg : w.grownBy w' v.ownBlock) (ho : w'.ownsRow w0.heap.size 32 6 v' l'.length (gcells l')) : Gr w0 w' v' l' N ns :=
  ⟨ho, h.bel.grown hg h.bel.size (fun k hk => (h.own.lt k hk).1), by
    refine (hg.block _ (blk_lt h.nam) fun e => ?_).trans h.nam
    obtain ⟨cs', fr', he⟩ := own_type h.own e.symm
    rw [h.nam] at he; cases he⟩
/-- a block of one glyph that is not the row's -/
theorem Gr.blk {w0 w w' : World} {v : Value} {l : List Gl} {N bb : Nat} {ns : List (List UInt8)} {o : Obj} (_h : Gr w0 w v l N ns) (hg : w.grownBy w' v.ownBlock) (hb : w.heap[bb]? = some o) (hne : v.ownBlock ≠ some bb) : w'.heap[bb]? = some o :=
  (hg.block _ (blk_lt hb) fun e => hne e.symm).trans hb

theorem conv_byteD (b : Int) (w : World) : (convert 38 9 (.slice (some ⟨w.heap.size, 0, none⟩) 1 1)).run Tryd.prog (w.alloc (.cells #[.int .u8 b] 5)).drew = .ok (.string ⟨#[UInt8.ofNat b.toNat]⟩) (w.alloc (.cells #[.int .u8 b] 5)).drew := conv_byte b w.drew
theorem src_drew (w : World) (cs : List Value) (t : TypeId) : ∀ j u, cs[j]? = some u → ((w.alloc (.cells cs.toArray t)).drew).cell? ((⟨w.heap.size, 0, none⟩ : Addr).add j) = some u := by
  intro j u hu
  show (w.alloc (.cells cs.toArray t)).cell? _ = _
  rw [addr_add', Nat.zero_add, cell_blk (blk_new w _) j]
  simpa using hu
theorem Gr.after {w0 wr W w7 : World} {u v' : Value} {l l2 : List Gl} {N : Nat} {ns : List (List UInt8)} (h : Gr w0 wr u l N ns) (hb : Below wr.heap.size wr W) (hg : W.grownBy w7 u.ownBlock) {m : Nat} {news : List Value} (hm : m = l2.length) (hn : news = gcells l2) (ho : w7.ownsRow w0.heap.size 32 6 v' (l.length + m) (gcells l ++ news)) : Gr w0 w7 v' (l ++ l2) N ns :=
  (h.below hb).grown hg (by rw [gcells_append, List.length_append]; subst hm hn; exact ho)
theorem blk_after {wr W w7 : World} {u : Value} {bb : Nat} {o : Obj} (hb : Below wr.heap.size wr W) (hg : W.grownBy w7 u.ownBlock) (ho : wr.heap[bb]? = some o) (hne : u.ownBlock ≠ some bb) : w7.heap[bb]? = some o :=
  (hg.block _ (Nat.lt_of_lt_of_le (blk_lt ho) hb.size) fun e => hne e.symm).trans ((hb.block _ (blk_lt ho)).trans ho)
theorem ne_after {wr W : World} {u : Value} {bb g n cap : Nat} {o : Obj} (hb : Below wr.heap.size wr W) (ho : wr.heap[bb]? = some o) (hne : u.ownBlock ≠ some bb) (hat : u.ownBlock = some g ∨ g = W.heap.size) : (Value.slice (some ⟨g, 0, none⟩) n cap).ownBlock ≠ some bb := by
  intro e
  have e' : g = bb := by simpa [Value.ownBlock] using e
  subst e'
  rcases hat with h | h
  · exact hne h
  · have := blk_lt ho; have := hb.size; omega
theorem gset (M R : List Gl) (a : Gl) : (gcells (M ++ a :: R)).set (M.length * 6 + 5) (.int .i64 (a.w / 2)) = gcells (M ++ att a :: R) := by
  rw [gcells_append, gcells_append, gcells_cons, gcells_cons, List.set_append_right _ _ (by rw [gcells_len]; omega), gcells_len, show M.length * 6 + 5 - M.length * 6 = 5 from by omega]
  rfl
theorem att_len (L : List Gl) (k : Nat) (h : k < L.length) : ((L.take k).map att).length = k := by rw [List.length_map, List.length_take]; omega
theorem att_step (L : List Gl) (k : Nat) (h : k < L.length) : (gcells ((L.take k).map att ++ L.drop k)).set (k * 6 + 5) (.int .i64 (L[k].w / 2)) = gcells ((L.take (k + 1)).map att ++ L.drop (k + 1)) := by
  have := gset ((L.take k).map att) (L.drop (k + 1)) L[k]
  rw [att_len L k h] at this
  rw [List.drop_eq_getElem_cons h, this, List.take_succ_eq_append_getElem h, List.map_append, List.append_assoc]
  rfl
theorem att_at (L : List Gl) (k : Nat) (h : k < L.length) : ((L.take k).map att ++ L.drop k)[k]? = some L[k] := by
  rw [List.getElem?_append_right (by rw [att_len L k h]; omega), att_len L k h, Nat.sub_self, List.drop_eq_getElem_cons h]; rfl
theorem att_cell (L : List Gl) (k : Nat) (h : k < L.length) : (gcells ((L.take k).map att ++ L.drop k))[k * 6 + 1]? = some (.int .i64 L[k].w) := by
  rw [gcells_at _ k 1 L[k] (att_at L k h) (by omega)]; rfl
theorem att_cell5 (L : List Gl) (k : Nat) (h : k < L.length) : (gcells ((L.take k).map att ++ L.drop k))[k * 6 + 5]? = some (.int .i64 L[k].at_) := by
  rw [gcells_at _ k 5 L[k] (att_at L k h) (by omega)]; rfl
theorem wrap64_of {x : Int} (h0 : -1000000 ≤ x) (h1 : x ≤ 1000000) : IntKind.i64.wrap x = x := by
  rw [IntKind.wrap_i64]; omega
theorem wrap8_of {x : Int} (h0 : 0 ≤ x) (h1 : x ≤ 255) : IntKind.u8.wrap x = x := by
  rw [IntKind.wrap_u8]; omega

set_option maxRecDepth 100000 in
set_option maxHeartbeats 8000000 in
theorem rglyphs_any (w : World) : Calls Tryd.prog 23 #[] w (RetGl w RGF) := by
  obtain ⟨i0, hi0, hz0, hz1, hz2⟩ := info_parts gl_info
  go_enter Tryd.func23, Tryd.ntmps23
  go_wp2_with fail
  refine (basic_any _).mono ?_
  rintro e w1 ⟨v1, rfl, ho1, hb1⟩
  have hs1 := hb1.size
  have hbx : Below w1.heap.size w1 (w1.alloc (.cells (strC largeN) 9)) := (Below.refl _ _).alloc (Nat.le_refl _) _
  have HG0 : Hid (Gr w (w1.alloc (.cells (strC largeN) 9)) v1 (RGS 0) w1.heap.size largeN) := ⟨own_below ho1 hbx, hb1.trans (hbx.mono hs1), blk_new w1 (.cells (strC largeN) 9)⟩
  clear ho1 hb1 hbx
  go_wp2_with fail
  refine (grown_any _).mono ?_
  rintro e w2 ⟨rfl, hw2⟩
  rw [hw2] at HG0
  clear hw2
  go_wp2_with fail
  go_loopg [3, 1, 4, 5, 6, 7, 8] 14 (fun gg s3 s1 _ _ _ _ _ wr => ∃ i : Nat, i ≤ 14 ∧ 14 - i ≤ gg ∧ s3 = .int .i64 i ∧ Aside (Gr w wr s1 (RGS i) w1.heap.size largeN))
  case atStart => exact ⟨0, by omega, by omega, rfl, HG0.out⟩
  case round =>
    obtain ⟨i, hi, hgg, rfl, HG⟩ := hrel
    clear HG0
    by_cases hil : i < 14
    · have hiz : (i : Int) < 14 := by omega
      have hil' : i < largeN.length := hil
      obtain ⟨q1, q2, q3, q4⟩ := rgs_bnd i hil'
      have HS := Lib.hid (RGS_succ i hil')
      have hc := (cell_blk HG.out.nam i).trans (strC_at largeN i hil')
      obtain ⟨n, hn⟩ : ∃ n, n = largeN[i] := ⟨_, rfl⟩
      rw [← hn] at q1 q2 q4 HS hc
      have HCN : Hid (largeN[i] = n) := hn.symm
      clear hn
      generalize RGS i = L at *
      obtain ⟨A, c, rfl, hgr, _⟩ := GR.of_own HG.out.own
      have HGR := Lib.hid hgr
      have hsr := HG.out.bel.size
      clear hgr
      go_wp2_with fail
      refine (rfind_any A L c n _ HGR.out (by omega)).mono ?_
      rintro e w3 ⟨rfl, hb3⟩
      have HG3 := Lib.hid (HG.out.below hb3)
      clear hb3 hc HG HGR
      unfold rstepS at HS
      obtain ⟨g, hg⟩ : ∃ g, g = findV L n := ⟨_, rfl⟩
      rw [← hg] at HS q1 q2 ⊢
      clear hg
      obtain ⟨gn, W, gh, gd, I, ga⟩ := g
      simp only at HS q1 q2
      simp only [Gl.val]
      have hbx : Below w3.heap.size w3 (w3.alloc (.cells #[.string ⟨gn.toArray⟩, .int .i64 W, .int .i64 gh, .int .i64 gd, .int .i64 I, .int .i64 ga] 32)) := (Below.refl _ _).alloc (Nat.le_refl _) _
      have HG4 := Lib.hid (HG3.out.below hbx)
      have HN4 := Lib.hid (blk_new w3 (.cells #[.string ⟨gn.toArray⟩, .int .i64 W, .int .i64 gh, .int .i64 gd, .int .i64 I, .int .i64 ga] 32))
      have hne : (Value.slice A L.length c).ownBlock ≠ some w3.heap.size := fun e => by have := (HG3.out.own.lt _ e).2; omega
      have HNE := Lib.hid hne
      have hc3 : w3.cell? ⟨w1.heap.size, i, none⟩ = some (.string ⟨n.toArray⟩) := (cell_blk HG3.out.nam i).trans (HCN.out ▸ strC_at largeN i hil')
      have hlt3 : w1.heap.size < w3.heap.size := blk_lt HG3.out.nam
      clear hbx hne HG3
      obtain ⟨w4, hw4⟩ : ∃ w4, w4 = w3.alloc (.cells #[.string ⟨gn.toArray⟩, .int .i64 W, .int .i64 gh, .int .i64 gd, .int .i64 I, .int .i64 ga] 32) := ⟨_, rfl⟩
      rw [← hw4] at HG4 HN4
      have HW4 := Lib.hid hw4
      clear hw4
      cases hr : (n == [114, 111, 111, 116])

      case false =>
        unfold hdOf at HS
        rw [hr] at HS
        simp only [Bool.false_eq_true, if_false] at HS
        go_wp2_with fail
        clear hc3
        rw [← HW4.out]
        go_loopg [8, 1] 4 (fun gg s8 s1 wr => ∃ k : Nat, k ≤ 3 ∧ 3 - k ≤ gg ∧ s8 = .int .i64 ((k : Int) + 1) ∧ Aside (Gr w wr s1 (L ++ rthree n W I 750 250 k) w1.heap.size largeN) ∧ Aside (wr.heap[w3.heap.size]? = some (.cells #[.string ⟨gn.toArray⟩, .int .i64 W, .int .i64 gh, .int .i64 gd, .int .i64 I, .int .i64 ga] 32)) ∧ Aside (s1.ownBlock ≠ some w3.heap.size))
        case atStart => exact ⟨0, by omega, by omega, rfl, (by show Gr _ _ _ (L ++ []) _ _; rw [List.append_nil]; exact HG4.out), HN4.out, HNE.out⟩
        case round =>
          obtain ⟨k, hk3, hg3, rfl, HG5, HN5, HNE5⟩ := hrel
          clear HG4 HN4 HNE
          by_cases hkl : k < 3
          · have hkz : (k : Int) + 1 ≤ 3 := by omega
            have HT : Hid (rthree n W I 750 250 (k + 1) = rthree n W I 750 250 k ++ [⟨n ++ [UInt8.ofNat (48 + (k + 1))], W + 80 * ((k : Int) + 1), 750 + 300 * ((k : Int) + 1), 250 + 300 * ((k : Int) + 1), I, 0⟩]) := rthree_succ n W I 750 250 k
            have HLN : Hid ((L ++ rthree n W I 750 250 k).length ≤ 1000) := by show _ ≤ 1000; rw [List.length_append, rthree_len]; omega
            have hcn : wr.cell? ⟨w1.heap.size, i, none⟩ = some (.string ⟨n.toArray⟩) := (cell_blk HG5.out.nam i).trans (HCN.out ▸ strC_at largeN i hil')
            have hc1 : wr.cell? ⟨w3.heap.size, 1, none⟩ = some (.int .i64 W) := cell_blk HN5.out 1
            have hc4 : wr.cell? ⟨w3.heap.size, 4, none⟩ = some (.int .i64 I) := cell_blk HN5.out 4
            have x1 : IntKind.i64.wrap (48 + ((k : Int) + 1)) = 48 + ((k : Int) + 1) := wrap64_of (by omega) (by omega)
            have x2 : IntKind.u8.wrap (48 + ((k : Int) + 1)) = 48 + ((k : Int) + 1) := wrap8_of (by omega) (by omega)
            have x3 : IntKind.i64.wrap (80 * ((k : Int) + 1)) = 80 * ((k : Int) + 1) := wrap64_of (by omega) (by omega)
            have x4 : IntKind.i64.wrap (W + 80 * ((k : Int) + 1)) = W + 80 * ((k : Int) + 1) := wrap64_of (by omega) (by omega)
            have x5 : IntKind.i64.wrap (300 * ((k : Int) + 1)) = 300 * ((k : Int) + 1) := wrap64_of (by omega) (by omega)
            have x6 : IntKind.i64.wrap (750 + 300 * ((k : Int) + 1)) = 750 + 300 * ((k : Int) + 1) := wrap64_of (by omega) (by omega)
            have x7 : IntKind.i64.wrap (250 + 300 * ((k : Int) + 1)) = 250 + 300 * ((k : Int) + 1) := wrap64_of (by omega) (by omega)
            obtain ⟨dg, hdg⟩ : ∃ dg, dg = UInt8.ofNat (48 + (k + 1)) := ⟨_, rfl⟩
            have hdg2 : UInt8.ofNat (48 + ((k : Int) + 1)).toNat = dg := by rw [hdg]; congr 1
            rw [← hdg] at HT
            have HDG := Lib.hid hdg
            clear hdg
            have hcv := fun w => conv_byteD (48 + ((k : Int) + 1)) w
            simp only [hdg2] at hcv
            clear hdg2
            have HC := Lib.hid (cat n [dg])
            have hbR : Below wr.heap.size wr ((wr.alloc (.cells #[.int .u8 (48 + ((k : Int) + 1))] 5)).alloc (.cells [.string (⟨n.toArray⟩ ++ ⟨#[dg]⟩), .int .i64 (W + 80 * ((k : Int) + 1)), .int .i64 (750 + 300 * ((k : Int) + 1)), .int .i64 (250 + 300 * ((k : Int) + 1)), .int .i64 I, .int .i64 0].toArray 32)).drew := (((Below.refl _ _).alloc (Nat.le_refl _) _).alloc (by simp) _).drew
            have HBR := Lib.hid hbR
            clear hbR
            go_wp2_with fail
            refine wp_region_noPanic ?_
            go_region_held_law (fun w' => w'.cell? ⟨w1.heap.size, i, none⟩ = some (.string ⟨n.toArray⟩) ∧ w'.cell? ⟨w3.heap.size, 1, none⟩ = some (.int .i64 W) ∧ w'.cell? ⟨w3.heap.size, 4, none⟩ = some (.int .i64 I)) (first | exact ⟨hcn, hc1, hc4⟩ | exact ⟨hcn7, hc17, hc47⟩ | go_keep) (first | (refine step_append_lies _ rfl _ _ 24 rfl w.heap.size 32 i0 _ 6 56 Tryd.underlying24 hi0 hz0 hz1 hz2 rfl (by decide) _ _ _ rfl (own_below HG5.out.own HBR.out) ⟨wr.heap.size + 1, 0, none⟩ 1 1 [.string (⟨n.toArray⟩ ++ ⟨#[dg]⟩), .int .i64 (W + 80 * ((k : Int) + 1)), .int .i64 (750 + 300 * ((k : Int) + 1)), .int .i64 (250 + 300 * ((k : Int) + 1)), .int .i64 I, .int .i64 0] rfl rfl (fun j u hu => (by simpa using src_drew (wr.alloc (.cells #[.int .u8 (48 + ((k : Int) + 1))] 5)) [.string (⟨n.toArray⟩ ++ ⟨#[dg]⟩), .int .i64 (W + 80 * ((k : Int) + 1)), .int .i64 (750 + 300 * ((k : Int) + 1)), .int .i64 (250 + 300 * ((k : Int) + 1)), .int .i64 I, .int .i64 0] 32 j u hu)) (fun u hu => (by simp at hu; rcases hu with rfl | rfl | rfl | rfl | rfl | rfl <;> rfl)) (by decide) (by unfold maxLen; have := HLN.out; omega) (by have := HLN.out; omega) (by have := HG5.out.bel.size; simp; omega) _ rfl ?_; intro g7 cap7 w7 hown7 hgrow7 hat7 hlt7; have HG7 : Hid (Gr w w7 (.slice (some ⟨g7, 0, none⟩) ((L ++ rthree n W I 750 250 k).length + 1) cap7) (L ++ rthree n W I 750 250 (k + 1)) w1.heap.size largeN) := (by show Gr _ _ _ _ _ _; rw [HT.out, ← List.append_assoc]; exact HG5.out.after HBR.out hgrow7 rfl (by rw [gcells_one]; unfold Gl.cells; rw [← HC.out]) hown7); have HN7 := Lib.hid (blk_after HBR.out hgrow7 HN5.out HNE5.out); have HNE7 := Lib.hid (ne_after (n := (L ++ rthree n W I 750 250 k).length + 1) (cap := cap7) HBR.out HN5.out HNE5.out hat7); have hcn7 : w7.cell? ⟨w1.heap.size, i, none⟩ = some (.string ⟨n.toArray⟩) := (cell_blk HG7.out.nam i).trans (HCN.out ▸ strC_at largeN i hil'); have hc17 : w7.cell? ⟨w3.heap.size, 1, none⟩ = some (.int .i64 W) := cell_blk HN7.out 1; have hc47 : w7.cell? ⟨w3.heap.size, 4, none⟩ = some (.int .i64 I) := cell_blk HN7.out 4; clear hown7 hgrow7 hat7 hlt7))
            refine NoPanic.normal ?_
            go_wp2_with fail
            go_roundg (3 - (k + 1))
            case measure => omega
            case rel => exact ⟨k + 1, by omega, by omega, by go_num, (by have := HG7.out; rwa [List.length_append] at this), HN7.out, (by have := HNE7.out; rwa [List.length_append] at this)⟩
          · have hkz : ¬ (k : Int) + 1 ≤ 3 := by omega
            obtain rfl : k = 3 := by omega
            go_wp2_with fail
            go_roundg (14 - (i + 1))
            case measure => omega
            case rel => exact ⟨i + 1, by omega, by omega, by go_num, (by rw [HS.out]; exact HG5.out)⟩
      case true =>
        unfold hdOf at HS
        rw [hr] at HS
        simp only [if_true] at HS
        go_wp2_with fail
        clear hc3
        rw [← HW4.out]
        go_loopg [8, 1] 4 (fun gg s8 s1 wr => ∃ k : Nat, k ≤ 3 ∧ 3 - k ≤ gg ∧ s8 = .int .i64 ((k : Int) + 1) ∧ Aside (Gr w wr s1 (L ++ rthree n W I 790 210 k) w1.heap.size largeN) ∧ Aside (wr.heap[w3.heap.size]? = some (.cells #[.string ⟨gn.toArray⟩, .int .i64 W, .int .i64 gh, .int .i64 gd, .int .i64 I, .int .i64 ga] 32)) ∧ Aside (s1.ownBlock ≠ some w3.heap.size))
        case atStart => exact ⟨0, by omega, by omega, rfl, (by show Gr _ _ _ (L ++ []) _ _; rw [List.append_nil]; exact HG4.out), HN4.out, HNE.out⟩
        case round =>
          obtain ⟨k, hk3, hg3, rfl, HG5, HN5, HNE5⟩ := hrel
          clear HG4 HN4 HNE
          by_cases hkl : k < 3
          · have hkz : (k : Int) + 1 ≤ 3 := by omega
            have HT : Hid (rthree n W I 790 210 (k + 1) = rthree n W I 790 210 k ++ [⟨n ++ [UInt8.ofNat (48 + (k + 1))], W + 80 * ((k : Int) + 1), 790 + 300 * ((k : Int) + 1), 210 + 300 * ((k : Int) + 1), I, 0⟩]) := rthree_succ n W I 790 210 k
            have HLN : Hid ((L ++ rthree n W I 790 210 k).length ≤ 1000) := by show _ ≤ 1000; rw [List.length_append, rthree_len]; omega
            have hcn : wr.cell? ⟨w1.heap.size, i, none⟩ = some (.string ⟨n.toArray⟩) := (cell_blk HG5.out.nam i).trans (HCN.out ▸ strC_at largeN i hil')
            have hc1 : wr.cell? ⟨w3.heap.size, 1, none⟩ = some (.int .i64 W) := cell_blk HN5.out 1
            have hc4 : wr.cell? ⟨w3.heap.size, 4, none⟩ = some (.int .i64 I) := cell_blk HN5.out 4
            have x1 : IntKind.i64.wrap (48 + ((k : Int) + 1)) = 48 + ((k : Int) + 1) := wrap64_of (by omega) (by omega)
            have x2 : IntKind.u8.wrap (48 + ((k : Int) + 1)) = 48 + ((k : Int) + 1) := wrap8_of (by omega) (by omega)
            have x3 : IntKind.i64.wrap (80 * ((k : Int) + 1)) = 80 * ((k : Int) + 1) := wrap64_of (by omega) (by omega)
            have x4 : IntKind.i64.wrap (W + 80 * ((k : Int) + 1)) = W + 80 * ((k : Int) + 1) := wrap64_of (by omega) (by omega)
            have x5 : IntKind.i64.wrap (300 * ((k : Int) + 1)) = 300 * ((k : Int) + 1) := wrap64_of (by omega) (by omega)
            have x6 : IntKind.i64.wrap (790 + 300 * ((k : Int) + 1)) = 790 + 300 * ((k : Int) + 1) := wrap64_of (by omega) (by omega)
            have x7 : IntKind.i64.wrap (210 + 300 * ((k : Int) + 1)) = 210 + 300 * ((k : Int) + 1) := wrap64_of (by omega) (by omega)
            obtain ⟨dg, hdg⟩ : ∃ dg, dg = UInt8.ofNat (48 + (k + 1)) := ⟨_, rfl⟩
            have hdg2 : UInt8.ofNat (48 + ((k : Int) + 1)).toNat = dg := by rw [hdg]; congr 1
            rw [← hdg] at HT
            have HDG := Lib.hid hdg
            clear hdg
            have hcv := fun w => conv_byteD (48 + ((k : Int) + 1)) w
            simp only [hdg2] at hcv
            clear hdg2
            have HC := Lib.hid (cat n [dg])
            have hbR : Below wr.heap.size wr ((wr.alloc (.cells #[.int .u8 (48 + ((k : Int) + 1))] 5)).alloc (.cells [.string (⟨n.toArray⟩ ++ ⟨#[dg]⟩), .int .i64 (W + 80 * ((k : Int) + 1)), .int .i64 (790 + 300 * ((k : Int) + 1)), .int .i64 (210 + 300 * ((k : Int) + 1)), .int .i64 I, .int .i64 0].toArray 32)).drew := (((Below.refl _ _).alloc (Nat.le_refl _) _).alloc (by simp) _).drew
            have HBR := Lib.hid hbR
            clear hbR
            go_wp2_with fail
            refine wp_region_noPanic ?_
            go_region_held_law (fun w' => w'.cell? ⟨w1.heap.size, i, none⟩ = some (.string ⟨n.toArray⟩) ∧ w'.cell? ⟨w3.heap.size, 1, none⟩ = some (.int .i64 W) ∧ w'.cell? ⟨w3.heap.size, 4, none⟩ = some (.int .i64 I)) (first | exact ⟨hcn, hc1, hc4⟩ | exact ⟨hcn7, hc17, hc47⟩ | go_keep) (first | (refine step_append_lies _ rfl _ _ 24 rfl w.heap.size 32 i0 _ 6 56 Tryd.underlying24 hi0 hz0 hz1 hz2 rfl (by decide) _ _ _ rfl (own_below HG5.out.own HBR.out) ⟨wr.heap.size + 1, 0, none⟩ 1 1 [.string (⟨n.toArray⟩ ++ ⟨#[dg]⟩), .int .i64 (W + 80 * ((k : Int) + 1)), .int .i64 (790 + 300 * ((k : Int) + 1)), .int .i64 (210 + 300 * ((k : Int) + 1)), .int .i64 I, .int .i64 0] rfl rfl (fun j u hu => (by simpa using src_drew (wr.alloc (.cells #[.int .u8 (48 + ((k : Int) + 1))] 5)) [.string (⟨n.toArray⟩ ++ ⟨#[dg]⟩), .int .i64 (W + 80 * ((k : Int) + 1)), .int .i64 (790 + 300 * ((k : Int) + 1)), .int .i64 (210 + 300 * ((k : Int) + 1)), .int .i64 I, .int .i64 0] 32 j u hu)) (fun u hu => (by simp at hu; rcases hu with rfl | rfl | rfl | rfl | rfl | rfl <;> rfl)) (by decide) (by unfold maxLen; have := HLN.out; omega) (by have := HLN.out; omega) (by have := HG5.out.bel.size; simp; omega) _ rfl ?_; intro g7 cap7 w7 hown7 hgrow7 hat7 hlt7; have HG7 : Hid (Gr w w7 (.slice (some ⟨g7, 0, none⟩) ((L ++ rthree n W I 790 210 k).length + 1) cap7) (L ++ rthree n W I 790 210 (k + 1)) w1.heap.size largeN) := (by show Gr _ _ _ _ _ _; rw [HT.out, ← List.append_assoc]; exact HG5.out.after HBR.out hgrow7 rfl (by rw [gcells_one]; unfold Gl.cells; rw [← HC.out]) hown7); have HN7 := Lib.hid (blk_after HBR.out hgrow7 HN5.out HNE5.out); have HNE7 := Lib.hid (ne_after (n := (L ++ rthree n W I 790 210 k).length + 1) (cap := cap7) HBR.out HN5.out HNE5.out hat7); have hcn7 : w7.cell? ⟨w1.heap.size, i, none⟩ = some (.string ⟨n.toArray⟩) := (cell_blk HG7.out.nam i).trans (HCN.out ▸ strC_at largeN i hil'); have hc17 : w7.cell? ⟨w3.heap.size, 1, none⟩ = some (.int .i64 W) := cell_blk HN7.out 1; have hc47 : w7.cell? ⟨w3.heap.size, 4, none⟩ = some (.int .i64 I) := cell_blk HN7.out 4; clear hown7 hgrow7 hat7 hlt7))
            refine NoPanic.normal ?_
            go_wp2_with fail
            go_roundg (3 - (k + 1))
            case measure => omega
            case rel => exact ⟨k + 1, by omega, by omega, by go_num, (by have := HG7.out; rwa [List.length_append] at this), HN7.out, (by have := HNE7.out; rwa [List.length_append] at this)⟩
          · have hkz : ¬ (k : Int) + 1 ≤ 3 := by omega
            obtain rfl : k = 3 := by omega
            go_wp2_with fail
            go_roundg (14 - (i + 1))
            case measure => omega
            case rel => exact ⟨i + 1, by omega, by omega, by go_num, (by rw [HS.out]; exact HG5.out)⟩
    · have hiz : ¬ (i : Int) < 14 := by omega
      obtain rfl : i = 14 := by omega
      obtain ⟨w5, hw⟩ : ∃ w5 : World, w5 = wr := ⟨_, rfl⟩
      rw [← hw] at HG ⊢
      clear hw hil
      have hbx : Below w5.heap.size w5 (w5.alloc (.cells (strC asmN) 9)) := (Below.refl _ _).alloc (Nat.le_refl _) _
      have HG0 : Hid (Gr w (w5.alloc (.cells (strC asmN) 9)) u1 (RGP 0) w5.heap.size asmN) := ⟨own_below HG.out.own hbx, HG.out.bel.trans (hbx.mono HG.out.bel.size), blk_new w5 (.cells (strC asmN) 9)⟩
      clear HG hbx
      go_wp2_with fail
      refine (rasm_any _).mono ?_
      rintro e w6 ⟨rfl, hw6⟩
      rw [hw6] at HG0
      clear hw6
      go_wp2_with fail
      go_loopg [9, 1, 10, 11] 8 (fun gg s9 s1 _ _ wr => ∃ i : Nat, i ≤ 8 ∧ 8 - i ≤ gg ∧ s9 = .int .i64 i ∧ Aside (Gr w wr s1 (RGP i) w5.heap.size asmN))
      case atStart => exact ⟨0, by omega, by omega, rfl, HG0.out⟩
      case round =>
        obtain ⟨i, hi, hgg, rfl, HG⟩ := hrel
        clear HG0
        by_cases hil : i < 8
        · have hiz : (i : Int) < 8 := by omega
          have hil' : i < asmN.length := hil
          obtain ⟨q3, q4⟩ := rgp_bnd i hil'
          have HS := Lib.hid (RGP_succ i hil')
          have hc := (cell_blk HG.out.nam i).trans (strC_at asmN i hil')
          obtain ⟨n, hn⟩ : ∃ n, n = asmN[i] := ⟨_, rfl⟩
          rw [← hn] at q4 HS hc
          have HCN : Hid (asmN[i] = n) := hn.symm
          clear hn
          generalize RGP i = L at *
          obtain ⟨A, c, rfl, hgr, _⟩ := GR.of_own HG.out.own
          have HGR := Lib.hid hgr
          have hsr := HG.out.bel.size
          have HC3 := Lib.hid (cat n [51])
          clear hgr
          go_wp2_with fail
          rw [HC3.out]
          refine (rfind_any A L c (n ++ [51]) _ HGR.out (by omega)).mono ?_
          rintro e w3 ⟨rfl, hb3⟩
          have HG3 := Lib.hid (HG.out.below hb3)
          clear hb3 hc HG HGR
          unfold rstepP at HS
          obtain ⟨g, hg⟩ : ∃ g, g = findV L (n ++ [51]) := ⟨_, rfl⟩
          rw [← hg] at HS ⊢
          clear hg
          obtain ⟨gn, W, gh, gd, I, ga⟩ := g
          simp only at HS
          simp only [Gl.val]
          have hbx : Below w3.heap.size w3 (w3.alloc (.cells #[.string ⟨gn.toArray⟩, .int .i64 W, .int .i64 gh, .int .i64 gd, .int .i64 I, .int .i64 ga] 32)) := (Below.refl _ _).alloc (Nat.le_refl _) _
          have HG4 := Lib.hid (HG3.out.below hbx)
          have HN4 := Lib.hid (blk_new w3 (.cells #[.string ⟨gn.toArray⟩, .int .i64 W, .int .i64 gh, .int .i64 gd, .int .i64 I, .int .i64 ga] 32))
          have hne : (Value.slice A L.length c).ownBlock ≠ some w3.heap.size := fun e => by have := (HG3.out.own.lt _ e).2; omega
          have HNE := Lib.hid hne
          clear hbx HG3 hne
          obtain ⟨w4, hw4⟩ : ∃ w4, w4 = w3.alloc (.cells #[.string ⟨gn.toArray⟩, .int .i64 W, .int .i64 gh, .int .i64 gd, .int .i64 I, .int .i64 ga] 32) := ⟨_, rfl⟩
          rw [← hw4] at HG4 HN4
          have HW4 := Lib.hid hw4
          clear hw4
          have hcn : w4.cell? ⟨w5.heap.size, i, none⟩ = some (.string ⟨n.toArray⟩) := (cell_blk HG4.out.nam i).trans (HCN.out ▸ strC_at asmN i hil')
          have hc1 : w4.cell? ⟨w3.heap.size, 1, none⟩ = some (.int .i64 W) := cell_blk HN4.out 1
          have Ha := Lib.hid (cat n [98, 111, 116])
          have Hb := Lib.hid (cat n [101, 120, 116])
          have Hc := Lib.hid (cat n [116, 111, 112])
          have hbR : Below w4.heap.size w4 (w4.alloc (.cells [.string (⟨n.toArray⟩ ++ ⟨#[98, 111, 116]⟩), .int .i64 W, .int .i64 900, .int .i64 0, .int .i64 0, .int .i64 0, .string (⟨n.toArray⟩ ++ ⟨#[101, 120, 116]⟩), .int .i64 W, .int .i64 300, .int .i64 0, .int .i64 0, .int .i64 0, .string (⟨n.toArray⟩ ++ ⟨#[116, 111, 112]⟩), .int .i64 W, .int .i64 900, .int .i64 0, .int .i64 0, .int .i64 0].toArray 32)).drew := ((Below.refl _ _).alloc (Nat.le_refl _) _).drew
          have HBR := Lib.hid hbR
          clear hbR
          go_wp2_with fail
          rw [← HW4.out]
          refine wp_region_noPanic ?_
          go_region_held_law (fun w' => w'.cell? ⟨w5.heap.size, i, none⟩ = some (.string ⟨n.toArray⟩) ∧ w'.cell? ⟨w3.heap.size, 1, none⟩ = some (.int .i64 W)) (first | exact ⟨hcn, hc1⟩ | exact ⟨hcn7, hc17⟩ | go_keep) (first | (refine step_append_lies _ rfl _ _ 24 rfl w.heap.size 32 i0 _ 6 56 Tryd.underlying24 hi0 hz0 hz1 hz2 rfl (by decide) _ _ _ rfl (own_below HG4.out.own HBR.out) ⟨w4.heap.size, 0, none⟩ 3 3 [.string (⟨n.toArray⟩ ++ ⟨#[98, 111, 116]⟩), .int .i64 W, .int .i64 900, .int .i64 0, .int .i64 0, .int .i64 0, .string (⟨n.toArray⟩ ++ ⟨#[101, 120, 116]⟩), .int .i64 W, .int .i64 300, .int .i64 0, .int .i64 0, .int .i64 0, .string (⟨n.toArray⟩ ++ ⟨#[116, 111, 112]⟩), .int .i64 W, .int .i64 900, .int .i64 0, .int .i64 0, .int .i64 0] rfl rfl (src_drew w4 _ 32) (fun u hu => gcells_oneCell (rpartsG n W) u (by unfold rpartsG gcells; simp only [List.flatMap_cons, List.flatMap_nil, Gl.cells, ← Ha.out, ← Hb.out, ← Hc.out]; exact hu)) (by decide) (by unfold maxLen; omega) (by omega) (by have := HG4.out.bel.size; simp; omega) _ rfl ?_; intro g7 cap7 w7 hown7 hgrow7 hat7 hlt7; have HG7 : Hid (Gr w w7 (.slice (some ⟨g7, 0, none⟩) (L.length + 3) cap7) (L ++ rpartsG n W) w5.heap.size asmN) := HG4.out.after HBR.out hgrow7 rfl (by unfold rpartsG gcells; simp only [List.flatMap_cons, List.flatMap_nil, Gl.cells, ← Ha.out, ← Hb.out, ← Hc.out]; rfl) hown7; have hcn7 : w7.cell? ⟨w5.heap.size, i, none⟩ = some (.string ⟨n.toArray⟩) := (cell_blk HG7.out.nam i).trans (HCN.out ▸ strC_at asmN i hil'); have hc17 : w7.cell? ⟨w3.heap.size, 1, none⟩ = some (.int .i64 W) := cell_blk (blk_after HBR.out hgrow7 HN4.out HNE.out) 1; clear hown7 hgrow7 hat7 hlt7))
          all_goals
            refine NoPanic.normal ?_
            go_wp2_with fail
            go_roundg (8 - (i + 1))
            case measure => omega
            case rel => exact ⟨i + 1, by omega, by omega, by go_num, (by rw [HS.out]; exact HG7.out)⟩
        · have hiz : ¬ (i : Int) < 8 := by omega
          obtain rfl : i = 8 := by omega
          obtain ⟨w8, hw⟩ : ∃ w8 : World, w8 = wr := ⟨_, rfl⟩
          rw [← hw] at HG ⊢
          clear hw hil
          have HRF : Hid (RGF = (RGP 8).map att) := rfl
          have HBD := Lib.hid rgf_ok
          have hpos : 0 < (RGP 8).length := by decide +kernel
          generalize RGP 8 = L at *
          obtain ⟨g, cap, rfl, hbg, _⟩ := HG.out.own.form hpos
          have HO := Lib.hid HG.out.own
          have HB := Lib.hid HG.out.bel
          have hlen := HBD.out.1
          have hs8 := HG.out.bel.size
          clear HG
          go_wp2_with fail
          go_loopg [12] L.length (fun gg s12 wr => ∃ k : Nat, k ≤ L.length ∧ L.length - k ≤ gg ∧ s12 = .int .i64 k ∧ Aside (wr.ownsRow w.heap.size 32 6 (.slice (some ⟨g, 0, none⟩) L.length cap) L.length (gcells ((L.take k).map att ++ L.drop k))) ∧ Aside (Below w.heap.size w wr))
          case atStart => exact ⟨0, by omega, by omega, rfl, HO.out, HB.out⟩
          case round =>
            obtain ⟨k, hk, hgg, rfl, HOr, HBr⟩ := hrel
            clear HO HB
            by_cases hkl : k < L.length
            · have hkz : (k : Int) < (L.length : Int) := by omega
              have HA := Lib.hid (att_step L k hkl)
              have HA2 := Lib.hid (att_cell L k hkl)
              have hm : L[k] ∈ L := List.getElem_mem hkl
              have hwb := List.all_eq_true.1 HBD.out.2 L[k] hm
              simp only [Bool.and_eq_true, decide_eq_true_eq] at hwb
              obtain ⟨hw0, hw1⟩ := hwb
              have hcw : wr.cell? ⟨g, k * 6 + 1, none⟩ = some (.int .i64 L[k].w) := by
                have := HOr.out.cells (g := g) rfl (k * 6 + 1) _ HA2.out
                rwa [addr_add', Nat.zero_add] at this
              have hc5 : ∃ v5, wr.cell? ⟨g, k * 6 + 5, none⟩ = some v5 := by
                have h5 : (gcells ((L.take k).map att ++ L.drop k))[k * 6 + 5]? = some (.int .i64 L[k].at_) := att_cell5 L k hkl
                have := HOr.out.cells (g := g) rfl (k * 6 + 5) _ h5
                rw [addr_add', Nat.zero_add] at this
                exact ⟨_, this⟩
              obtain ⟨v5, hc5⟩ := hc5
              have hf5 := HOr.out.frozenAt (k * 6 + 5)
              obtain ⟨ho', hg'⟩ := HOr.out.stored (k * 6 + 5) (.int .i64 (L[k].w / 2))
              rw [HA.out] at ho'
              have HO' := Lib.hid ho'
              have HB' := Lib.hid (HBr.out.grown hg' HBr.out.size (fun k hk => by cases hk; exact hbg))
              clear ho' hg' hm
              obtain ⟨W, hW⟩ : ∃ W, W = L[k].w := ⟨_, rfl⟩
              rw [← hW] at hw0 hw1 hcw HO' HB'
              clear hW
              go_wp2_with fail
              go_roundg (L.length - (k + 1))
              case measure => omega
              case rel => exact ⟨k + 1, by omega, by omega, by go_num, HO'.out, HB'.out⟩
            · have hkz : ¬ (k : Int) < (L.length : Int) := by omega
              obtain rfl : k = L.length := by omega
              go_wp2_with fail
              go_ret
              refine ⟨_, rfl, ?_, HBr.out⟩
              have := HOr.out
              rw [List.take_length, List.drop_length, List.append_nil] at this
              rw [HRF.out, List.length_map]
              exact this
end Go.Proofs.YthgkdeaapjdadaaDoor
