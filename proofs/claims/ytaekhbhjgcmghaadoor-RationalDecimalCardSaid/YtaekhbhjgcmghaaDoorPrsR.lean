/- Contracts of the reference's point, Decimal and divided. -/
import Derived.Test.YtaekhbhjgcmghaaDoorPrsP
import Derived.Deep.QuietTactic
import Derived.BigQuiet
import Derived.IntWalk
namespace Go.Proofs.YtaekhbhjgcmghaaDoor
open Go.RowKit

theorem ext_list (s : ByteArray) (a b : Nat) : (s.extract a b).data.toList = (s.data.toList.take b).drop a := by
  rw [ByteArray.data_extract]; simp [List.drop_take]
theorem ext_take (s : ByteArray) (k : Nat) : (s.extract 0 k).data.toList = s.data.toList.take k := by rw [ext_list]; rfl
theorem ext_drop (s : ByteArray) (k : Nat) : (s.extract k s.size).data.toList = s.data.toList.drop k := by
  rw [ext_list, List.take_of_length_le (by rw [len_list]; exact Nat.le_refl _)]
theorem toNatZ (c d : UInt8) : ((c.toNat : Int) == (d.toNat : Int)) = (c == d) := by
  rw [Bool.eq_iff_iff]
  simp
  constructor
  · intro h; apply UInt8.toNat_inj.1; omega
  · intro h; rw [h]
theorem at_list (s : ByteArray) (k : Nat) (hk : k < s.size) : s.data.toList[k]'(by rw [len_list]; exact hk) = s[k] := rfl

/-- where the point stands -/
def ptI (l : List UInt8) : Int := if (Lib.cut l [46]).2.2 then ((Lib.cut l [46]).1.length : Int) else -1
theorem cut_at (s : ByteArray) (k : Nat) (hk : k < s.size) (h : s[k] = 46) (hn : ∀ (j : Nat) (hj : j < s.size), j < k → s[j] ≠ 46) : Lib.cut s.data.toList [46] = (s.data.toList.take k, s.data.toList.drop (k + 1), true) := by
  have hl : k < s.data.toList.length := by rw [len_list]; exact hk
  have e : s.data.toList = s.data.toList.take k ++ 46 :: s.data.toList.drop (k + 1) := by
    rw [← h, ← at_list s k hk, ← List.drop_eq_getElem_cons hl, List.take_append_drop]
  conv => lhs; rw [e]
  refine cut_unique fun hm => ?_
  obtain ⟨j, hj, ee⟩ := List.mem_iff_getElem.1 hm
  rw [List.length_take, len_list] at hj
  rw [List.getElem_take] at ee
  exact hn j (by omega) (by omega) ee
theorem cut_no (s : ByteArray) (hn : ∀ (j : Nat) (hj : j < s.size), s[j] ≠ 46) : Lib.cut s.data.toList [46] = (s.data.toList, [], false) := by
  rcases cut_point s.data.toList with ⟨w, r, e, e', _⟩ | ⟨e, _⟩
  · exfalso
    have hm : (46 : UInt8) ∈ s.data.toList := by rw [e']; simp
    obtain ⟨j, hj, ee⟩ := List.mem_iff_getElem.1 hm
    exact hn j (by rw [← len_list]; exact hj) ee
  · exact e

set_option maxHeartbeats 1000000 in
theorem point_any (s : ByteArray) (w : World) (hs : s.size ≤ 1000) :
    Calls Tryd.prog 58 #[.string s] w fun r w' => r = .returned (.int .i64 (ptI s.data.toList)) ∧ w = w' := by
  go_enter Tryd.func58, Tryd.ntmps58
  go_wp2
  go_loop [3] (fun s3 => ∃ kk : Nat, kk ≤ s.size ∧ s3 = .int .i64 kk ∧ Aside (∀ (j : Nat) (hj : j < s.size), j < kk → s[j] ≠ 46)) (fun s3 => s.size - (intOf s3).toNat)
  case atStart => exact ⟨0, Nat.zero_le _, rfl, fun j _ hj => absurd hj (Nat.not_lt_zero _)⟩
  case round =>
    obtain ⟨kk, hkk, rfl, HA⟩ := hrel
    by_cases hlt : kk < s.size
    · have hltz : (kk : Int) < (s.size : Int) := by omega
      by_cases h1 : s[kk] = 46
      · have h1' : ((s[kk].toNat : Int) == 46) = true := by rw [h1]; rfl
        have hp : Hid (ptI s.data.toList = kk) := by
          show ptI s.data.toList = kk
          unfold ptI
          rw [cut_at s kk hlt h1 HA.out]
          simp; omega
        clear h1
        go_wp2
        go_ret
        rw [hp.out]
        exact ⟨rfl, rfl⟩
      · have h1' : ((s[kk].toNat : Int) == 46) = false := by
          have := toNatZ s[kk] 46
          rw [show (((46 : UInt8).toNat : Nat) : Int) = 46 from rfl] at this
          rw [this]; simpa using h1
        have hok := Lib.hid h1
        clear h1
        go_wp2
        go_round
        case rel =>
          refine ⟨kk + 1, by omega, by go_num, (show Aside _ from fun j hj hjk => ?_)⟩
          by_cases ee : j = kk
          · subst ee; exact hok.out
          · exact HA.out j hj (by omega)
        case measure => simp [intOf]; omega
    · have hltz : ¬ (kk : Int) < (s.size : Int) := by omega
      obtain rfl : kk = s.size := by omega
      have hp : Hid (ptI s.data.toList = -1) := by
        show ptI s.data.toList = -1
        unfold ptI
        rw [cut_no s (fun j hj => HA.out j hj hj)]
        rfl
      clear hlt HA
      go_wp2
      go_ret
      rw [hp.out]
      exact ⟨rfl, rfl⟩

/-- is it a decimal? -/
def decB (l : List UInt8) : Bool := digs (Lib.cut l [46]).1 && (!(Lib.cut l [46]).2.2 || digs (Lib.cut l [46]).2.1)
/-- the parts of a text with a point, as the program cuts them -/
theorem parts_pt (s : ByteArray) {k : Nat} (h : ptI s.data.toList = (k : Int)) : k < s.size ∧ Lib.cut s.data.toList [46] = ((s.extract 0 k).data.toList, (s.extract (k + 1) s.size).data.toList, true) := by
  unfold ptI at h
  rcases cut_point s.data.toList with ⟨w, r, e, e', _⟩ | ⟨e, _⟩
  · rw [e] at h
    simp at h
    have h : w.length = k := by omega
    subst h
    have hl : s.size = w.length + (r.length + 1) := by rw [← len_list, e']; simp
    refine ⟨by omega, ?_⟩
    rw [e, ext_take, ext_drop, e']
    simp
  · rw [e] at h
    simp at h
theorem parts_no (s : ByteArray) (h : ptI s.data.toList < 0) : ptI s.data.toList = -1 ∧ Lib.cut s.data.toList [46] = (s.data.toList, [], false) := by
  unfold ptI at h ⊢
  rcases cut_point s.data.toList with ⟨w, r, e, e', _⟩ | ⟨e, _⟩
  · rw [e] at h
    simp at h
    omega
  · rw [e]
    exact ⟨rfl, rfl⟩

set_option maxHeartbeats 1000000 in
theorem decimal_any (s : ByteArray) (w : World) (hs : s.size ≤ 1000) :
    Calls Tryd.prog 57 #[.string s] w fun r w' => r = .returned (.bool (decB s.data.toList)) ∧ w = w' := by
  by_cases hp : ptI s.data.toList < 0
  · obtain ⟨h1, h2⟩ := parts_no s hp
    have HP := Lib.hid h1
    have HD : Hid (decB s.data.toList = digs s.data.toList) := by show decB s.data.toList = _; unfold decB; rw [h2]; simp
    clear h1 h2 hp
    go_enter Tryd.func57, Tryd.ntmps57
    go_wp2_with fail
    refine (point_any s _ hs).mono ?_
    rw [HP.out]
    rintro e w' ⟨rfl, rfl⟩
    go_wp2_with fail
    refine (rdigs_any s _ hs).mono ?_
    rintro e w' ⟨rfl, rfl⟩
    go_wp2_with fail
    go_ret
    rw [HD.out]
    exact ⟨rfl, rfl⟩
  · obtain ⟨k, hk⟩ : ∃ k : Nat, ptI s.data.toList = (k : Int) := ⟨(ptI s.data.toList).toNat, by omega⟩
    obtain ⟨h1, h2⟩ := parts_pt s hk
    have HP := Lib.hid hk
    have HD : Hid (decB s.data.toList = (digs (s.extract 0 k).data.toList && digs (s.extract (k + 1) s.size).data.toList)) := by show decB s.data.toList = _; unfold decB; rw [h2]; simp
    have z1 : (s.extract 0 k).size ≤ 1000 := by rw [ByteArray.size_extract]; omega
    have z2 : (s.extract (k + 1) s.size).size ≤ 1000 := by rw [ByteArray.size_extract]; omega
    clear hp hk h2
    go_enter Tryd.func57, Tryd.ntmps57
    go_wp2_with fail
    refine (point_any s _ hs).mono ?_
    rw [HP.out]
    rintro e w' ⟨rfl, rfl⟩
    go_wp2_with fail
    refine (rdigs_any (s.extract 0 k) _ z1).mono ?_
    rintro e w' ⟨rfl, rfl⟩
    cases hd : digs (s.extract 0 k).data.toList with
    | false =>
      rw [hd] at HD
      go_wp2_with fail
      go_ret
      rw [HD.out]
      exact ⟨rfl, rfl⟩
    | true =>
      rw [hd] at HD
      go_wp2_with fail
      refine (rdigs_any (s.extract (k + 1) s.size) _ z2).mono ?_
      obtain ⟨b, hb⟩ : ∃ b, b = digs (s.extract (k + 1) s.size).data.toList := ⟨_, rfl⟩
      rw [← hb] at HD ⊢
      clear hb
      rintro e w' ⟨rfl, rfl⟩
      go_wp2_with fail
      go_ret
      rw [HD.out]
      exact ⟨rfl, rfl⟩

theorem addr_add' (b o i : Nat) : (⟨b, o, none⟩ : Addr).add i = ⟨b, o + i, none⟩ := by
  unfold Addr.add; split
  · simp [*]
  · rfl
/-- the bytes of a slice lie at (g, off) -/
structure BR (w : World) (g off : Nat) (l : List UInt8) : Prop where
  lt : g < w.heap.size
  cell : ∀ (j : Nat) (hj : j < l.length), w.cell? ⟨g, off + j, none⟩ = some (.int .u8 (l[j].toNat : Int))
theorem BR.below {w w' : World} {g off : Nat} {l : List UInt8} (h : BR w g off l) (hb : Below w.heap.size w w') : BR w' g off l :=
  ⟨Nat.lt_of_lt_of_le h.lt hb.size, fun j hj => (hb.cell (p := ⟨g, off + j, none⟩) h.lt).trans (h.cell j hj)⟩
theorem BR.of_own {w : World} {base : Nat} {v : Value} {l : List UInt8} (h : w.ownsRow base 5 1 v l.length (bcells l)) (hne : l ≠ []) : ∃ g cap, v = .slice (some ⟨g, 0, none⟩) l.length cap ∧ l.length ≤ cap ∧ BR w g 0 l := by
  have h0 := h
  rcases h.2 with ⟨rfl, hn⟩ | ⟨g, cap, cur, rfl, hb, hh, hnc, _⟩
  · exact absurd (List.eq_nil_of_length_eq_zero hn) hne
  · refine ⟨g, cap, rfl, hnc, (h0.lt g rfl).2, fun j hj => ?_⟩
    have := h0.cells (g := g) rfl j (.int .u8 (l[j].toNat : Int)) (by unfold bcells; simp [hj])
    rwa [addr_add'] at this
theorem BR.tail {w : World} {g off : Nat} {c : UInt8} {l : List UInt8} (h : BR w g off (c :: l)) : BR w g (off + 1) l :=
  ⟨h.lt, fun j hj => by have := h.cell (j + 1) (by simp; omega); rw [show off + 1 + j = off + (j + 1) from by omega]; simpa using this⟩
theorem below_grown {w w1 w' : World} {row : Option Nat} (hb : Below w.heap.size w w1) (hg : w1.grownBy w' row) (hr : ∀ k, row = some k → w.heap.size ≤ k) : Below w.heap.size w w' := hb.grown hg hb.size hr
/-- what divided returns -/
def RetBR (w : World) (l : List UInt8) (e : Ending) (w' : World) : Prop := ∃ g cap, e = .returned (.slice (some ⟨g, 0, none⟩) l.length cap) ∧ l.length ≤ cap ∧ BR w' g 0 l ∧ Below w.heap.size w w'

set_option maxRecDepth 100000 in
set_option maxHeartbeats 2000000 in
theorem divided_any (l : List UInt8) (p g off cap : Nat) (w : World) (hl : l.length ≤ 1000) (hp : 2 ≤ p) (hp9 : p ≤ 9) (hd : ∀ c ∈ l, isD c = true) (hne : l ≠ []) (hbr : BR w g off l) :
    Calls Tryd.prog 70 #[.slice (some ⟨g, off, none⟩) l.length cap, .int .i64 p] w (RetBR w (divL p 0 l)) := by
  obtain ⟨i0, hi0, hz0, hz1, hz2⟩ := info_parts byte_info
  have HD := Lib.hid hd
  have HI := Lib.hid (And.intro hi0 (And.intro hz0 (And.intro hz1 hz2)))
  have HBR := Lib.hid hbr
  have HNE := Lib.hid hne
  clear hd hi0 hz0 hz1 hz2 hbr hne
  have hpz : (p : Int) ≠ 0 := by omega
  go_enter Tryd.func70, Tryd.ntmps70
  go_wp2_with fail
  go_loopg [5, 6, 7] l.length (fun gg s5 s6 s7 wr => ∃ k : Nat, k ≤ l.length ∧ l.length - k ≤ gg ∧ s7 = .int .i64 k ∧ s6 = .int .i64 (remL p 0 (l.take k) : Nat) ∧ Aside (wr.ownsRow w.heap.size 5 1 s5 k (bcells (divL p 0 (l.take k)))) ∧ Aside (Below w.heap.size w wr))
  case atStart => exact ⟨0, Nat.zero_le _, by omega, rfl, rfl, World.ownsRow_nil _ _ _ _, Below.refl _ _⟩
  case round =>
    obtain ⟨k, hk, hgg, rfl, rfl, HO, HB⟩ := hrel
    have hr := remL_lt p (by omega) (l.take k) 0 (by omega)
    by_cases hlt : k < l.length
    · have hltz : (k : Int) < (l.length : Int) := by omega
      have HT := Lib.hid (And.intro (take_div p l k hlt) (take_rem p l k hlt))
      have hcell : wr.cell? ⟨g, off + k, none⟩ = some (.int .u8 (l[k].toNat : Int)) := (HBR.out.below HB.out).cell k hlt
      obtain ⟨h48, h57⟩ := (isD_iff _).1 (HD.out l[k] (List.getElem_mem hlt))
      obtain ⟨r, hrr⟩ : ∃ r, r = remL p 0 (l.take k) := ⟨_, rfl⟩
      rw [← hrr] at hr HT ⊢
      clear hrr
      obtain ⟨d, hdd⟩ : ∃ d : Nat, d = l[k].toNat - 48 := ⟨_, rfl⟩
      have hd9 : d ≤ 9 := by omega
      rw [← hdd] at HT
      have x1 : (l[k].toNat : Int) = 48 + (d : Int) := by omega
      rw [x1] at hcell
      clear hdd h48 h57 x1
      have hq9 : (10 * r + d) / p ≤ 9 := quo_nat p _ (by omega) (by omega)
      have hrb : r ≤ 8 := by omega
      go_wp2_with (at_builtin; refine wpList_append_own _ rfl _ _ 92 rfl w.heap.size 5 i0 _ 1 1 Tryd.underlying92 HI.out.1 HI.out.2.1 HI.out.2.2.1 HI.out.2.2.2 rfl (by decide) _ _ _ rfl (HO.out.alloc _) ⟨wr.heap.size, 0, none⟩ 1 1 (bcells [dg ((10 * r + d) / p)]) rfl rfl ?c1 ?c2 ?c3 ?c4 ?c5 ?_)
      case c1 =>
        intro j u hu
        rw [byte_val r d p hq9]
        have hj : j < 1 := (List.getElem?_eq_some_iff.1 hu).1
        obtain rfl : j = 0 := by omega
        cases hu
        simp [Addr.add]
      case c2 => intro u hu; simp [bcells] at hu; subst hu; rfl
      case c3 => unfold maxLen; omega
      case c4 => omega
      case c5 => have := HB.out.size; simp; omega
      intro v' w2 hown hgrow _
      have hs1 := HB.out.size
      have hB2 : Below w.heap.size w w2 := (HB.out.alloc HB.out.size _).grown hgrow (by simp; omega) (fun k' hk' => (HO.out.lt k' hk').1)
      have HB2 := Lib.hid hB2
      have HO2 : Hid (w2.ownsRow w.heap.size 5 1 v' (k + 1) (bcells (divL p 0 (l.take (k + 1))))) := by
        show w2.ownsRow w.heap.size 5 1 v' (k + 1) (bcells (divL p 0 (l.take (k + 1))))
        rw [HT.out.1]
        have : bcells (divL p 0 (l.take k) ++ [dg ((10 * r + d) / p)]) = bcells (divL p 0 (l.take k)) ++ bcells [dg ((10 * r + d) / p)] := by simp [bcells]
        rw [this]
        exact hown
      clear hown hgrow hB2 HB HO
      go_wp2
      go_roundg (l.length - (k + 1))
      case measure => omega
      case rel => exact ⟨k + 1, by omega, by omega, by go_num, by rw [HT.out.2, ← rem_val], HO2.out, HB2.out⟩
    · have hltz : ¬ (k : Int) < (l.length : Int) := by omega
      obtain rfl : k = l.length := by omega
      rw [List.take_length] at HO hr ⊢
      have hlen := divL_len p l 0
      have hne' : divL p 0 l ≠ [] := fun e => by rw [e] at hlen; exact HNE.out (List.eq_nil_of_length_eq_zero hlen.symm)
      rw [← hlen] at HO
      obtain ⟨g', cap', rfl, hc', hbr'⟩ := BR.of_own HO.out hne'
      have HBR' := Lib.hid hbr'
      clear hbr' hne' hlen
      go_wp2
      go_ret
      exact ⟨g', cap', rfl, hc', HBR'.out, HB.out⟩
end Go.Proofs.YtaekhbhjgcmghaaDoor
