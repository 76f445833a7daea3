/- The walk of EvaluateValue. -/
import Derived.Deep.CutBlock
import Derived.Deep.DeepCutAuto
import Derived.Lib.QuietBelow
import Derived.Test.YtknpigdpepmimaaGreatDoorV26
import Derived.Test.YtknpigdpepmimaaGreatDoorV33
import Derived.Test.YtknpigdpepmimaaGreatDoorV35
import Derived.Test.YtknpigdpepmimaaGreatDoorTie
import Derived.LaidMore
import Derived.Stop.Joined
import Derived.Lib.LaidTab
import Derived.Lay
import Derived.Test.YtknpigdpepmimaaGreatDoorV21
import Derived.ProofKit
import Derived.OpenShut
import Derived.ChangeOld
import Derived.Deep.Fields
namespace Go.Proofs.YtknpigdpepmimaaGreatDoor
open Go.Lib(hid)
open Go.RowKit Go.Maps
structure F5 (B rb:Nat)(cs:Array Value)(vn vv:Value)(ns:List W8)(vs:List V)(r:R)(L:Nat→Bool)(x:Nat→Value)(w:World)(nb sb m:Nat) (q:Value):Prop where
 f0:L 0=true→x 19=.agg cs
 f1:L 1=true→L 4=false→x 20=.slice (some ⟨nb,0,none⟩) 0 0∧RL w B (.slice (some ⟨nb,0,none⟩) 0 0) []
 f2:L 2=true→x 21=.pointer (some ⟨rb,0,none⟩)
 f3:L 3=true→x 22=vn
 f4:L 4=true→L 9=false→∃ c,x 23=.slice (some ⟨nb,0,none⟩) ns.length c∧RL w B (.slice (some ⟨nb,0,none⟩) ns.length c) ns
 f5:L 5=true→L 8=false→x 24=.slice (some ⟨sb,0,none⟩) 0 0∧OV w B (.slice (some ⟨sb,0,none⟩) 0 0) []
 f6:L 6=true→x 25=.pointer (some ⟨rb,1,none⟩)
 f7:L 7=true→x 26=vv
 f8:L 8=true→L 9=false→∃ c,x 27=.slice (some ⟨sb,0,none⟩) vs.length c∧OV w B (.slice (some ⟨sb,0,none⟩) vs.length c) vs
 f9:L 9=true→x 28=.tuple #[.agg r.v.cells,q,.int .i64 r.e]
 fq:L 9=true→BI w q r.path∧(L 14=true→r.path≠[]→∀ b o n c,q=.slice (some ⟨b,o,none⟩) n c→b≠m)
 f10:L 10=true→x 18=.tuple #[.agg r.v.cells,q,.int .i64 r.e]
 f11:L 11=true→x 29=.agg r.v.cells
 f12:L 12=true→x 30=q
 f13:L 13=true→x 31=.int .i64 r.e
 f14:L 14=true→x 5=.pointer (some ⟨m,0,none⟩)
 fk:L 14=true→K9 w m (if L 15=true then r.v else zV)
 f16:L 16=true→x 6=q
 f17:L 17=true→x 7=.int .i64 r.e
 d1:L 1=true→L 5=true→nb≠sb
 d3:L 1=true→L 14=true→nb≠m
 d4:L 5=true→L 14=true→sb≠m
 g1:L 1=true→nb<w.heap.size
 g5:L 5=true→sb<w.heap.size
 g14:L 14=true→m<w.heap.size
 b14:L 14=true→B≤m
 c4:L 4=true→L 1=true
 c8:L 8=true→L 4=true∧L 5=true
 c9:L 9=true→L 4=true∧L 5=true∧L 8=true
 c10:L 10=true→L 9=true
 c11:L 11=true→L 9=true
 c12:L 12=true→L 9=true
 c13:L 13=true→L 9=true
 c16:L 16=true→L 9=true
 c17:L 17=true→L 9=true
 c15:L 15=true→L 14=true∧L 9=true
def D5:List Nat:=[5,6,7,18,19,20,21,22,23,24,25,26,27,28,29,30,31]
theorem listed_upd {listed:Array Bool}{L:Nat→Bool}{i:Nat}(hs:i<listed.size)(h:∀ j,listed.getD j false=L j):∀ j,(listed.setIfInBounds i true).getD j false=updS L i true j:=fun j=>by
 by_cases q:j=i
 ·subst q; rw [set_at hs,updS_same]
 ·rw [set_off (Ne.symm q),updS_ne _ _ q,h j]
def I5 (w0:World)(bt rb:Nat)(cs:Array Value)(vn vv:Value)(ns:List W8)(vs:List V)(r:R)(a0:Act)(listed:Array Bool)(b:Act)(w:World):Prop:=
 (a0.tmps[2]?.getD undef=.pointer (some ⟨bt,0,none⟩)∧a0.tmps[3]?.getD undef=.pointer (some ⟨rb,0,none⟩)∧a0.tmps.size=83)∧
 ∃ x L nb sb m q,b=AF D5 a0 x∧listed.size=18∧(∀ j,listed.getD j false=L j)∧Below w0.heap.size w0 w∧F5 w0.heap.size rb cs vn vv ns vs r L x w nb sb m q
theorem own_far {w w':World}{B e size n g h:Nat}{k c:Nat}{xs:List Value}(ho:w.ownsRow B e size (.slice (some ⟨g,0,none⟩) k c) n xs)(hg:w.grownBy w' (some h))(hne:g≠h):w'.ownsRow B e size (.slice (some ⟨g,0,none⟩) k c) n xs:=
 World.ownsRow.kept ho hg (.inr fun q=>hne (Option.some.inj q))
theorem k9_far {w w':World}{m h:Nat}{v:V}(hk:K9 w m v)(hg:w.grownBy w' (some h))(hne:m≠h):K9 w' m v:=
 (hg.block m hk.cells.2.2 fun q=>hne (Option.some.inj q)).trans hk
theorem valueR_tidy (t:T)(ns:List W8)(vs:List V):Tidy (valueR t ns vs):=by
 unfold valueR;split
 ·split
  ·exact ev_tidy t.size t (Nat.le_refl _) _ _
  ·exact tidy_er _
 ·exact tidy_er _
theorem valueR_fit (t:T)(ns:List W8)(vs:List V):(valueR t ns vs).v.fit:=by
 by_cases he:(valueR t ns vs).e=0
 ·have ok:(valueR t ns vs).v.ok:=by
   unfold valueR at he ⊢;by_cases h1:envB ns vs=true
   ·rw [if_pos h1]at he ⊢
    by_cases h2:validB t=true
    ·rw [if_pos h2]at he ⊢
     exact ev_ok t.size t (Nat.le_refl _) _ (env_ok h1) 0 he
    ·rw [if_neg h2]at he; exact absurd he (by unfold erR; decide)
   ·rw [if_neg h1]at he; exact absurd he (by unfold erR; decide)
  have h1:=ok.bnd
  unfold V.fit;omega
 ·rw [(valueR_tidy t ns vs).2 he]
  unfold V.fit zV;decide
set_option maxRecDepth 100000 in
set_option maxHeartbeats 8000000 in
theorem valueE_walk (t:T)(A:Option Addr) (c:Nat)(An Av:Option Addr)(cn cv:Nat)(ns:List W8)(vs:List V)(wA:World)(hv:TV wA wA.heap.size t A c)(hn:SL wA wA.heap.size (.slice An ns.length cn) ns)(hvv:SV wA (.slice Av vs.length cv) vs)(hfit:∀ x∈vs,x.fit)(hm:Max wA)(ht:Tab wA)(hnil:(∀ l c',Value.slice An l cn=.slice none 0 c'→c'=0)∧(∀ l c',Value.slice Av l cv=.slice none 0 c'→c'=0)):
  Calls Tryz.prog 7 #[.agg (tv t A c),.agg #[.slice An ns.length cn,.slice Av vs.length cv]] wA fun e w'=>e=.returned (.bool true)∧Below wA.heap.size wA w':=by
 have hb0:=b2 wA (.cells (tv t A c) 24) (.cells #[.slice An ns.length cn,.slice Av vs.length cv] 28)
 have HB:=hid hb0
 have HM:=hid fun (wz:World)(h:Below wA.heap.size wA wz)=>hm.reach h
 have HN:=hid fun (wz:World)(h:Below wA.heap.size wA wz)=>(hn.below h).more h.size
 have HV:=hid fun (wz:World)(h:Below wA.heap.size wA wz)=>hvv.reach h
 have HT:=hid fun (wz:World)(h:Below wA.heap.size wA wz)=>ht.below h
 have HX1:Hid (Bxd ((wA.alloc (.cells (tv t A c) 24)).alloc (.cells #[.slice An ns.length cn,.slice Av vs.length cv] 28)) wA.heap.size t A c):=(bxd_new wA t A c).below (b1 _ _) (by simp)
 have HX2:Hid (Rmx ((wA.alloc (.cells (tv t A c) 24)).alloc (.cells #[.slice An ns.length cn,.slice Av vs.length cv] 28)) (wA.heap.size+1) (.slice An ns.length cn) (.slice Av vs.length cv)):=by
  have h:=rmx_new (wA.alloc (.cells (tv t A c) 24)) (.slice An ns.length cn) (.slice Av vs.length cv)
  rw [World.size_alloc]at h
  exact h
 have HSZ:Hid (((wA.alloc (.cells (tv t A c) 24)).alloc (.cells #[.slice An ns.length cn,.slice Av vs.length cv] 28)).heap.size=wA.heap.size+2):=by show _=_; simp
 have HFW:=hid fun (wz:World)(h:Below wA.heap.size wA wz)=>few10_any t A c An Av cn cv ns vs wz (hv.reach h) ((hn.below h).more h.size) (by obtain ⟨_,_,e,h2,_⟩:=hvv; omega)
 have HVC:=hid fun (hsa:SA t)(hsn:∀ x∈ns,x.length≤1000)(wz:World)(na va:Value)(h:Below wA.heap.size wA wz)(h1:SL wz wz.heap.size na ns)(h2:SV wz va vs)=>value_any t A c na va ns vs wz (hv.reach h) hsa (hm.reach h) h1 h2 hsn hfit
 have HRC:=hid fun (hsa:SA t)(hsn:∀ x∈ns,x.length≤1000)(wz:World)(h:Below wA.heap.size wA wz)=>rvalue_any t A c (.slice An ns.length cn) (.slice Av vs.length cv) ns vs wz (hv.reach h) hsa ((hn.below h).more h.size) (hvv.reach h) hsn hfit (fun c' h=>hnil.1 _ c' h) (fun c' h=>hnil.2 _ c' h)
 have HZN:Hid (∀ c',Value.slice An ns.length cn=.slice none 0 c'→c'=0):=fun c' h=>hnil.1 _ c' h
 have HZV:Hid (∀ c',Value.slice Av vs.length cv=.slice none 0 c'→c'=0):=fun c' h=>hnil.2 _ c' h
 have HFIT:=hid hfit
 have HRF:=hid (valueR_fit t ns vs)
 have HVL0:Hid (vs.length≤9223372036854775807):=by obtain ⟨_,_,e,h2,_⟩:=hvv; show _≤_; omega
 clear hv hn hvv hm ht hnil hb0 hfit;unfold tv at HFW HVC HRC;generalize valueR t ns vs=r at*;go_enter Tryz.func7,Tryz.ntmps7;go_upto_region 1 with (fail);generalize (wA.alloc (.cells (tv t A c) 24)).alloc (.cells #[.slice An ns.length cn,.slice Av vs.length cv] 28)=w1 at*;go_wp2_with fail;refine (awake9_any _ (HM.out _ HB.out)).mono ?_
 rintro e w2 ⟨rfl,hb2⟩
 have HB2:=hid (bl_tr HB.out hb2)
 have HX1b:=hid (HX1.out.below hb2 (by have:=HSZ.out; omega))
 have HX2b:=hid (HX2.out.below hb2 (by have:=HSZ.out; omega))
 have HS2:Hid (wA.heap.size+2≤w2.heap.size):=by have h1:=HSZ.out; have h2:=hb2.size; show _≤_; omega
 clear hb2 HX1 HX2 HSZ;obtain ⟨k0,k1,k2,k3,k4⟩:=HX1b.out
 obtain ⟨r0,r1⟩:=HX2b.out
 have HC1:=hid (HFW.out w2 HB2.out)
 go_wp2_with fail;refine HC1.out.mono ?_
 rintro e w3 ⟨rfl,hb3⟩
 have HB3:=hid (bl_tr HB2.out hb3)
 have HX:=hid fun (wz:World)(h:Below w3.heap.size w3 wz)=>And.intro (HX1b.out.below (bl_tr hb3 h) (by have:=HS2.out; omega)) (HX2b.out.below (bl_tr hb3 h) (by have:=HS2.out; omega))
 clear hb3 k0 k1 k2 k3 k4 r0 r1 HC1 HX1b HX2b HFW;cases hfe:fewE t ns vs with
 | false=>
  clear hfe;go_wp2_with fail;go_ret;exact ⟨rfl,HB3.out⟩
 | true=>
  have HST:=hid (fewE_SA hfe)
  have HNS:Hid (∀ x∈ns,x.length≤1000):=fun x hx=>Nat.le_trans (HST.out.2.1 x hx) (by omega)
  have HNL:Hid (ns.length≤1000):=by have:=HST.out.2.2.1; show _≤_; omega
  have HVL:Hid (vs.length≤1000):=by have:=HST.out.2.2.2; show _≤_; omega
  have HVC2:=hid (HVC.out HST.out.1 HNS.out)
  have HRC2:=hid (HRC.out HST.out.1 HNS.out)
  have HBX:=hid fun (wz:World)(h:Below w3.heap.size w3 wz)=>bl_tr HB3.out h
  have HN3:=hid fun (wz:World)(h:Below w3.heap.size w3 wz)=>HN.out wz (bl_tr HB3.out h)
  have HV3:=hid fun (wz:World)(h:Below w3.heap.size w3 wz)=>HV.out wz (bl_tr HB3.out h)
  clear hfe HVC HRC;go_upto_region 5 with (fail);go_cut [5,6,7] (fun s5 s6 s7 wx=>∃ (m:Nat)(A5:Option Addr) (c5:Nat),s5=.pointer (some ⟨m,0,none⟩)∧s6=.slice A5 r.path.length c5∧s7=.int .i64 r.e∧Aside (K9 wx m r.v)∧Aside (BI wx (.slice A5 r.path.length c5) r.path)∧Aside (Below w3.heap.size w3 wx))
  case first=>
   refine wp_region_noPanic ?_
   refine wp_region_inv (I5 w3 wA.heap.size (wA.heap.size+1) #[.int .i64 t.kind,.string ⟨t.name.toArray⟩,.string ⟨t.var.toArray⟩,.slice A t.args.length c,.string ⟨t.form.toArray⟩] (.slice An ns.length cn) (.slice Av vs.length cv) ns vs r) (by kernel_rfl) ?_ ?_ ?_
   ·refine ⟨⟨by rfl,by rfl,by rfl⟩,fun j=>Act.eval _ (.tmp j),fun _=>false,0,0,0,.slice none 0 0,(AF_self _ _).symm,by rfl,fun j=>?_,bl_dr (Below.refl _ _),⟨(fun h=>nomatch h),(fun h=>nomatch h),(fun h=>nomatch h),(fun h=>nomatch h),(fun h=>nomatch h),(fun h=>nomatch h),(fun h=>nomatch h),(fun h=>nomatch h),(fun h=>nomatch h),(fun h=>nomatch h),(fun h=>nomatch h),(fun h=>nomatch h),(fun h=>nomatch h),(fun h=>nomatch h),(fun h=>nomatch h),(fun h=>nomatch h),(fun h=>nomatch h),(fun h=>nomatch h),(fun h=>nomatch h),(fun h=>nomatch h),(fun h=>nomatch h),(fun h=>nomatch h),(fun h=>nomatch h),(fun h=>nomatch h),(fun h=>nomatch h),(fun h=>nomatch h),(fun h=>nomatch h),(fun h=>nomatch h),(fun h=>nomatch h),(fun h=>nomatch h),(fun h=>nomatch h),(fun h=>nomatch h),(fun h=>nomatch h),(fun h=>nomatch h),(fun h=>nomatch h),(fun h=>nomatch h)⟩⟩
    rcases Nat.lt_or_ge j 18 with q|q<;>simp [q]
   ·intro a0 listed b w i hI hi
    obtain ⟨ha0,x,L,nb,sb,m,q,rfl,hsz,hL,hbel,hF⟩:=hI
    obtain ⟨hlt,hnew⟩:=ready_new hi hsz
    have hlt18:i<18:=hlt
    have HF:=hid hF
    have HLL:=hid hL
    have HBL:=hid hbel
    have HA0:=hid ha0
    have HSL:=hid hsz
    have HII:=hid hi
    clear hF hL hbel ha0 hsz hi hlt;rcases (show i=0∨i=1∨i=2∨i=3∨i=4∨i=5∨i=6∨i=7∨i=8∨i=9∨i=10∨i=11∨i=12∨i=13∨i=14∨i=15∨i=16∨i=17 by omega)with rfl|rfl|rfl|rfl|rfl|rfl|rfl|rfl|rfl|rfl|rfl|rfl|rfl|rfl|rfl|rfl|rfl|rfl
    ·have hn:L 0=false:=(HLL.out 0).symm.trans hnew
     have e2:(AF D5 a0 x).tmps[2]?.getD undef=.pointer (some ⟨wA.heap.size,0,none⟩):=(AF_off (by decide)).trans HA0.out.1
     obtain ⟨⟨k0,k1,k2,k3,k4⟩,⟨r0,r1⟩⟩:=HX.out w HBL.out
     refine wpOp_step rfl fun K hK=>?_
     go_simp
     refine hK _ _ ?_
     exact ⟨HA0.out,updS x 19 (.agg #[.int .i64 t.kind,.string ⟨t.name.toArray⟩,.string ⟨t.var.toArray⟩,.slice A t.args.length c,.string ⟨t.form.toArray⟩]),updS L 0 true,nb,sb,m,q,AF_put (k:=19) (by decide) (by rw [HA0.out.2.2]; decide) _,by simp [HSL.out],listed_upd (by rw [HSL.out]; decide) HLL.out,HBL.out,{ HF.out with f0:=(fun _=>rfl) }⟩
    ·have hn:L 1=false:=(HLL.out 1).symm.trans hnew
     have N4:¬ L 4=true:=fun h=>by rw [(HF.out.c4 h)]at hn; cases hn
     refine wpOp_step rfl fun K hK=>?_
     go_simp
     refine hK _ _ ?_
     exact ⟨HA0.out,updS x 20 (.slice (some ⟨w.heap.size,0,none⟩) 0 0),updS L 1 true,w.heap.size,sb,m,q,AF_put (k:=20) (by decide) (by rw [HA0.out.2.2]; decide) _,by simp [HSL.out],listed_upd (by rw [HSL.out]; decide) HLL.out,bl_al HBL.out _,{ HF.out with f1:=(fun _ _=>⟨rfl,rl_lit w _ HBL.out.size⟩),f4:=(fun h h2=>absurd h N4),f5:=(fun h h2=>⟨(HF.out.f5 h h2).1,World.ownsRow.alloc (HF.out.f5 h h2).2 _⟩),f8:=(fun h h2=>by obtain ⟨c,q1,q2⟩:=HF.out.f8 h h2; exact ⟨c,q1,World.ownsRow.alloc q2 _⟩),fq:=(fun h=>⟨(HF.out.fq h).1.reach (b1 w _),(HF.out.fq h).2⟩),fk:=(fun h=>(HF.out.fk h).reach (b1 w _)),g1:=(fun _=>by rw [World.size_alloc]; exact Nat.lt_succ_self _),g5:=(fun h=>Nat.lt_of_lt_of_le (HF.out.g5 h) (b1 w _).size),g14:=(fun h=>Nat.lt_of_lt_of_le (HF.out.g14 h) (b1 w _).size),d1:=(fun _ h=>Nat.ne_of_gt (HF.out.g5 h)),d3:=(fun _ h=>Nat.ne_of_gt (HF.out.g14 h)),c4:=(fun _=>rfl) }⟩
    ·have hn:L 2=false:=(HLL.out 2).symm.trans hnew
     have e3:(AF D5 a0 x).tmps[3]?.getD undef=.pointer (some ⟨(wA.heap.size+1),0,none⟩):=(AF_off (by decide)).trans HA0.out.2.1
     refine wpOp_step rfl fun K hK=>?_
     go_simp
     refine hK _ _ ?_
     exact ⟨HA0.out,updS x 21 (.pointer (some ⟨(wA.heap.size+1),0,none⟩)),updS L 2 true,nb,sb,m,q,AF_put (k:=21) (by decide) (by rw [HA0.out.2.2]; decide) _,by simp [HSL.out],listed_upd (by rw [HSL.out]; decide) HLL.out,HBL.out,{ HF.out with f2:=(fun _=>rfl) }⟩
    ·have hn:L 3=false:=(HLL.out 3).symm.trans hnew
     have h2:L 2=true:=(HLL.out 2).symm.trans (pre_listed (p:=2) HII.out rfl (by kernel_rfl))
     have e21:(AF D5 a0 x).tmps[21]?.getD undef=.pointer (some ⟨(wA.heap.size+1),0,none⟩):=(AF_at (by decide) (by rw [HA0.out.2.2]; decide)).trans (HF.out.f2 h2)
     obtain ⟨⟨k0,k1,k2,k3,k4⟩,⟨r0,r1⟩⟩:=HX.out w HBL.out
     refine wpOp_step rfl fun K hK=>?_
     go_simp
     refine hK _ _ ?_
     exact ⟨HA0.out,updS x 22 (.slice An ns.length cn),updS L 3 true,nb,sb,m,q,AF_put (k:=22) (by decide) (by rw [HA0.out.2.2]; decide) _,by simp [HSL.out],listed_upd (by rw [HSL.out]; decide) HLL.out,HBL.out,{ HF.out with f3:=(fun _=>rfl) }⟩
    ·have hn:L 4=false:=(HLL.out 4).symm.trans hnew
     have h1:L 1=true:=(HLL.out 1).symm.trans (pre_listed (p:=1) HII.out rfl (by kernel_rfl))
     have h3:L 3=true:=(HLL.out 3).symm.trans (pre_listed (p:=3) HII.out rfl (by kernel_rfl))
     obtain ⟨x20,hown⟩:=HF.out.f1 h1 hn
     have e20:(AF D5 a0 x).eval (.tmp 20)=.slice (some ⟨nb,0,none⟩) 0 0:=(AF_ev (by decide) (by rw [HA0.out.2.2]; decide)).trans (x20)
     have e22:(AF D5 a0 x).eval (.tmp 22)=(.slice An ns.length cn):=(AF_ev (by decide) (by rw [HA0.out.2.2]; decide)).trans (HF.out.f3 h3)
     refine wpOp_step rfl fun K hK=>?_
     refine app30w w rfl _ _ rfl w3.heap.size nb hown e20 (.slice An ns.length cn) ns e22 (HN3.out w HBL.out) HZN.out HNL.out HBL.out.size ?_
     intro g7 c7 w7 hrl hgr hg7;refine hK _ _ ?_
     exact ⟨HA0.out,updS x 23 (.slice (some ⟨g7,0,none⟩) ns.length c7),updS L 4 true,g7,sb,m,q,AF_put (k:=23) (by decide) (by rw [HA0.out.2.2]; decide) _,by simp [HSL.out],listed_upd (by rw [HSL.out]; decide) HLL.out,HBL.out.grown hgr HBL.out.size (fun k hk=>(hown.lt k hk).1),{ HF.out with f5:=(fun h h2=>⟨(HF.out.f5 h h2).1,own_far (HF.out.f5 h h2).2 hgr (Ne.symm (HF.out.d1 h1 h))⟩),f4:=(fun _ _=>⟨c7,rfl,hrl⟩),f1:=(fun _ h=>nomatch h),f8:=(fun h _=>absurd (HF.out.c8 h).1 (by rw [hn]; decide)),fq:=(fun h=>absurd (HF.out.c9 h).1 (by rw [hn]; decide)),fk:=(fun h=>k9_far (HF.out.fk h) hgr (Ne.symm (HF.out.d3 h1 h))),d1:=(fun _ h=>by rcases hg7 with rfl|rfl<;>first|exact HF.out.d1 h1 h|exact Nat.ne_of_gt (HF.out.g5 h)),d3:=(fun _ h=>by rcases hg7 with rfl|rfl<;>first|exact HF.out.d3 h1 h|exact Nat.ne_of_gt (HF.out.g14 h)),g1:=(fun _=>(hrl.lt _ rfl).2),g5:=(fun h=>Nat.lt_of_lt_of_le (HF.out.g5 h) hgr.size),g14:=(fun h=>Nat.lt_of_lt_of_le (HF.out.g14 h) hgr.size),c4:=(fun _=>h1),c8:=(fun h=>absurd (HF.out.c8 h).1 (by rw [hn]; decide)),c9:=(fun h=>absurd (HF.out.c9 h).1 (by rw [hn]; decide)) }⟩
    ·have hn:L 5=false:=(HLL.out 5).symm.trans hnew
     refine wpOp_step rfl fun K hK=>?_
     go_simp
     refine hK _ _ ?_
     exact ⟨HA0.out,updS x 24 (.slice (some ⟨w.heap.size,0,none⟩) 0 0),updS L 5 true,nb,w.heap.size,m,q,AF_put (k:=24) (by decide) (by rw [HA0.out.2.2]; decide) _,by simp [HSL.out],listed_upd (by rw [HSL.out]; decide) HLL.out,bl_al HBL.out _,{ HF.out with f1:=(fun h h2=>⟨(HF.out.f1 h h2).1,World.ownsRow.alloc (HF.out.f1 h h2).2 _⟩),f4:=(fun h h2=>by obtain ⟨c,q1,q2⟩:=HF.out.f4 h h2; exact ⟨c,q1,World.ownsRow.alloc q2 _⟩),f5:=(fun _ _=>⟨rfl,ov_lit w _ HBL.out.size⟩),f8:=(fun h _=>absurd (HF.out.c8 h).2 (by rw [hn]; decide)),fq:=(fun h=>⟨(HF.out.fq h).1.reach (b1 w _),(HF.out.fq h).2⟩),fk:=(fun h=>(HF.out.fk h).reach (b1 w _)),g1:=(fun h=>Nat.lt_of_lt_of_le (HF.out.g1 h) (b1 w _).size),g5:=(fun _=>by rw [World.size_alloc]; exact Nat.lt_succ_self _),g14:=(fun h=>Nat.lt_of_lt_of_le (HF.out.g14 h) (b1 w _).size),d1:=(fun h _=>Nat.ne_of_lt (HF.out.g1 h)),d4:=(fun _ h=>Nat.ne_of_gt (HF.out.g14 h)),c8:=(fun h=>⟨(HF.out.c8 h).1,rfl⟩),c9:=(fun h=>⟨(HF.out.c9 h).1,rfl,(HF.out.c9 h).2.2⟩) }⟩
    ·have hn:L 6=false:=(HLL.out 6).symm.trans hnew
     have e3:(AF D5 a0 x).tmps[3]?.getD undef=.pointer (some ⟨(wA.heap.size+1),0,none⟩):=(AF_off (by decide)).trans HA0.out.2.1
     refine wpOp_step rfl fun K hK=>?_
     go_simp
     refine hK _ _ ?_
     exact ⟨HA0.out,updS x 25 (.pointer (some ⟨(wA.heap.size+1),1,none⟩)),updS L 6 true,nb,sb,m,q,AF_put (k:=25) (by decide) (by rw [HA0.out.2.2]; decide) _,by simp [HSL.out],listed_upd (by rw [HSL.out]; decide) HLL.out,HBL.out,{ HF.out with f6:=(fun _=>rfl) }⟩
    ·have hn:L 7=false:=(HLL.out 7).symm.trans hnew
     have h6:L 6=true:=(HLL.out 6).symm.trans (pre_listed (p:=6) HII.out rfl (by kernel_rfl))
     have e25:(AF D5 a0 x).tmps[25]?.getD undef=.pointer (some ⟨(wA.heap.size+1),1,none⟩):=(AF_at (by decide) (by rw [HA0.out.2.2]; decide)).trans (HF.out.f6 h6)
     obtain ⟨⟨k0,k1,k2,k3,k4⟩,⟨r0,r1⟩⟩:=HX.out w HBL.out
     refine wpOp_step rfl fun K hK=>?_
     go_simp
     refine hK _ _ ?_
     exact ⟨HA0.out,updS x 26 (.slice Av vs.length cv),updS L 7 true,nb,sb,m,q,AF_put (k:=26) (by decide) (by rw [HA0.out.2.2]; decide) _,by simp [HSL.out],listed_upd (by rw [HSL.out]; decide) HLL.out,HBL.out,{ HF.out with f7:=(fun _=>rfl) }⟩
    ·have hn:L 8=false:=(HLL.out 8).symm.trans hnew
     have h4:L 4=true:=(HLL.out 4).symm.trans (pre_listed (p:=4) HII.out rfl (by kernel_rfl))
     have h5:L 5=true:=(HLL.out 5).symm.trans (pre_listed (p:=5) HII.out rfl (by kernel_rfl))
     have h7:L 7=true:=(HLL.out 7).symm.trans (pre_listed (p:=7) HII.out rfl (by kernel_rfl))
     obtain ⟨x24,hown⟩:=HF.out.f5 h5 hn
     have e24:(AF D5 a0 x).eval (.tmp 24)=.slice (some ⟨sb,0,none⟩) 0 0:=(AF_ev (by decide) (by rw [HA0.out.2.2]; decide)).trans (x24)
     have e26:(AF D5 a0 x).eval (.tmp 26)=(.slice Av vs.length cv):=(AF_ev (by decide) (by rw [HA0.out.2.2]; decide)).trans (HF.out.f7 h7)
     refine wpOp_step rfl fun K hK=>?_
     refine app26w w rfl _ _ rfl w3.heap.size sb hown e24 (.slice Av vs.length cv) vs e26 (HV3.out w HBL.out) HZV.out HVL.out HBL.out.size ?_
     intro g7 c7 w7 hrl hgr hg7;refine hK _ _ ?_
     exact ⟨HA0.out,updS x 27 (.slice (some ⟨g7,0,none⟩) vs.length c7),updS L 8 true,nb,g7,m,q,AF_put (k:=27) (by decide) (by rw [HA0.out.2.2]; decide) _,by simp [HSL.out],listed_upd (by rw [HSL.out]; decide) HLL.out,HBL.out.grown hgr HBL.out.size (fun k hk=>(hown.lt k hk).1),{ HF.out with f1:=(fun _ h=>absurd (h4.symm.trans h) (by decide)),f4:=(fun h h2=>by obtain ⟨c,q1,q2⟩:=HF.out.f4 h h2; exact ⟨c,q1,own_far q2 hgr (HF.out.d1 (HF.out.c4 h) h5)⟩),f5:=(fun _ h=>nomatch h),f8:=(fun _ _=>⟨c7,rfl,hrl⟩),fq:=(fun h=>absurd (HF.out.c9 h).2.2 (by rw [hn]; decide)),fk:=(fun h=>k9_far (HF.out.fk h) hgr (Ne.symm (HF.out.d4 h5 h))),d1:=(fun h _=>by rcases hg7 with rfl|rfl<;>first|exact HF.out.d1 h h5|exact Nat.ne_of_lt (HF.out.g1 h)),d4:=(fun _ h=>by rcases hg7 with rfl|rfl<;>first|exact HF.out.d4 h5 h|exact Nat.ne_of_gt (HF.out.g14 h)),g1:=(fun h=>Nat.lt_of_lt_of_le (HF.out.g1 h) hgr.size),g5:=(fun _=>(hrl.lt _ rfl).2),g14:=(fun h=>Nat.lt_of_lt_of_le (HF.out.g14 h) hgr.size),c8:=(fun _=>⟨h4,h5⟩),c9:=(fun h=>absurd (HF.out.c9 h).2.2 (by rw [hn]; decide)) }⟩
    ·have hn:L 9=false:=(HLL.out 9).symm.trans hnew
     have h0:L 0=true:=(HLL.out 0).symm.trans (pre_listed (p:=0) HII.out rfl (by kernel_rfl))
     have h4:L 4=true:=(HLL.out 4).symm.trans (pre_listed (p:=4) HII.out rfl (by kernel_rfl))
     have h8:L 8=true:=(HLL.out 8).symm.trans (pre_listed (p:=8) HII.out rfl (by kernel_rfl))
     obtain ⟨c1,x23,hrn⟩:=HF.out.f4 h4 hn
     obtain ⟨c2,x27,hrv⟩:=HF.out.f8 h8 hn
     have e19:(AF D5 a0 x).tmps[19]?.getD undef=.agg #[.int .i64 t.kind,.string ⟨t.name.toArray⟩,.string ⟨t.var.toArray⟩,.slice A t.args.length c,.string ⟨t.form.toArray⟩]:=(AF_at (by decide) (by rw [HA0.out.2.2]; decide)).trans (HF.out.f0 h0)
     have e23:(AF D5 a0 x).tmps[23]?.getD undef=.slice (some ⟨nb,0,none⟩) ns.length c1:=(AF_at (by decide) (by rw [HA0.out.2.2]; decide)).trans (x23)
     have e27:(AF D5 a0 x).tmps[27]?.getD undef=.slice (some ⟨sb,0,none⟩) vs.length c2:=(AF_at (by decide) (by rw [HA0.out.2.2]; decide)).trans (x27)
     have HC:=hid (HVC2.out w _ _ (HBX.out w HBL.out) (RL.sl hrn) (OV.sv hrv))
     refine wpOp_step rfl fun K hK=>?_
     go_simp
     refine HC.out.mono ?_
     rintro e w' ⟨q',rfl,hbo,hb⟩
     refine hK _ _ ?_
     exact ⟨HA0.out,updS x 28 (.tuple #[.agg r.v.cells,q',.int .i64 r.e]),updS L 9 true,nb,sb,m,q',AF_put (k:=28) (by decide) (by rw [HA0.out.2.2]; decide) _,by simp [HSL.out],listed_upd (by rw [HSL.out]; decide) HLL.out,bl_tr HBL.out hb,{ HF.out with f1:=(fun _ h=>absurd (h4.symm.trans h) (by decide)),f4:=(fun _ h=>nomatch h),f5:=(fun _ h=>absurd (h8.symm.trans h) (by decide)),f8:=(fun _ h=>nomatch h),f9:=(fun _=>rfl),fq:=(fun _=>⟨hbo.1,fun h _ b o n c e=>Nat.ne_of_gt (Nat.lt_of_lt_of_le (HF.out.g14 h) (hbo.2 b o n c e))⟩),f10:=(fun h=>absurd (HF.out.c10 h) (by rw [hn]; decide)),f11:=(fun h=>absurd (HF.out.c11 h) (by rw [hn]; decide)),f12:=(fun h=>absurd (HF.out.c12 h) (by rw [hn]; decide)),f13:=(fun h=>absurd (HF.out.c13 h) (by rw [hn]; decide)),f16:=(fun h=>absurd (HF.out.c16 h) (by rw [hn]; decide)),f17:=(fun h=>absurd (HF.out.c17 h) (by rw [hn]; decide)),fk:=(fun h=>(HF.out.fk h).reach hb),g1:=(fun h=>Nat.lt_of_lt_of_le (HF.out.g1 h) hb.size),g5:=(fun h=>Nat.lt_of_lt_of_le (HF.out.g5 h) hb.size),g14:=(fun h=>Nat.lt_of_lt_of_le (HF.out.g14 h) hb.size),c9:=(fun _=>⟨h4,(HF.out.c8 h8).2,h8⟩),c15:=(fun h=>⟨(HF.out.c15 h).1,rfl⟩),c10:=(fun _=>rfl),c11:=(fun _=>rfl),c12:=(fun _=>rfl),c13:=(fun _=>rfl),c16:=(fun _=>rfl),c17:=(fun _=>rfl) }⟩
    ·have hn:L 10=false:=(HLL.out 10).symm.trans hnew
     have h9:L 9=true:=(HLL.out 9).symm.trans (pre_listed (p:=9) HII.out rfl (by kernel_rfl))
     have e28:(AF D5 a0 x).tmps[28]?.getD undef=.tuple #[.agg r.v.cells,q,.int .i64 r.e]:=(AF_at (by decide) (by rw [HA0.out.2.2]; decide)).trans (HF.out.f9 h9)
     refine wpOp_step rfl fun K hK=>?_
     go_simp
     refine hK _ _ ?_
     exact ⟨HA0.out,updS x 18 (.tuple #[.agg r.v.cells,q,.int .i64 r.e]),updS L 10 true,nb,sb,m,q,AF_put (k:=18) (by decide) (by rw [HA0.out.2.2]; decide) _,by simp [HSL.out],listed_upd (by rw [HSL.out]; decide) HLL.out,HBL.out,{ HF.out with f10:=(fun _=>rfl),c10:=(fun _=>h9) }⟩
    ·have hn:L 11=false:=(HLL.out 11).symm.trans hnew
     have h10:L 10=true:=(HLL.out 10).symm.trans (pre_listed (p:=10) HII.out rfl (by kernel_rfl))
     have e18:(AF D5 a0 x).tmps[18]?.getD undef=.tuple #[.agg r.v.cells,q,.int .i64 r.e]:=(AF_at (by decide) (by rw [HA0.out.2.2]; decide)).trans (HF.out.f10 h10)
     refine wpOp_step rfl fun K hK=>?_
     go_simp
     refine hK _ _ ?_
     exact ⟨HA0.out,updS x 29 (.agg r.v.cells),updS L 11 true,nb,sb,m,q,AF_put (k:=29) (by decide) (by rw [HA0.out.2.2]; decide) _,by simp [HSL.out],listed_upd (by rw [HSL.out]; decide) HLL.out,HBL.out,{ HF.out with f11:=(fun _=>rfl),c11:=(fun _=>HF.out.c10 h10) }⟩
    ·have hn:L 12=false:=(HLL.out 12).symm.trans hnew
     have h10:L 10=true:=(HLL.out 10).symm.trans (pre_listed (p:=10) HII.out rfl (by kernel_rfl))
     have e18:(AF D5 a0 x).tmps[18]?.getD undef=.tuple #[.agg r.v.cells,q,.int .i64 r.e]:=(AF_at (by decide) (by rw [HA0.out.2.2]; decide)).trans (HF.out.f10 h10)
     refine wpOp_step rfl fun K hK=>?_
     go_simp
     refine hK _ _ ?_
     exact ⟨HA0.out,updS x 30 q,updS L 12 true,nb,sb,m,q,AF_put (k:=30) (by decide) (by rw [HA0.out.2.2]; decide) _,by simp [HSL.out],listed_upd (by rw [HSL.out]; decide) HLL.out,HBL.out,{ HF.out with f12:=(fun _=>rfl),c12:=(fun _=>HF.out.c10 h10) }⟩
    ·have hn:L 13=false:=(HLL.out 13).symm.trans hnew
     have h10:L 10=true:=(HLL.out 10).symm.trans (pre_listed (p:=10) HII.out rfl (by kernel_rfl))
     have e18:(AF D5 a0 x).tmps[18]?.getD undef=.tuple #[.agg r.v.cells,q,.int .i64 r.e]:=(AF_at (by decide) (by rw [HA0.out.2.2]; decide)).trans (HF.out.f10 h10)
     refine wpOp_step rfl fun K hK=>?_
     go_simp
     refine hK _ _ ?_
     exact ⟨HA0.out,updS x 31 (.int .i64 r.e),updS L 13 true,nb,sb,m,q,AF_put (k:=31) (by decide) (by rw [HA0.out.2.2]; decide) _,by simp [HSL.out],listed_upd (by rw [HSL.out]; decide) HLL.out,HBL.out,{ HF.out with f13:=(fun _=>rfl),c13:=(fun _=>HF.out.c10 h10) }⟩
    ·have hn:L 14=false:=(HLL.out 14).symm.trans hnew
     have N15:L 15=false:=by
      cases h:L 15 with
      | false=>rfl
      | true=>rw [(HF.out.c15 h).1]at hn; cases hn
     refine wpOp_step rfl fun K hK=>?_
     go_simp
     refine hK _ _ ?_
     exact ⟨HA0.out,updS x 5 (.pointer (some ⟨w.heap.size,0,none⟩)),updS L 14 true,nb,sb,w.heap.size,q,AF_put (k:=5) (by decide) (by rw [HA0.out.2.2]; decide) _,by simp [HSL.out],listed_upd (by rw [HSL.out]; decide) HLL.out,bl_al HBL.out _,{ HF.out with f1:=(fun h h2=>⟨(HF.out.f1 h h2).1,World.ownsRow.alloc (HF.out.f1 h h2).2 _⟩),f4:=(fun h h2=>by obtain ⟨c,q1,q2⟩:=HF.out.f4 h h2; exact ⟨c,q1,World.ownsRow.alloc q2 _⟩),f5:=(fun h h2=>⟨(HF.out.f5 h h2).1,World.ownsRow.alloc (HF.out.f5 h h2).2 _⟩),f8:=(fun h h2=>by obtain ⟨c,q1,q2⟩:=HF.out.f8 h h2; exact ⟨c,q1,World.ownsRow.alloc q2 _⟩),fq:=(fun h=>⟨(HF.out.fq h).1.reach (b1 w _),fun _ hp b o n c e=>Nat.ne_of_lt ((HF.out.fq h).1.lt hp e)⟩),fk:=(fun _=>by have h15:L 15=false:=N15; show K9 _ _ (if L 15=true then r.v else zV); rw [h15]; exact K9.new w zV),g1:=(fun h=>Nat.lt_of_lt_of_le (HF.out.g1 h) (b1 w _).size),g5:=(fun h=>Nat.lt_of_lt_of_le (HF.out.g5 h) (b1 w _).size),g14:=(fun _=>by rw [World.size_alloc]; exact Nat.lt_succ_self _),f14:=(fun _=>rfl),d3:=(fun h _=>Nat.ne_of_lt (HF.out.g1 h)),d4:=(fun h _=>Nat.ne_of_lt (HF.out.g5 h)),b14:=(fun _=>HBL.out.size),c15:=(fun h=>⟨rfl,(HF.out.c15 h).2⟩) }⟩
    ·have hn:L 15=false:=(HLL.out 15).symm.trans hnew
     have h14:L 14=true:=(HLL.out 14).symm.trans (pre_listed (p:=14) HII.out rfl (by kernel_rfl))
     have h11:L 11=true:=(HLL.out 11).symm.trans (pre_listed (p:=11) HII.out rfl (by kernel_rfl))
     have h9:L 9=true:=(HLL.out 9).symm.trans (pre_listed (p:=9) HII.out rfl (by kernel_rfl))
     have e5:(AF D5 a0 x).tmps[5]?.getD undef=.pointer (some ⟨m,0,none⟩):=(AF_at (by decide) (by rw [HA0.out.2.2]; decide)).trans (HF.out.f14 h14)
     have e29:(AF D5 a0 x).tmps[29]?.getD undef=.agg r.v.cells:=(AF_at (by decide) (by rw [HA0.out.2.2]; decide)).trans (HF.out.f11 h11)
     unfold V.cells at e29;have hk9:K9 w m (if L 15=true then r.v else zV):=HF.out.fk h14
     obtain ⟨⟨⟨z0,z1⟩,z2,z3,z4,z5,z6,z7,z8⟩,zf,_⟩:=hk9.cells
     refine wpOp_step rfl fun K hK=>?_
     go_simp
     refine hK _ _ ?_
     exact ⟨HA0.out,x,updS L 15 true,nb,sb,m,q,rfl,by simp [HSL.out],listed_upd (by rw [HSL.out]; decide) HLL.out,below9 HBL.out (b:=m) (HF.out.b14 h14) r.v,{ HF.out with f1:=(fun _ h=>absurd ((HF.out.c9 h9).1.symm.trans h) (by decide)),f4:=(fun _ h=>absurd (h9.symm.trans h) (by decide)),f5:=(fun _ h=>absurd ((HF.out.c9 h9).2.2.symm.trans h) (by decide)),f8:=(fun _ h=>absurd (h9.symm.trans h) (by decide)),fq:=(fun _=>⟨(HF.out.fq h9).1.keep2 fun hp b o n c e hb=>⟨Nat.lt_of_lt_of_eq hb (set9_size w m r.v).symm,set9_other _ _ _ _ ((HF.out.fq h9).2 h14 hp b o n c e)⟩,(HF.out.fq h9).2⟩),fk:=(fun _=>set9_K9 hk9 r.v),g1:=(fun h=>Nat.lt_of_lt_of_eq (HF.out.g1 h) (set9_size w m r.v).symm),g5:=(fun h=>Nat.lt_of_lt_of_eq (HF.out.g5 h) (set9_size w m r.v).symm),g14:=(fun h=>Nat.lt_of_lt_of_eq (HF.out.g14 h) (set9_size w m r.v).symm),c15:=(fun _=>⟨h14,h9⟩) }⟩
    ·have hn:L 16=false:=(HLL.out 16).symm.trans hnew
     have h12:L 12=true:=(HLL.out 12).symm.trans (pre_listed (p:=12) HII.out rfl (by kernel_rfl))
     have e30:(AF D5 a0 x).tmps[30]?.getD undef=q:=(AF_at (by decide) (by rw [HA0.out.2.2]; decide)).trans (HF.out.f12 h12)
     refine wpOp_step rfl fun K hK=>?_
     go_simp
     refine hK _ _ ?_
     exact ⟨HA0.out,updS x 6 q,updS L 16 true,nb,sb,m,q,AF_put (k:=6) (by decide) (by rw [HA0.out.2.2]; decide) _,by simp [HSL.out],listed_upd (by rw [HSL.out]; decide) HLL.out,HBL.out,{ HF.out with f16:=(fun _=>rfl),c16:=(fun _=>HF.out.c12 h12) }⟩
    ·have hn:L 17=false:=(HLL.out 17).symm.trans hnew
     have h13:L 13=true:=(HLL.out 13).symm.trans (pre_listed (p:=13) HII.out rfl (by kernel_rfl))
     have e31:(AF D5 a0 x).tmps[31]?.getD undef=.int .i64 r.e:=(AF_at (by decide) (by rw [HA0.out.2.2]; decide)).trans (HF.out.f13 h13)
     refine wpOp_step rfl fun K hK=>?_
     go_simp
     refine hK _ _ ?_
     exact ⟨HA0.out,updS x 7 (.int .i64 r.e),updS L 17 true,nb,sb,m,q,AF_put (k:=7) (by decide) (by rw [HA0.out.2.2]; decide) _,by simp [HSL.out],listed_upd (by rw [HSL.out]; decide) HLL.out,HBL.out,{ HF.out with f17:=(fun _=>rfl),c17:=(fun _=>HF.out.c13 h13) }⟩
   ·intro listed b w hI hr
    obtain ⟨ha0,x,L,nb,sb,m,q,rfl,hsz,hL,hbel,hF⟩:=hI
    have hall:∀ j,j<18→L j=true:=fun j hj=>(hL j).symm.trans (listed_all (by kernel_rfl) hsz hr j hj)
    have HF:=hid hF
    have HBL:=hid hbel
    have HAL:=hid hall
    clear ha0 hsz hL hr hbel hF hall;refine NoPanic.normal ?_
    unfold AF D5;simp only [List.foldl_cons,List.foldl_nil,Act.put,List.setIfInBounds_toArray,List.set_cons_succ,List.set_cons_zero];go_wp2_with fail;go_meet
    case rel=>
     have hq:=(HF.out.fq (HAL.out 9 (by decide))).1
     obtain ⟨A5,c5,rfl⟩:∃ A c,q=.slice A r.path.length c:=by obtain ⟨⟨A,c,h1,_⟩,_⟩:=hq; exact ⟨A,c,h1⟩
     have hk:=HF.out.fk (HAL.out 14 (by decide))
     rw [if_pos (HAL.out 15 (by decide))]at hk
     exact ⟨m,A5,c5,HF.out.f14 (HAL.out 14 (by decide)),HF.out.f16 (HAL.out 16 (by decide)),HF.out.f17 (HAL.out 17 (by decide)),hk,hq,HBL.out⟩
  case rest=>
   obtain ⟨m5,A5,c5,rfl,rfl,rfl,HK4,HQ4,HB34⟩:=hcut
   rename World=>w4
   have HB4:=hid (HBX.out w4 HB34.out)
   obtain ⟨⟨k0,k1,k2,k3,k4⟩,⟨r0,r1⟩⟩:=HX.out w4 HB34.out
   have HC2:=hid (HRC2.out w4 HB4.out)
   go_wp2_with fail;refine HC2.out.mono ?_
   rintro e w5 ⟨q',rfl,hq',hb5⟩
   have hb6:=bl_tr hb5 (b1 w5 (.cells #[.int .i64 r.v.num,.int .i64 r.v.den,.int .i64 r.v.dim.a,.int .i64 r.v.dim.b,.int .i64 r.v.dim.c,.int .i64 r.v.dim.d,.int .i64 r.v.dim.e,.int .i64 r.v.dim.f,.int .i64 r.v.dim.g] 44))
   have HB36:=hid (bl_tr HB34.out hb6)
   have HB6:=hid (bl_tr HB4.out hb6)
   have HQ6:=hid (HQ4.out.reach hb6)
   have HQ6':=hid (hq'.reach (b1 w5 (.cells #[.int .i64 r.v.num,.int .i64 r.v.den,.int .i64 r.v.dim.a,.int .i64 r.v.dim.b,.int .i64 r.v.dim.c,.int .i64 r.v.dim.d,.int .i64 r.v.dim.e,.int .i64 r.v.dim.f,.int .i64 r.v.dim.g] 44)))
   have HK6:=hid (HK4.out.reach hb6)
   have HK6':Hid (K9 (w5.alloc (.cells #[.int .i64 r.v.num,.int .i64 r.v.den,.int .i64 r.v.dim.a,.int .i64 r.v.dim.b,.int .i64 r.v.dim.c,.int .i64 r.v.dim.d,.int .i64 r.v.dim.e,.int .i64 r.v.dim.f,.int .i64 r.v.dim.g] 44)) w5.heap.size r.v):=K9.new w5 r.v
   clear hq' hb5 hb6 k0 k1 k2 k3 k4 r0 r1 HC2;unfold V.cells;go_upto_region 7 with (fail);generalize w5.heap.size=m8 at*;generalize w5.alloc (.cells #[.int .i64 r.v.num,.int .i64 r.v.den,.int .i64 r.v.dim.a,.int .i64 r.v.dim.b,.int .i64 r.v.dim.c,.int .i64 r.v.dim.d,.int .i64 r.v.dim.e,.int .i64 r.v.dim.f,.int .i64 r.v.dim.g] 44)=w6 at*;obtain ⟨⟨⟨p0,p1⟩,p2,p3,p4,p5,p6,p7,p8⟩,pf,_⟩:=HK6.out.cells
   obtain ⟨⟨⟨y0,y1⟩,y2,y3,y4,y5,y6,y7,y8⟩,yf,_⟩:=HK6'.out.cells
   have C24:=hid fun d os=>Calls.regrown_of (same24_eq (.slice A5 r.path.length c5) q' r.path (Sort.grow (redrawn w6 d) os) (HQ6.out.reach (below_regrown w6 d os)) (HQ6'.out.reach (below_regrown w6 d os)))
   have C25:=hid fun d os=>Calls.regrown_of (vtext_any r.v (Sort.grow (redrawn w6 d) os) HRF.out ((HT.out w6 HB6.out).below (below_regrown w6 d os)))
   have C26:=hid fun d os=>Calls.regrown_of (rvtext_any r.v (Sort.grow (redrawn w6 d) os) HRF.out)
   unfold V.cells at C25 C26;have hE:=fun w'=>eq44 r.v w'
   have jp0:=fun d os=>cell_regrown p0 d os
   have jp1:=fun d os=>cell_regrown p1 d os
   have jp2:=fun d os=>cell_regrown p2 d os
   have jp3:=fun d os=>cell_regrown p3 d os
   have jp4:=fun d os=>cell_regrown p4 d os
   have jp5:=fun d os=>cell_regrown p5 d os
   have jp6:=fun d os=>cell_regrown p6 d os
   have jp7:=fun d os=>cell_regrown p7 d os
   have jp8:=fun d os=>cell_regrown p8 d os
   have jy0:=fun d os=>cell_regrown y0 d os
   have jy1:=fun d os=>cell_regrown y1 d os
   have jy2:=fun d os=>cell_regrown y2 d os
   have jy3:=fun d os=>cell_regrown y3 d os
   have jy4:=fun d os=>cell_regrown y4 d os
   have jy5:=fun d os=>cell_regrown y5 d os
   have jy6:=fun d os=>cell_regrown y6 d os
   have jy7:=fun d os=>cell_regrown y7 d os
   have jy8:=fun d os=>cell_regrown y8 d os
   clear p0 p1 p2 p3 p4 p5 p6 p7 p8 y0 y1 y2 y3 y4 y5 y6 y7 y8 pf yf;refine wp_region_quiet_below (by kernel_rfl) (by kernel_rfl) ?_
   repeat (first|go_big_quiet_step (first|(go_at_call 24; exact C24.out _ _)|(go_at_call 25; exact C25.out _ _)|(go_at_call 26; exact C26.out _ _))|quiet_step (first|(go_at_call 24; exact C24.out _ _)|(go_at_call 25; exact C25.out _ _)|(go_at_call 26; exact C26.out _ _)))
   refine wpQuiet_nil ?_
   intro _ hw';obtain ⟨⟨dq,osq⟩,hw''⟩:=hw'
   subst hw'';have hb7:=below_regrown w6 dq osq
   have HB37:=hid (bl_tr HB36.out hb7)
   clear hb7 C24 C25 C26 hE jp0 jp1 jp2 jp3 jp4 jp5 jp6 jp7 jp8 jy0 jy1 jy2 jy3 jy4 jy5 jy6 jy7 jy8 HQ6 HQ6' HK6 HK6' HRF;go_upto_region 9 with (fail);generalize Sort.grow (redrawn w6 dq) osq=w7 at*;go_wp2_with fail;go_loopg [11] 1001 (fun gg s11 wr=>∃ i:Nat,i≤vs.length∧1001-i≤gg∧s11=.int .i64 (i:Int)∧Aside (Below w3.heap.size w3 wr))
   case atStart=>exact ⟨0,Nat.zero_le _,by omega,rfl,HB37.out⟩
   case round=>
    obtain ⟨i,hi,hgg,rfl,HBW⟩:=hrel
    have HBR:=hid (HBX.out wr HBW.out)
    obtain ⟨_,⟨r0,r1⟩⟩:=HX.out wr HBW.out
    by_cases hlt:i<vs.length
    ·have hltz:(i:Int)<(vs.length:Int):=by omega
     have HS:=hid (HV.out wr HBR.out)
     obtain ⟨vb,vo,HAv,HC⟩:∃ b o,Hid (Av=some ⟨b,o,none⟩)∧Hid (C9 wr b (o+i*9) vs[i]):=by
      obtain ⟨A',c',e,_,h3⟩:=HS.out
      obtain ⟨rfl,_,rfl⟩:=Value.slice.inj e
      obtain ⟨b,o,h4,h5⟩:=h3 (by intro e; rw [e]at hlt; simp at hlt)
      exact ⟨b,o,h4,h5 i hlt⟩
     have hf:=HFIT.out vs[i] (List.getElem_mem _)
     have C25:=hid fun d os=>Calls.regrown_of (vtext_any vs[i] (Sort.grow (redrawn wr d) os) hf ((HT.out wr HBR.out).below (below_regrown wr d os)))
     have C26:=hid fun d os=>Calls.regrown_of (rvtext_any vs[i] (Sort.grow (redrawn wr d) os) hf)
     unfold V.cells at C25 C26;generalize vs[i]=y at*;obtain ⟨⟨q0,q1⟩,q2,q3,q4,q5,q6,q7,q8⟩:=HC.out
     rw [HAv.out]at r1
     have hvl:=HVL0.out
     have j0:=fun d os=>cell_regrown q0 d os
     have j1:=fun d os=>cell_regrown q1 d os
     have j2:=fun d os=>cell_regrown q2 d os
     have j3:=fun d os=>cell_regrown q3 d os
     have j4:=fun d os=>cell_regrown q4 d os
     have j5:=fun d os=>cell_regrown q5 d os
     have j6:=fun d os=>cell_regrown q6 d os
     have j7:=fun d os=>cell_regrown q7 d os
     have j8:=fun d os=>cell_regrown q8 d os
     have j:=fun d os=>cell_regrown r1 d os
     clear r0 q0 q1 q2 q3 q4 q5 q6 q7 q8 HC hf HS;go_upto_region 12 with (fail);clear r1;refine wp_region_quiet_below (by kernel_rfl) (by kernel_rfl) ?_
     repeat (first|go_big_quiet_step (first|(go_at_call 25; exact C25.out _ _)|(go_at_call 26; exact C26.out _ _))|quiet_step (first|(go_at_call 25; exact C25.out _ _)|(go_at_call 26; exact C26.out _ _)))
     refine wpQuiet_nil ?_
     intro _ hw';obtain ⟨⟨dq,osq⟩,hw''⟩:=hw'
     subst hw'';have HBN:=hid (bl_tr HBW.out (below_regrown wr dq osq))
     clear C25 C26 j j0 j1 j2 j3 j4 j5 j6 j7 j8;go_wp2_with fail;go_roundg (1000-i)
     case measure=>(have h1:=HVL.out; omega)
     case rel=>exact ⟨i+1,by omega,by have h1:=HVL.out; omega,by go_num,HBN.out⟩
    ·have hltz:¬ (i:Int)<(vs.length:Int):=by omega
     go_wp2_with fail;go_ret;exact ⟨rfl,HBR.out⟩
end Go.Proofs.YtknpigdpepmimaaGreatDoor
namespace Go.Proofs.YtknpigdpepmimaaGreatDoor
open Go.Lib(hid)
open Go.RowKit Go.ChangeShapes Go.WideShapes Go.ChangeAt Go.Deep
theorem handed_shaped {H:Type}{enc:TypeId × Value→H}{a:Assume}{C:Checked}{os:Os}{f:FuncId}{fn:Func}{s:ChangeSpec}{conds:List PathCond}{apart fresh handsOn again:Bool}{X:World→Array Value→Prop}
  (hX:∀ (w w':World)(args:Array Value),w.heap=w'.heap→X w args→X w' args)
  (own:ownKnob C.prog.godebug=none)(started:os.Started)(noInit:C.prog.inits.idxOf? f=none)(hfn:C.prog.funcs[f]?=some fn)
  (witness:∃ (w:World)(tape:Tape)(i:Input),w.os=os∧(w.forCall tape i).Shaped C.prog∧i.vars=[]∧Input.okWide C.prog (w.forCall tape i) .any w.heap.size f i∧
   ((s.pre enc C.prog fn conds apart (w.forCall tape i).memory i.args∧X (w.forCall tape i).memory i.args)∧sizedMet enc C.prog fn (OpenSpec.ofChange s) apart (w.forCall tape i).memory i.args)∧a.holds C.prog (lone (Frame.enter C.prog f i.args .normal) [] (w.forCall tape i)))
  (contract:∀ (W:World) (base:Nat)(args:Array Value)(ds gs:List (DataW H))(before:List MemPlace),
   (∀ (j:Nat) t v,fn.params[j]?=some t→args[j]?=some v→Value.okWide C.prog W .any base t v)→
   DataW.Whole enc C.prog fn.params.toList s.vars apart W args.toList ds gs before→
   X W args→W.ShapedOpen C.prog→
   Calls C.prog f args W fun e W'=>∃ v,e=.returned v∧s.post enc C.prog fn apart fresh handsOn again W args v W'):
  ReturnsInHanded a C os f .any (fun w args=>(s.pre enc C.prog fn conds apart w args∧X w args)∧sizedMet enc C.prog fn (OpenSpec.ofChange s) apart w args) (s.post enc C.prog fn apart fresh handsOn again):=by
 refine returnsInHanded_of_calls own started noInit witness ?_
 intro w tape i _ hsh _ hok hpre _;obtain ⟨_,_,_,fn',hfn',_,_,_,_,hval⟩:=hok
 have e:fn'=fn:=Option.some.inj (hfn'.symm.trans hfn)
 subst e;obtain ⟨⟨⟨ds,gs,before,hw,_⟩,hx⟩,_⟩:=hpre
 refine (contract (w.forCall tape i) w.heap.size i.args ds gs before hval (DataW.Whole.of_heap (w':=w.forCall tape i) (by rfl) hw) (hX _ _ _ (by rfl) hx) hsh).mono fun e W' ⟨v,he,hp⟩=>?_
 subst he;exact ChangeSpec.post_blind hp
theorem max_of {W:World}(h:W.ShapedOpen Tryz.prog):Max W:=by
 obtain ⟨m,hm⟩:=Tryz.laysM145.s1_3 W h
 exact ⟨m,hm⟩
theorem cells42:Tryz.prog.cellsOf 42=7:=by kernel_rfl
theorem cells44:Tryz.prog.cellsOf 44=9:=by kernel_rfl
theorem cells25:Tryz.prog.cellsOf 25=1:=by kernel_rfl
theorem cells26:Tryz.prog.cellsOf 26=1:=by kernel_rfl
theorem cells28:Tryz.prog.cellsOf 28=2:=by kernel_rfl
theorem wf_i64 {n:Int}(h:(Lit.int .i64 n).wf=true):-9223372036854775808≤n∧n≤9223372036854775807:=by
 simp [Lit.wf,IntKind.min,IntKind.max,IntKind.signed,IntKind.bits]at h
 exact h
theorem two' {α:Type}{l:List α}(h:l.length=2):∃ a b,l=[a,b]:=by
 match l,h with
 | [a,b],_=>exact ⟨a,b,rfl⟩
theorem three' {α:Type}{l:List α}(h:l.length=3):∃ a b c,l=[a,b,c]:=by
 match l,h with
 | [a,b,c],_=>exact ⟨a,b,c,rfl⟩
theorem seven' {α:Type}{l:List α}(h:l.length=7):∃ a b c d e f g,l=[a,b,c,d,e,f,g]:=by
 match l,h with
 | [a,b,c,d,e,f,g],_=>exact ⟨a,b,c,d,e,f,g,rfl⟩
theorem nine' {α:Type}{l:List α}(h:l.length=9):∃ a b c d e f g i j,l=[a,b,c,d,e,f,g,i,j]:=by
 match l,h with
 | [a,b,c,d,e,f,g,i,j],_=>exact ⟨a,b,c,d,e,f,g,i,j,rfl⟩
section
variable {H:Type}{enc:TypeId × Value→H}{w:World}{base:Nat}{spare:Nat→Bool}{held:Bool}
set_option maxRecDepth 100000 in
theorem open_value (fuel:Nat)(cs:List Value)(x:DataW H × List MemPlace)(h:DataW.trod enc Tryz.prog w base spare held fuel 44 cs=some x):∃ v:V,cs=v.cells.toList∧v.fit:=by
 obtain ⟨xs,n,hn,hx,hcl,hxl,hfd⟩:=DataW.trod_struct Tryz.underlying44 h
 rw [cells44]at hcl
 obtain ⟨v0,v1,v2,v3,v4,v5,v6,v7,v8,rfl⟩:=nine' hcl
 obtain ⟨y0,y1,y2,rfl⟩:=three' hxl
 have f0:=hfd 0 _ rfl
 have f1:=hfd 1 _ rfl
 have f2:=hfd 2 _ rfl
 obtain ⟨k0,h0,_,hk0⟩:=DataW.trod_int Tryz.underlying3 f0
 obtain ⟨k1,h1,_,hk1⟩:=DataW.trod_int Tryz.underlying3 f1
 simp [cells3]at h0 h1
 subst h0 h1
 have f2':DataW.trod enc Tryz.prog w base spare held n 42 [v2,v3,v4,v5,v6,v7,v8]=some y2:=by simpa [cells42]using f2
 obtain ⟨us,m,hm,hz,hcl2,hul,hfd2⟩:=DataW.trod_array Tryz.underlying42 f2'
 obtain ⟨z0,z1,z2,z3,z4,z5,z6,rfl⟩:=seven' hul
 have g0:=hfd2 0 (by omega)
 rw [cells3]at g0
 have g0':DataW.trod enc Tryz.prog w base spare held m 3 [v2]=some z0:=g0
 obtain ⟨d0,e0,_,_⟩:=DataW.trod_int Tryz.underlying3 g0'
 simp at e0
 have g1:=hfd2 1 (by omega)
 rw [cells3]at g1
 have g1':DataW.trod enc Tryz.prog w base spare held m 3 [v3]=some z1:=g1
 obtain ⟨d1,e1,_,_⟩:=DataW.trod_int Tryz.underlying3 g1'
 simp at e1
 have g2:=hfd2 2 (by omega)
 rw [cells3]at g2
 have g2':DataW.trod enc Tryz.prog w base spare held m 3 [v4]=some z2:=g2
 obtain ⟨d2,e2,_,_⟩:=DataW.trod_int Tryz.underlying3 g2'
 simp at e2
 have g3:=hfd2 3 (by omega)
 rw [cells3]at g3
 have g3':DataW.trod enc Tryz.prog w base spare held m 3 [v5]=some z3:=g3
 obtain ⟨d3,e3,_,_⟩:=DataW.trod_int Tryz.underlying3 g3'
 simp at e3
 have g4:=hfd2 4 (by omega)
 rw [cells3]at g4
 have g4':DataW.trod enc Tryz.prog w base spare held m 3 [v6]=some z4:=g4
 obtain ⟨d4,e4,_,_⟩:=DataW.trod_int Tryz.underlying3 g4'
 simp at e4
 have g5:=hfd2 5 (by omega)
 rw [cells3]at g5
 have g5':DataW.trod enc Tryz.prog w base spare held m 3 [v7]=some z5:=g5
 obtain ⟨d5,e5,_,_⟩:=DataW.trod_int Tryz.underlying3 g5'
 simp at e5
 have g6:=hfd2 6 (by omega)
 rw [cells3]at g6
 have g6':DataW.trod enc Tryz.prog w base spare held m 3 [v8]=some z6:=g6
 obtain ⟨d6,e6,_,_⟩:=DataW.trod_int Tryz.underlying3 g6'
 simp at e6
 subst e0 e1 e2 e3 e4 e5 e6
 exact ⟨⟨k0,k1,⟨d0,d1,d2,d3,d4,d5,d6⟩⟩,rfl,(wf_i64 hk0).1,(wf_i64 hk0).2,(wf_i64 hk1).1,(wf_i64 hk1).2⟩
set_option maxRecDepth 100000 in
theorem open_strs1 {fuel:Nat}{v:Value}{x:DataW H × List MemPlace}(hf:DataW.trod enc Tryz.prog w base spare held fuel 25 [v]=some x):∃ (A:Option Addr)(p:List W8) (c:Nat),v=.slice A p.length c∧SL w w.heap.size (.slice A p.length c) p:=by
 rcases open_slice1 Tryz.underlying25 cells9 hf with ⟨hcs,_⟩|⟨a,len0,cap0,m,n,V,D,Pl,hcs,hb,hl,hm,hmm,hx,hi⟩
 ·simp at hcs
  subst hcs;exact ⟨none,[],0,rfl,none,0,rfl,⟨Nat.le_refl _,by omega⟩,fun hne=>absurd rfl hne⟩
 ·simp at hcs
  subst hcs;have hlm:len0≤m:=by rw [hmm]; split<;>omega
  have hex:∀ i,∃ x:List UInt8,i<len0→w.cell? (a.add i)=some (.string ⟨x.toArray⟩):=by
   intro i;by_cases hil:i<len0
   ·obtain ⟨hc,ht⟩:=hi i (by omega)
    obtain ⟨s,hk,_,hsz⟩:=DataW.trod_string Tryz.underlying9 ht
    simp at hk
    exact ⟨s.data.toList,fun _=>by rw [hc,hk,mk_data]⟩
   ·exact ⟨[],fun h=>absurd h hil⟩
  obtain ⟨f,hff⟩:=Classical.axiomOfChoice hex
  have hlen:((List.range len0).map f).length=len0:=by simp
  refine ⟨some a,(List.range len0).map f,cap0,by rw [hlen],some a,cap0,rfl,⟨by rw [hlen]; exact hl,by unfold maxLen at hm; omega⟩,fun hne=>?_⟩
  have hpos:0<len0:=by
   rcases Nat.eq_zero_or_pos len0 with h0|h0
   ·subst h0; exact absurd rfl hne
   ·exact h0
  have hsp:=hff 0 hpos
  simp [Addr.add]at hsp
  have ha:=addr_spot hsp
  refine ⟨a.block,a.off,by rw [← ha],World.block_lt_of_cell? w a hsp,fun j hj=>?_⟩
  have hj':j<len0:=by rw [hlen]at hj; exact hj
  have:=hff j hj'
  rw [ha,addr_add]at this
  rw [this];simp
set_option maxRecDepth 100000 in
theorem open_vals1 {fuel:Nat}{v:Value}{x:DataW H × List MemPlace}(hf:DataW.trod enc Tryz.prog w base spare held fuel 26 [v]=some x):∃ (A:Option Addr)(p:List V) (c:Nat),v=.slice A p.length c∧SV w (.slice A p.length c) p∧∀ x∈p,x.fit:=by
 rcases DataW.trod_slice Tryz.underlying26 hf with ⟨hv3,_⟩|⟨a,len,cap,elems,rest,m,hm,hv3,_,hb,hl,hcm,hel,hat,_⟩
 ·simp at hv3
  subst hv3;exact ⟨none,[],0,rfl,⟨none,0,rfl,⟨Nat.le_refl _,by omega⟩,fun hne=>absurd rfl hne⟩,fun x hx=>by cases hx⟩
 ·simp at hv3
  subst hv3
  have hex:∀ i,∃ u:V,i<len→(∀ j y,u.cells.toList[j]?=some y→w.cell? ((a.add (i*9)).add j)=some y)∧u.fit:=by
   intro i;by_cases hil:i<len
   ·have hi:=hat i hil
    have hie:∃ e,elems[i]?=some e:=⟨_,List.getElem?_eq_getElem (by omega)⟩
    obtain ⟨e,hie⟩:=hie
    rw [hie,cells44]at hi
    obtain ⟨cs',hc,ht⟩:=Option.bind_eq_some_iff.1 hi
    obtain ⟨u,rfl,hfit⟩:=open_value m cs' e ht
    obtain ⟨_,_,hcell⟩:=World.cells?_some hc
    refine ⟨u,fun _=>⟨fun j y hy=>?_,hfit⟩⟩
    have hj:j<9:=by
     have:=(List.getElem?_eq_some_iff.1 hy).1
     simpa [V.cells]using this
    rw [hcell j hj,hy]
   ·exact ⟨zV,fun h=>absurd h hil⟩
  obtain ⟨f,hff⟩:=Classical.axiomOfChoice hex
  have hlen:((List.range len).map f).length=len:=by simp
  refine ⟨some a,(List.range len).map f,cap,by rw [hlen],⟨some a,cap,rfl,⟨by rw [hlen]; exact hl,by unfold maxLen at hcm; omega⟩,fun hne=>?_⟩,fun x hx=>?_⟩
  ·have hpos:0<len:=by
    rcases Nat.eq_zero_or_pos len with h0|h0
    ·subst h0; exact absurd rfl hne
    ·exact h0
   have hsp:=(hff 0 hpos).1 0 _ rfl
   simp [Addr.add]at hsp
   have ha:=addr_spot hsp
   refine ⟨a.block,a.off,by rw [← ha],fun i hi=>?_⟩
   have hi':i<len:=by rw [hlen]at hi; exact hi
   have key:∀ j y,(f i).cells.toList[j]?=some y→w.cell? ⟨a.block,a.off+i*9+j,none⟩=some y:=fun j y hy=>by
    have:=(hff i hi').1 j y hy
    rw [ha,addr_add,addr_add]at this
    exact this
   have e:((List.range len).map f)[i]=f i:=by simp
   rw [e];exact ⟨⟨key 0 _ rfl,key 1 _ rfl⟩,key 2 _ rfl,key 3 _ rfl,key 4 _ rfl,key 5 _ rfl,key 6 _ rfl,key 7 _ rfl,key 8 _ rfl⟩
  ·obtain ⟨i,hi2,rfl⟩:=List.mem_map.1 hx
   exact (hff i (List.mem_range.1 hi2)).2
set_option maxRecDepth 100000 in
theorem open_roomVal {r:Reach}{b0:Nat}{v:Value}{d:DataW H}{q:List MemPlace}(hv:Value.okWide Tryz.prog w r b0 28 v)(h:DataW.Trod enc Tryz.prog w base spare held 28 v d q):
  ∃ (An Av:Option Addr)(cn cv:Nat)(ns:List W8)(vs:List V),v=.agg #[.slice An ns.length cn,.slice Av vs.length cv]∧SL w w.heap.size (.slice An ns.length cn) ns∧SV w (.slice Av vs.length cv) vs∧∀ x∈vs,x.fit:=by
 obtain ⟨cs,rfl,hsz⟩:=okWide_struct Tryz.underlying28 hv
 obtain ⟨fuel,hf⟩:=h
 have hf':DataW.trod enc Tryz.prog w base spare held fuel 28 cs.toList=some (d,q):=hf
 obtain ⟨xs,m,hm,hx,hcl,hxl,hfd⟩:=DataW.trod_struct Tryz.underlying28 hf'
 rw [cells28]at hcl
 obtain ⟨v1,v2,hcs⟩:=two' hcl
 obtain ⟨y0,y1,rfl⟩:=two' hxl
 have f0:=hfd 0 _ rfl
 have f1:=hfd 1 _ rfl
 rw [hcs]at f0 f1
 have f0':DataW.trod enc Tryz.prog w base spare held m 25 [v1]=some y0:=by simpa [cells25]using f0
 have f1':DataW.trod enc Tryz.prog w base spare held m 26 [v2]=some y1:=by simpa [cells26]using f1
 obtain ⟨An,ns,cn,rfl,hn⟩:=open_strs1 f0'
 obtain ⟨Av,vs,cv,rfl,hvv,hfit⟩:=open_vals1 f1'
 refine ⟨An,Av,cn,cv,ns,vs,?_,hn,hvv,hfit⟩
 have:cs.toList=(#[.slice An ns.length cn,.slice Av vs.length cv]:Array Value).toList:=by simpa using hcs
 rw [Array.ext' this]
set_option maxRecDepth 100000 in
theorem slice_nil {fuel:Nat}{T e:TypeId}{v:Value}{x:DataW H × List MemPlace}(ht:Tryz.prog.underlying T=some (.slice e))(hf:DataW.trod enc Tryz.prog w base spare held fuel T [v]=some x){A:Option Addr}{l c:Nat}(he:v=.slice A l c):∀ l' c',Value.slice A l' c=.slice none 0 c'→c'=0:=fun l' c' h=>by
 obtain ⟨rfl,_,rfl⟩:=Value.slice.inj h
 rcases DataW.trod_slice ht hf with ⟨hv3,_⟩|⟨a,len,cap,elems,rest,m,hm,hv3,_⟩
 ·rw [he]at hv3
  have:=List.head_eq_of_cons_eq hv3
  injection this with _ _ h3
 ·rw [he]at hv3
  have:=List.head_eq_of_cons_eq hv3
  injection this with h1 _ _
  cases h1
set_option maxRecDepth 100000 in
theorem open_roomNil {r:Reach}{b0:Nat}{v:Value}{d:DataW H}{q:List MemPlace}(hv:Value.okWide Tryz.prog w r b0 28 v)(h:DataW.Trod enc Tryz.prog w base spare held 28 v d q){An Av:Option Addr}{l1 l2 cn cv:Nat}(he:v=.agg #[.slice An l1 cn,.slice Av l2 cv]):
  (∀ l c',Value.slice An l cn=.slice none 0 c'→c'=0)∧(∀ l c',Value.slice Av l cv=.slice none 0 c'→c'=0):=by
 obtain ⟨cs,rfl,hsz⟩:=okWide_struct Tryz.underlying28 hv
 obtain ⟨fuel,hf⟩:=h
 have hf':DataW.trod enc Tryz.prog w base spare held fuel 28 cs.toList=some (d,q):=hf
 obtain ⟨xs,m,hm,hx,hcl,hxl,hfd⟩:=DataW.trod_struct Tryz.underlying28 hf'
 have hcs:cs.toList=[.slice An l1 cn,.slice Av l2 cv]:=by rw [Value.agg.inj he]
 obtain ⟨y0,y1,rfl⟩:=two' hxl
 have f0:=hfd 0 _ rfl
 have f1:=hfd 1 _ rfl
 rw [hcs]at f0 f1
 have f0':DataW.trod enc Tryz.prog w base spare held m 25 [.slice An l1 cn]=some y0:=by simpa [cells25]using f0
 have f1':DataW.trod enc Tryz.prog w base spare held m 26 [.slice Av l2 cv]=some y1:=by simpa [cells26]using f1
 exact ⟨slice_nil Tryz.underlying25 f0' rfl,slice_nil Tryz.underlying26 f1' rfl⟩
end
end Go.Proofs.YtknpigdpepmimaaGreatDoor
namespace Go.Proofs.YtknpigdpepmimaaGreatDoor
open Go.Lib(hid)
open Go.ChangeShapes Go.WideShapes Go.ChangeAt Go.RowKit
def laidV:List (String × DataW Unit):=Rows.evaluateValueRow.laid
theorem door_metV (os:Os)(args:Array Value):laidMetH Tryz.prog laidV ((World.laidAll Tryz.prog os laidV).forCall (fun _ _=>0) ⟨#[],args,[]⟩).memory:=by
 rw [MakeChecks.laidMetH_plain _ _ _ (by kernel_rfl)]
 exact laidMet_laidAll _ (by kernel_rfl) (by kernel_rfl)
theorem t1V:(Tryz.prog.globals[1]?).map (·.type)=some 249:=by kernel_rfl
theorem of_laidV {W:World}(h:laidMetH Tryz.prog laidV W):Tab W:=by
 rw [MakeChecks.laidMetH_plain _ _ _ (by kernel_rfl)]at h
 obtain ⟨ps,⟨g0,t0,cs0,f0,p0,q0,hg0,ht0,hv0,hd0,⟨g1,t1',cs1,f1,p1,q1,hg1,ht1,hv1,hd1,⟨g2,t2,cs2,f2,p2,q2,hg2,ht2,hv2,hd2,_,_⟩,_⟩,_⟩,_,_⟩:=h
 obtain rfl:=Option.some.inj (glob10.symm.trans hg2)
 obtain rfl:=Option.some.inj (t1V.symm.trans ht2)
 have hc:=Lib.cells_of_tab (k:=.u64) (zs:=Lib.pow10Tab) Tryz.underlying249 Tryz.underlying123 (by kernel_rfl) (by kernel_rfl) hd2
 have htab:Lib.TabIs Tryz.prog W "internal/strconv.uint64pow10" .u64 Lib.pow10Tab:=by
  unfold Lib.TabIs;rw [hv2,← hc]
 refine ⟨htab,?_⟩
 have hcell:=htab.cell glob10 0 (by decide)
 exact World.block_lt_of_cell? W _ hcell
end Go.Proofs.YtknpigdpepmimaaGreatDoor
