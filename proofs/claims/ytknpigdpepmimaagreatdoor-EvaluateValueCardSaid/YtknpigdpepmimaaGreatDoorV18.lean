/- Facts for the rounds of bind 82. -/
import Derived.Test.YtknpigdpepmimaaGreatDoorV17
namespace Go.Proofs.YtknpigdpepmimaaGreatDoor
open Go.Lib(hid)
open Go.RowKit Go.Maps
def Gx (xb:Nat)(w w':World):Prop:=w.grownBy w' (some xb)
theorem gx_refl {xb:Nat}{w:World}:Gx xb w w:=grown_of_below (Below.refl _ w) _
theorem gx_dr {xb:Nat}{w0 w:World}(h:Gx xb w0 w):Gx xb w0 w.drew:=⟨h.os,h.tape,h.output,h.size,h.block⟩
theorem gx_gr {xb:Nat}{w0 w w':World}(h:Gx xb w0 w)(h2:w.grownBy w' (some xb)):Gx xb w0 w':=grown_tr h h2
theorem gx_bl {xb:Nat}{w0 w w':World}(h:Gx xb w0 w)(h2:Below w.heap.size w w'):Gx xb w0 w':=gx_gr h (grown_of_below h2 _)
theorem gx_al {xb:Nat}{w0 w:World}(h:Gx xb w0 w)(o:Obj):Gx xb w0 (w.alloc o):=gx_bl h (b1 w o)
theorem gx_st {xb:Nat}{w0 w:World}(h:Gx xb w0 w){p i:Nat}(hp:w0.heap.size≤p) (v:Value):Gx xb w0 (w.setCell ⟨p,i,none⟩ v):=
 ⟨h.os,h.tape,h.output,by rw [World.size_setCell]; exact h.size,fun k hk hne=>(Below.heap_setCell w ⟨p,i,none⟩ v k (by show k≠p; omega)).trans (h.block k hk hne)⟩
def P11 (w0 w:World) (m:Nat)(r:R) (q:Value):Prop:=K11 w m r q∧w0.heap.size≤m
theorem P11.zero {xb:Nat}{w0 w:World}(h:Gx xb w0 w):P11 w0 (w.alloc (.cells #[.int .i64 0,.int .i64 0,.int .i64 0,.int .i64 0,.int .i64 0,.int .i64 0,.int .i64 0,.int .i64 0,.int .i64 0,.slice none 0 0,.int .i64 0] 86)) w.heap.size zR (.slice none 0 0):=⟨K11.zero w,h.size⟩
theorem P11.newr {xb:Nat}{w0 w:World}(h:Gx xb w0 w)(r:R) (q:Value):P11 w0 (w.alloc (.cells #[.int .i64 r.v.num,.int .i64 r.v.den,.int .i64 r.v.dim.a,.int .i64 r.v.dim.b,.int .i64 r.v.dim.c,.int .i64 r.v.dim.d,.int .i64 r.v.dim.e,.int .i64 r.v.dim.f,.int .i64 r.v.dim.g,q,.int .i64 r.e] 86)) w.heap.size r q:=⟨K11.new w r q,h.size⟩
theorem P11.reach {w0 w w':World}{m:Nat}{r:R}{q:Value}(h:P11 w0 w m r q)(hb:Below w.heap.size w w'):P11 w0 w' m r q:=⟨h.1.reach hb,h.2⟩
theorem P11.grow {xb:Nat}{w0 w w':World}{m:Nat}{r:R}{q:Value}(h:P11 w0 w m r q)(hx:xb<w0.heap.size)(hg:w.grownBy w' (some xb)):P11 w0 w' m r q:=
 ⟨(hg.block m h.1.cells.2.2 (fun e=>by have:=Option.some.inj e; have:=h.2; omega)).trans h.1,h.2⟩
theorem P11.al {w0 w:World}{m:Nat}{r:R}{q:Value}(h:P11 w0 w m r q)(o:Obj):P11 w0 (w.alloc o) m r q:=h.reach (b1 w o)
theorem P11.dr {w0 w:World}{m:Nat}{r:R}{q:Value}(h:P11 w0 w m r q):P11 w0 w.drew m r q:=h
theorem EB.up {w:World}{xb nb ob c:Nat}(h:EB w xb nb ob c):EB (w.setCell ⟨xb,2,none⟩ (.int .i64 ((c:Int)+1))) xb nb ob (c+1):=by
 unfold EB at h ⊢;show (w.heap.modify xb _)[xb]?=_
 rw [Array.getElem?_modify,if_pos rfl,h];rfl
theorem gr_up {w:World}{xb:Nat} (u:Value):w.grownBy (w.setCell ⟨xb,2,none⟩ u) (some xb):=
 ⟨rfl,rfl,rfl,by rw [World.size_setCell]; exact Nat.le_refl _,fun k _ hne=>Below.heap_setCell w ⟨xb,2,none⟩ u k (fun e=>hne (by rw [e]))⟩
theorem KS.whole (w:World)(x:W8) (k:Int) (q:Value):KS (w.alloc (.cells #[.string ⟨x.toArray⟩,.int .i64 k,.int .i64 1,.int .i64 0,.int .i64 0,.int .i64 0,.int .i64 0,.int .i64 0,.int .i64 0,.int .i64 0,q] 162)) w.heap.size x (whV k) q:=heap_alloc_new w _
theorem KS.whole1 (w:World)(ob:Obj)(x:W8) (k:Int) (q:Value):KS ((w.alloc ob).alloc (.cells #[.string ⟨x.toArray⟩,.int .i64 k,.int .i64 1,.int .i64 0,.int .i64 0,.int .i64 0,.int .i64 0,.int .i64 0,.int .i64 0,.int .i64 0,q] 162)) (w.heap.size+1) x (whV k) q:=by
 have h:=KS.whole (w.alloc ob) x k q
 rwa [World.size_alloc]at h
theorem KS.al {w:World}{b:Nat}{x:W8}{v:V}{q:Value}(h:KS w b x v q)(o:Obj):KS (w.alloc o) b x v q:=((b1 w o).block b (Array.getElem?_eq_some_iff.1 h).1).trans h
theorem keepG {xb:Nat}{w w':World}{a b:Addr}{u v:Value}(h1:w.cell? a=some u)(h2:w.cell? b=some v)(ha:a.block≠xb)(hb:b.block≠xb)(hg:Gx xb w w'):w'.cell? a=some u∧w'.cell? b=some v:=
 ⟨(World.cell?_of_block (hg.block a.block (block_lt_of_cell h1) (fun e=>ha (Option.some.inj e)))).trans h1,(World.cell?_of_block (hg.block b.block (block_lt_of_cell h2) (fun e=>hb (Option.some.inj e)))).trans h2⟩
theorem BO.bi {w:World}{B:Nat}{v:Value}{l:List Int}(h:BO w B v l):BI w v l:=h.1
theorem EB.reach {w w':World}{xb nb ob c:Nat}(h:EB w xb nb ob c)(hb:Below w.heap.size w w'):EB w' xb nb ob c:=(hb.block xb h.cells.2.2).trans h
theorem EB.al {w:World}{xb nb ob c:Nat}(h:EB w xb nb ob c)(o:Obj):EB (w.alloc o) xb nb ob c:=h.reach (b1 w o)
theorem BI.keep2 {w w':World}{v:Value}{l:List Int}(h:BI w v l)(hk:l≠[]→∀ b o n c,v=.slice (some ⟨b,o,none⟩) n c→b<w.heap.size→b<w'.heap.size∧w'.heap[b]?=w.heap[b]?):BI w' v l:=by
 by_cases hl:l=[]
 ·subst hl
  obtain ⟨⟨A,c,e,hc,_⟩,hn⟩:=h
  exact ⟨⟨A,c,e,hc,fun h=>absurd rfl h⟩,hn⟩
 ·exact h.keep (hk hl)
theorem BI.lt {w:World}{l:List Int}{v:Value}(h:BI w v l)(hl:l≠[]){b o n c:Nat}(e:v=.slice (some ⟨b,o,none⟩) n c):b<w.heap.size:=by
 obtain ⟨⟨A,c',e',_,hA⟩,_⟩:=h
 obtain ⟨b',o',h1,h2,_⟩:=hA hl
 rw [e',h1]at e
 injection e with e1
 have:=Option.some.inj e1
 have e2:b'=b:=congrArg (fun a:Addr=>a.block) this
 omega
structure RZ (wA w':World)(xb nb ob c2 m:Nat)(ru:R) (q:Value):Prop where
 k:P11 wA w' m ru q
 bi:BI w' q ru.path
 far:∀ b o n c,q=.slice (some ⟨b,o,none⟩) n c→wA.heap.size≤b
 gx:Gx xb wA w'
 eb:EB w' xb nb ob c2
theorem rz_far {wA X W83:World}{q q0:Value}{p0:List Int}{wy:World}(h1:wA.heap.size≤X.heap.size)(h2:X.heap.size≤W83.heap.size)(hq0:BO wy X.heap.size q0 p0)(hq:q=q0∨∀ b o n c,q=.slice (some ⟨b,o,none⟩) n c→W83.heap.size≤b){b o n c:Nat}(e:q=.slice (some ⟨b,o,none⟩) n c):X.heap.size≤b∧wA.heap.size≤b:=by
 rcases hq with rfl|hq
 ·have:=hq0.2 b o n c e; omega
 ·have:=hq b o n c e; omega
theorem RZ.new {wA X wy wx:World}{xb nb ob c2:Nat}{r2 ru:R}{q0 q:Value}(hX:Gx xb wA X)(hgy:X.grownBy wy (some xb))(hq0:BO wy X.heap.size q0 r2.path)(hey:EB wy xb nb ob c2)(hb:Below wy.heap.size wy wx)(hq:BI wx q ru.path)
  (hq5:q=q0∨∀ b o n c,q=.slice (some ⟨b,o,none⟩) n c→wy.heap.size≤b):RZ wA (wx.alloc (.cells #[.int .i64 ru.v.num,.int .i64 ru.v.den,.int .i64 ru.v.dim.a,.int .i64 ru.v.dim.b,.int .i64 ru.v.dim.c,.int .i64 ru.v.dim.d,.int .i64 ru.v.dim.e,.int .i64 ru.v.dim.f,.int .i64 ru.v.dim.g,q,.int .i64 ru.e] 86)) xb nb ob c2 wx.heap.size ru q where
 k:=P11.newr (gx_bl (gx_gr hX hgy) hb) ru q
 bi:=hq.reach (b1 _ _)
 far:=fun _ _ _ _ e=>(rz_far hX.size hgy.size hq0 hq5 e).2
 gx:=gx_al (gx_bl (gx_gr hX hgy) hb) _
 eb:=(hey.reach hb).al _
theorem RZ.set {wA X wy W83 wx:World}{xb nb ob c2 m:Nat}{r2 ru s0:R}{q0 q p0:Value}(hx:xb<wA.heap.size)(hk:P11 wA wx m s0 p0)(hX:Gx xb wA X)(hgy:X.grownBy wy (some xb))(hq0:BO wy X.heap.size q0 r2.path)(hey:EB wy xb nb ob c2)(hW:Below wy.heap.size wy W83)(hb:Below W83.heap.size W83 wx)(hq:BI wx q ru.path)
  (hq5:q=q0∨∀ b o n c,q=.slice (some ⟨b,o,none⟩) n c→W83.heap.size≤b)(hA:∃ A c,q=.slice A ru.path.length c)(hsep:m<X.heap.size∨(m=wy.heap.size∧m<W83.heap.size)):RZ wA (set11 wx m ru q) xb nb ob c2 m ru q where
 k:=⟨set11_K11 hk.1 ru q,hk.2⟩
 bi:=hq.keep2 fun hl b o n c e hlt=>by
  refine ⟨by rw [set11_size]; exact hlt,set11_other _ _ _ _ _ ?_⟩
  rcases hsep with h|⟨h,h'⟩
  ·have:=(rz_far hX.size (Nat.le_trans hgy.size hW.size) hq0 hq5 e).1
   omega
  ·rcases hq5 with h5|h5
   ·have hl2:r2.path≠[]:=fun e2=>by
     obtain ⟨A,c',hA⟩:=hA
     obtain ⟨⟨A0,c0,h6,_⟩,_⟩:=hq0.1
     rw [hA,h6,e2]at h5
     injection h5 with _ h7
     exact hl (List.eq_nil_of_length_eq_zero h7)
    have:=hq0.1.lt hl2 (h5.symm.trans e)
    omega
   ·have:=h5 b o n c e
    omega
 far:=fun _ _ _ _ e=>(rz_far hX.size (Nat.le_trans hgy.size hW.size) hq0 hq5 e).2
 gx:=by
  have h0:Gx xb wA wx:=gx_bl (gx_bl (gx_gr hX hgy) hW) hb
  have h1:=below11 (B:=0) (Below.refl 0 wx) (Nat.zero_le m) ru q
  exact ⟨h1.os.trans h0.os,h1.tape.trans h0.tape,h1.output.trans h0.output,Nat.le_trans h0.size h1.size,fun k hk2 hne=>(set11_other _ _ _ _ _ (by have:=hk.2; omega)).trans (h0.block k hk2 hne)⟩
 eb:=(set11_other _ _ _ _ _ (by have:=hk.2; omega)).trans ((hey.reach hW).reach hb)
theorem RZ.set2 {wA X wy W83 wx:World}{xb nb ob c2 m:Nat}{r2 r s0:R}{q0 q p0:Value}(hx:xb<wA.heap.size)(hk:P11 wA wx m s0 p0)(hX:Gx xb wA X)(hgy:X.grownBy wy (some xb))(hq0:BO wy X.heap.size q0 r2.path)(hey:EB wy xb nb ob c2)(hW:Below wy.heap.size wy W83)(hb:Below W83.heap.size W83 wx)(hq:BI wx q r.path)
  (hq5:q=q0∨∀ b o n c,q=.slice (some ⟨b,o,none⟩) n c→W83.heap.size≤b)(hA:∃ A c,q=.slice A r.path.length c)(hsep:m<X.heap.size∨(m=wy.heap.size∧m<W83.heap.size)):RZ wA (((((((((((wx.setCell ⟨m,0,none⟩ (.int .i64 r.v.num)).setCell ⟨m,1,none⟩ (.int .i64 r.v.den)).setCell ⟨m,2,none⟩ (.int .i64 r.v.dim.a)).setCell ⟨m,3,none⟩ (.int .i64 r.v.dim.b)).setCell ⟨m,4,none⟩ (.int .i64 r.v.dim.c)).setCell ⟨m,5,none⟩ (.int .i64 r.v.dim.d)).setCell ⟨m,6,none⟩ (.int .i64 r.v.dim.e)).setCell ⟨m,7,none⟩ (.int .i64 r.v.dim.f)).setCell ⟨m,8,none⟩ (.int .i64 r.v.dim.g)).setCell ⟨m,9,none⟩ (q)).setCell ⟨m,10,none⟩ (.int .i64 r.e)) xb nb ob c2 m r q:=
 RZ.set hx hk hX hgy hq0 hey hW hb hq hq5 hA hsep
theorem two9 {w:World}{m:Nat}{x y:V}{ty:TypeId}(h:w.heap[m]?=some (.cells #[.int .i64 x.num,.int .i64 x.den,.int .i64 x.dim.a,.int .i64 x.dim.b,.int .i64 x.dim.c,.int .i64 x.dim.d,.int .i64 x.dim.e,.int .i64 x.dim.f,.int .i64 x.dim.g,.int .i64 y.num,.int .i64 y.den,.int .i64 y.dim.a,.int .i64 y.dim.b,.int .i64 y.dim.c,.int .i64 y.dim.d,.int .i64 y.dim.e,.int .i64 y.dim.f,.int .i64 y.dim.g] ty (0,0))):C9 w m 0 x∧C9 w m (0+9) y:=by
 refine ⟨⟨⟨?_,?_⟩,?_,?_,?_,?_,?_,?_,?_⟩,⟨?_,?_⟩,?_,?_,?_,?_,?_,?_,?_⟩<;>simp [World.cell?,h]
theorem under_lit2 (r:R) (p:Value) (i:Int)(w:World)(h:BI w p r.path)(hl:r.path.length≤800000):Calls Tryz.prog 83 #[.agg (r.cells p),.int .i64 i] w fun e w'=>∃ A c,e=.returned (.agg #[.int .i64 (r.under i).v.num,.int .i64 (r.under i).v.den,.int .i64 (r.under i).v.dim.a,.int .i64 (r.under i).v.dim.b,.int .i64 (r.under i).v.dim.c,.int .i64 (r.under i).v.dim.d,.int .i64 (r.under i).v.dim.e,.int .i64 (r.under i).v.dim.f,.int .i64 (r.under i).v.dim.g,.slice A (r.under i).path.length c,.int .i64 (r.under i).e])∧BI w' (.slice A (r.under i).path.length c) (r.under i).path∧(.slice A (r.under i).path.length c=p∨∀ b o n c',Value.slice A (r.under i).path.length c=.slice (some ⟨b,o,none⟩) n c'→w.heap.size≤b)∧Below w.heap.size w w':=
 (under_any r p i w h hl).mono fun e w' ⟨q,h1,h2,h3,h4⟩=>by
  obtain ⟨A,c,rfl⟩:∃ A c,q=.slice A (r.under i).path.length c:=by
   obtain ⟨⟨A,c,e,_⟩,_⟩:=h2
   exact ⟨A,c,e⟩
  exact ⟨A,c,h1,h2,h3,h4⟩
theorem addOf_sum:addOf sumW=sumV:=by funext a b; unfold addOf; rw [if_pos rfl]
theorem addOf_prod:addOf prodW=proV:=by funext a b; unfold addOf; rw [if_neg (by decide)]
theorem loopB_succ (body:Int→G)(add:V→V→V × Int)(fr hi:Int) (f:Nat) (k:Int)(v:V) (c:Nat)(hk:k≤hi)(hc:¬ 2000≤c)(r:R) (c2:Nat)(hb:body k (c+1)=(r,c2)):
  loopB body add fr hi (f+1) k v c=if r.e=0 then (if k=fr then loopB body add fr hi f (k+1) r.v c2 else if (add v r.v).2=0 then loopB body add fr hi f (k+1) (add v r.v).1 c2 else (erR (add v r.v).2,c2))else (r.under 2,c2):=by
 rw [loopB,if_pos hk,if_neg hc,hb]
theorem loopB_full (body:Int→G)(add:V→V→V × Int)(fr hi:Int) (f:Nat) (k:Int)(v:V) (c:Nat)(hk:k≤hi)(hc:2000≤c):loopB body add fr hi (f+1) k v c=(erR 6,c):=by
 rw [loopB,if_pos hk,if_pos hc]
theorem loopB_end (body:Int→G)(add:V→V→V × Int)(fr hi:Int) (f:Nat) (k:Int)(v:V) (c:Nat)(hk:¬ k≤hi):loopB body add fr hi (f+1) k v c=(okR v,c):=by
 rw [loopB,if_neg hk]
theorem scope_call {xb nb ob B0:Nat}{E:Sc}{N:Nat}(IH:TermC xb nb ob B0 E N)(u:T)(hz:u.size≤N)(hw:WF u)(s:Sc) (p:Value)(x:W8)(v:V)(hx:x.length≤1000)(c b o:Nat)(w0 wz:World) (sb:Nat)(hc:c≤2000)(hv:v.ok)(hok:(s++E).ok)(ht:TR w0 B0 b o u)(hcx:Cx w0 xb nb ob B0 E c)(hs:SCP w0 (SS w0 xb) s p)(hb:Below w0.heap.size w0 wz)(hk:KS wz sb x v p)(hsb:w0.heap.size≤sb):
  Calls Tryz.prog 41 #[.pointer (some ⟨xb,0,none⟩),.pointer (some ⟨b,o,none⟩),.pointer (some ⟨sb,0,none⟩)] wz fun e w'=>Left wz w' xb nb ob (ev u ((x,v)::(s++E)) c) e:=
 IH u hz hw ((x,v)::s) (.pointer (some ⟨sb,0,none⟩)) c b o wz hc (fun q hq=>by
  rcases List.mem_cons.1 hq with rfl|hq
  ·exact hv
  ·exact hok q hq) (ht.below (hcx.term (grown_of_below hb _))) (hcx.reach hb)
  ⟨sb,p,rfl,⟨by have:=hcx.xlt; omega,(Array.getElem?_eq_some_iff.1 hk).1⟩,hx,hk,hs.keep fun k hk2=>⟨⟨hk2.1,Nat.lt_of_lt_of_le hk2.2 hb.size⟩,hb.block k hk2.2⟩⟩
theorem limG_lims (n:W8)(h:Int→G)(a:(R × List V) × Nat):limG n h a=if (limsG a).2.2.e=0 then loopB h (addOf n) (limsG a).1 (limsG a).2.1 2001 (limsG a).1 (zeroOf n) a.2 else ((limsG a).2.2,a.2):=by
 obtain ⟨⟨r,l⟩,c⟩:=a
 unfold limG limsG;simp only
 by_cases h0:r.e=0
 ·rw [if_pos h0,if_pos h0]
  rcases l with _|⟨x,_|⟨y,_|⟨z,l⟩⟩⟩
  ·exact (if_neg (show ¬ (erR 1).e=0 from nz1)).symm
  ·exact (if_neg (show ¬ (erR 1).e=0 from nz1)).symm
  ·simp only
   by_cases h1:(limE x y).e=0
   ·rw [if_pos h1,if_pos h1,if_pos (show zR.e=0 from rfl)]
   ·rw [if_neg h1,if_neg h1,if_neg (show ¬ (limE x y).e=0 from h1)]
  ·exact (if_neg (show ¬ (erR 1).e=0 from nz1)).symm
 ·rw [if_neg h0,if_neg h0,if_neg (show ¬ r.e=0 from h0)]
theorem limsG_ok {a:(R × List V) × Nat}(ha:a.1.1.e=0→∀ x∈a.1.2,x.ok)(he:(limsG a).2.2.e=0):inQ (limsG a).1∧inQ (limsG a).2.1:=by
 obtain ⟨⟨r,l⟩,c⟩:=a
 unfold limsG at he ⊢;simp only at ha he ⊢
 by_cases h0:r.e=0
 ·rw [if_pos h0]at he ⊢
  have hl:=ha h0
  rcases l with _|⟨x,_|⟨y,_|⟨z,l⟩⟩⟩
  ·exact absurd he nz1
  ·exact absurd he nz1
  ·simp only at he ⊢
   by_cases h1:(limE x y).e=0
   ·rw [if_pos h1]
    exact ⟨(hl x (by simp)).num,(hl y (by simp)).num⟩
   ·rw [if_neg h1]at he; exact absurd he h1
  ·exact absurd he nz1
 ·rw [if_neg h0]at he; exact absurd he h0
theorem var_short {t:T}(h:ownB t=true):t.var.length≤1000:=by
 cases t with
 | mk k n v ys f=>
  rw [ownB_mk]at h
  show v.length≤1000
  have hw:∀ {x:W8},wordB x=true→x.length≤16:=fun {x} hx=>by unfold wordB at hx; simp at hx; exact hx.2
  have he:∀ {x:W8},x.isEmpty=true→x.length≤1000:=fun {x} hx=>by rw [List.isEmpty_iff]at hx; subst hx; simp
  by_cases h1:k=1
  ·rw [if_pos h1]at h; simp only [Bool.and_eq_true]at h; exact he h.1.1
  rw [if_neg h1]at h
  by_cases h2:k=2
  ·rw [if_pos h2]at h; simp only [Bool.and_eq_true]at h; exact he h.1.1
  rw [if_neg h2]at h
  by_cases h3:k=3
  ·rw [if_pos h3]at h; simp only [Bool.and_eq_true]at h; exact he h.1.1
  rw [if_neg h3]at h
  by_cases h4:k=4
  ·rw [if_pos h4]at h; simp only [Bool.and_eq_true]at h; exact he h.2
  rw [if_neg h4]at h
  by_cases h5:k=5
  ·rw [if_pos h5]at h; simp only [Bool.and_eq_true]at h
   have:=hw (ident_word h.1.2); omega
  rw [if_neg h5]at h; cases h
set_option maxRecDepth 100000 in
set_option maxHeartbeats 16000000 in
theorem bind_sum {xb nb ob B0:Nat}{E:Sc}{N:Nat}(IH:TermC xb nb ob B0 E N)(t:T)(hz:t.size≤N+1)(hw:WF t)(hk:t.kind=5)(hN:N≤2000)(hn:t.name=sumW)(s:Sc) (p:Value)(c b o:Nat)(w:World)(hc:c≤2000)(hok:(s++E).ok)(ht:TR w B0 b o t)(hx:Cx w xb nb ob B0 E c)(hs:SCP w (SS w xb) s p):
  Calls Tryz.prog 82 #[.pointer (some ⟨xb,0,none⟩),.pointer (some ⟨b,o,none⟩),p] w fun e w'=>Left w w' xb nb ob (ev t (s++E) c) e:=by
 obtain ⟨p,rfl⟩:∃ q,p=.pointer q:=by
  cases s with
  | nil=>exact ⟨none,hs⟩
  | cons x s=>obtain ⟨b,q,e,_⟩:=hs; exact ⟨_,e⟩
 have HO:=hid (own_short' hw.parts.1)
 obtain ⟨hb,d0,d1,d2,d4,A,ca,d3,hca,hta⟩:=ht.parts
 have hbx:b≠xb:=by have:=hx.hB; omega
 have hbw:b<w.heap.size:=by have:=hx.hB; have:=hx.xlt; omega
 have HB:=hid (b1 w (.cells #[.int .i64 0,.int .i64 0,.int .i64 0,.int .i64 0,.int .i64 0,.int .i64 0,.int .i64 0,.int .i64 0,.int .i64 0,.slice none 0 0,.int .i64 0] 86))
 have HK:=hid (K11.zero w)
 have HX:=hid (hx.reach HB.out)
 have HX0:=hid hx.xlt
 have HIH:=hid IH
 have HOKs:=hid hok
 have HWH:=hid fun n w=>whole_any n w
 unfold V.cells whV zD at HWH;have HG:Hid (ev t (s++E) c=bindG sumW (evs t.args (s++E)) (evh t.args t.var (s++E)) c):=by show _=_; rw [ev_eq,hk,hn]; rfl
 unfold Left;go_enter Tryz.func82,Tryz.ntmps82;go_upto_region 1 with (fail);generalize w.alloc (.cells #[.int .i64 0,.int .i64 0,.int .i64 0,.int .i64 0,.int .i64 0,.int .i64 0,.int .i64 0,.int .i64 0,.int .i64 0,.slice none 0 0,.int .i64 0] 86)=w1 at*;go_wp2_with fail;refine (HWH.out 0 _).mono ?_
 rintro e w2 ⟨rfl,hb2⟩
 go_upto_region 2 with (fail);have hb3:=bl_tr hb2 (b1 w2 (.cells #[.int .i64 0,.int .i64 1,.int .i64 0,.int .i64 0,.int .i64 0,.int .i64 0,.int .i64 0,.int .i64 0,.int .i64 0] 44))
 have hb03:=bl_tr HB.out hb3
 have hk8:(w2.alloc (.cells #[.int .i64 0,.int .i64 1,.int .i64 0,.int .i64 0,.int .i64 0,.int .i64 0,.int .i64 0,.int .i64 0,.int .i64 0] 44)).heap[w2.heap.size]?=some (.cells (whV 0).cells 44 (0,0)):=heap_alloc_new w2 _
 have hs1:w.heap.size<w1.heap.size:=HK.out.cells.2.2
 have hs2:=hb2.size
 have hli:LJ w (w2.alloc (.cells #[.int .i64 0,.int .i64 1,.int .i64 0,.int .i64 0,.int .i64 0,.int .i64 0,.int .i64 0,.int .i64 0,.int .i64 0] 44)) xb nb ob B0 (w2.alloc (.cells #[.int .i64 0,.int .i64 1,.int .i64 0,.int .i64 0,.int .i64 0,.int .i64 0,.int .i64 0,.int .i64 0,.int .i64 0] 44)).heap.size E s (.pointer p) b o w2.heap.size (.cells (whV 0).cells 44 (0,0)) A ca t.args c:=
  ⟨hx.reach hb03,hs.keep (fun k hk=>⟨hk,hb03.block k hk.2⟩),HK.out.reach hb3,hk8,(hb03.cell (p:=⟨b,o+3,none⟩) hbw).trans d3,(fun hne=>by
   obtain ⟨b',o',e,h⟩:=hta hne
   exact ⟨b',o',e,h.below (hx.term (grown_of_below hb03 _))⟩),grown_of_below hb03 _,by have:=hx.xlt; omega,hbx,⟨hx.nlt,hx.olt,hx.xlt,hbw,by simp,by simp; omega,Nat.le_refl _⟩⟩
 have HTR:=hid (ht.below (hx.term (grown_of_below hb03 _)))
 have HLJ:=hid hli
 have HM8:Hid (w.heap.size<w2.heap.size):=Nat.lt_of_lt_of_le hs1 hs2
 have HD1:=hid ((hb03.cell (p:=⟨b,o+1,none⟩) hbw).trans d1)
 have HD2:=hid ((hb03.cell (p:=⟨b,o+2,none⟩) hbw).trans d2)
 have HVL:=hid (var_short hw.parts.1)
 have HBW:=hid hbw
 clear hb2 hb3 hb03 hk8 hs1 hs2 hli d0 d1 d2 d3 d4 hta hx hs ht hb hok IH hbw;generalize w2.heap.size=mb at*;generalize w2.alloc (.cells #[.int .i64 0,.int .i64 1,.int .i64 0,.int .i64 0,.int .i64 0,.int .i64 0,.int .i64 0,.int .i64 0,.int .i64 0] 44)=w3 at*;rw [hn]at HD1
 have hd1:=HD1.out
 unfold sumW at hd1;go_upto_region 7 with (fail)
 have HLN:Hid (t.args.length≤N):=by
  show _≤_
  have:=len_sizes t.args
  have:=size_eq t
  omega
 have hyl:t.args.length≤2000:=by have:=HLN.out; omega
 have d3:=HLJ.out.d3
 by_cases h3:t.args.length=3
 ·obtain ⟨ta,tb,tc,hargs⟩:=three h3
  have HLM:=hid fun (w':World)(hli:LJ w w' xb nb ob B0 w3.heap.size E s (.pointer p) b o mb (.cells (whV 0).cells 44 (0,0)) A ca t.args c)(htr:TR w' B0 b o t)=>limits_any HIH.out t hz hw ta tb tc hargs hN s (.pointer p) c b o w' hc HOKs.out htr hli.cx hli.scw
  rw [h3]at d3
  go_upto_region 9 with (fail);have hlm:=HLM.out w3 HLJ.out HTR.out
  generalize hA:argsG 0 [ev ta (s++E),ev tb (s++E)] c []=a at hlm;have HA:=hid hA
  clear hA;generalize hL:limsG a=lim at hlm;have HL:=hid hL
  clear hL;obtain ⟨fr,top,r⟩:=lim
  have HLMw:=hid hlm
  clear hlm HLM;go_wp2_with fail;refine HLMw.out.mono ?_
  rintro e w4 ⟨q,rfl,hq,hg4,he4⟩
  obtain ⟨A5,c5,rfl⟩:∃ A c,q=.slice A r.path.length c:=by obtain ⟨⟨⟨A,c,h1,_⟩,_⟩,_⟩:=hq; exact ⟨A,c,h1⟩
  have HL4:=hid (HLJ.out.step hg4 he4)
  have HQ4:=hid hq
  have HS4:=hid hg4.size
  have HD24:Hid (w4.cell? ⟨b,o+2,none⟩=some (.string ⟨t.var.toArray⟩)):=(keepG HD2.out HD2.out hbx hbx hg4).1
  clear hq hg4 he4 d3;unfold R.cells;have hb5:=b1 w4 (.cells #[.int .i64 r.v.num,.int .i64 r.v.den,.int .i64 r.v.dim.a,.int .i64 r.v.dim.b,.int .i64 r.v.dim.c,.int .i64 r.v.dim.d,.int .i64 r.v.dim.e,.int .i64 r.v.dim.f,.int .i64 r.v.dim.g,.slice A5 r.path.length c5,.int .i64 r.e] 86)
  have HL5:=hid (HL4.out.reach hb5)
  have HQ5:=hid (HQ4.out.reach hb5)
  have HD25:=hid ((hb5.cell (block_lt_of_cell HD24.out)).trans HD24.out)
  have HM5:Hid (K11 (w4.alloc (.cells #[.int .i64 r.v.num,.int .i64 r.v.den,.int .i64 r.v.dim.a,.int .i64 r.v.dim.b,.int .i64 r.v.dim.c,.int .i64 r.v.dim.d,.int .i64 r.v.dim.e,.int .i64 r.v.dim.f,.int .i64 r.v.dim.g,.slice A5 r.path.length c5,.int .i64 r.e] 86)) w4.heap.size r (.slice A5 r.path.length c5)):=K11.new w4 r _
  clear hb5;go_upto_region 10 with (fail);generalize w4.alloc (.cells #[.int .i64 r.v.num,.int .i64 r.v.den,.int .i64 r.v.dim.a,.int .i64 r.v.dim.b,.int .i64 r.v.dim.c,.int .i64 r.v.dim.d,.int .i64 r.v.dim.e,.int .i64 r.v.dim.f,.int .i64 r.v.dim.g,.slice A5 r.path.length c5,.int .i64 r.e] 86)=w5 at*;obtain ⟨⟨m0,m1,m2,m3,m4,m5,m6,m7,m8,m9,m10⟩,_,_⟩:=HM5.out.cells
  have HG4:Hid (ev t (s++E) c=if r.e=0 then loopB (fun k=>ev tc ((t.var,whV k)::(s++E))) (addOf sumW) fr top 2001 fr (zeroOf sumW) a.2 else (r,a.2)):=by
   show _=_
   rw [HG.out,hargs,evs,evs,evs,evs,evh,evh,evh,evh,bindG_three,if_pos (by first|exact .inl rfl|exact .inr rfl),HA.out,limG_lims,HL.out]
  by_cases hre:r.e=0
  ·have heb:(r.e != 0)=false:=by simpa using hre
   have hszs:∀ u∈[ta,tb,tc],u.size≤N∧WF u:=fun u hu=>⟨size_list hz (by rw [hargs]; exact hu),hw.parts.2.mem (by rw [hargs]; exact hu)⟩
   have HSZS:=hid hszs
   have HQQ:Hid (inQ fr∧inQ top):=by
    have h1:=limsG_ok (a:=a) (fun h0=>by
     rw [← HA.out]at h0 ⊢
     exact (argsG_ok _ _ _ _ (fun g hg=>by
      rcases List.mem_cons.1 hg with rfl|hg
      ·exact ev_ok N ta (hszs ta (by simp)).1 _ HOKs.out
      ·rw [List.mem_singleton]at hg; subst hg; exact ev_ok N tb (hszs tb (by simp)).1 _ HOKs.out) (fun x hx=>by cases hx) h0).1) (by rw [HL.out]; exact hre)
    rw [HL.out]at h1; exact h1
   have HA2:Hid (a.2≤2000):=by
    show _≤_
    rw [← HA.out]
    exact (argsG_mon _ _ _ _ (fun g hg=>by
     rcases List.mem_cons.1 hg with rfl|hg
     ·exact ev_mon N ta (hszs ta (by simp)).1 _
     ·rw [List.mem_singleton]at hg; subst hg; exact ev_mon N tb (hszs tb (by simp)).1 _)).2 hc
   have HG5:Hid (ev t (s++E) c=loopB (fun k=>ev tc ((t.var,whV k)::(s++E))) (addOf sumW) fr top 2001 fr (zeroOf sumW) a.2):=HG4.out.trans (if_pos hre)
   clear hszs hre;go_upto_region 12 with (fail)
   have HL5b:Hid (LJ w w5 xb nb ob B0 w3.heap.size E s (.pointer p) b o mb (.cells (zeroOf sumW).cells 44 (0,0)) A ca t.args a.2):=by
    exact HL5.out
   clear m0 m1 m2 m3 m4 m5 m6 m7 m8 m9 m10 heb;go_wp2_with fail;go_loopg [12] 2002 (fun gg s12 wr=>∃ (k:Int)(v:V)(ci f:Nat),f≤gg∧s12=.int .i64 k∧Aside (ev t (s++E) c=loopB (fun k=>ev tc ((t.var,whV k)::(s++E))) (addOf sumW) fr top f k v ci)∧Aside (2001≤f+ci)∧Aside (ci≤2000)∧Aside (fr≤k∧k≤2147483648)∧Aside (v.ok)∧Aside (LJ w wr xb nb ob B0 w3.heap.size E s (.pointer p) b o mb (.cells v.cells 44 (0,0)) A ca t.args ci)∧Aside (wr.cell? ⟨b,o+2,none⟩=some (.string ⟨t.var.toArray⟩)))
   case atStart=>exact ⟨fr,zeroOf sumW,a.2,2001,by omega,rfl,HG5.out,Nat.le_add_right _ _,HA2.out,⟨Int.le_refl _,by have h1:inQ fr:=HQQ.out.1; unfold inQ at h1; omega⟩,zeroOf_ok sumW,HL5b.out,HD25.out⟩
   case round=>
    obtain ⟨k,v,ci,f,hf,rfl,HEQ,HFC,HCI,HKB,HVO,HLR,HDV⟩:=hrel
    obtain ⟨f,rfl⟩:∃ f',f=f'+1:=⟨f-1,by have:=HFC.out; have:=HCI.out; omega⟩
    by_cases hkt:k≤top
    ·obtain ⟨⟨e0,e1,e2⟩,ef,_⟩:=HLR.out.cx.eb.cells
     by_cases hcl:ci=2000
     ·have hczb:((ci:Int) == 2000)=true:=by rw [beq_iff_eq]; omega
      have HRE:Hid (ev t (s++E) c=(erR 6,ci)):=HEQ.out.trans (loopB_full _ _ _ _ _ _ _ _ hkt (by omega))
      obtain ⟨⟨z0,z1,z2,z3,z4,z5,z6,z7,z8,z9,z10⟩,zf,_⟩:=HLR.out.k6.cells
      go_wp2_with fail;rw [HRE.out];refine bodyPost_ret (v:=.agg (R.cells (erR 6) (.slice none 0 0))) (by simp [results,Tryz.results82,go_sem,R.cells,erR,zV,zD,z0,z1,z2,z3,z4,z5,z6,z7,z8,z9,z10]) rfl ⟨_,rfl,((BO.nil wr (w.heap.size+1)).set11 (Nat.lt_succ_self _) (erR 6) (.slice none 0 0)).less (Nat.le_succ _),grown11 HLR.out.gr (erR 6) (.slice none 0 0),eb11 ⟨HLR.out.cx.eb,HX0.out⟩ (erR 6) (.slice none 0 0)⟩
     ·have hci:ci<2000:=by have:=HCI.out; omega
      have hczb:((ci:Int) == 2000)=false:=by rw [beq_eq_false_iff_ne]; omega
      have hciz:(ci:Int)<2000:=by omega
      have hci0:(0:Int)≤(ci:Int):=Int.natCast_nonneg ci
      obtain ⟨g,hg⟩:∃ g,ev tc ((t.var,whV k)::(s++E)) (ci+1)=g:=⟨_,rfl⟩
      obtain ⟨r2,c2⟩:=g
      have HRE:=hid (HEQ.out.trans (loopB_succ _ _ _ _ _ _ _ _ hkt (by omega) r2 c2 hg))
      rw [addOf_sum]at HRE
      have HKQ:Hid (inQ k):=by
       show inQ k
       have h1:inQ fr:=HQQ.out.1
       have h2:inQ top:=HQQ.out.2
       have h3:=HKB.out
       unfold inQ at*
       omega
      have HRO:Hid (r2.e=0→r2.v.ok):=fun h0=>by
       have:=ev_ok N tc (HSZS.out tc (by simp)).1 ((t.var,whV k)::(s++E)) (fun q hq=>by
        rcases List.mem_cons.1 hq with rfl|hq
        ·exact wh_ok HKQ.out
        ·exact HOKs.out q hq) (ci+1)
       rw [hg]at this
       exact this h0
      have HC2:Hid (ci+1≤c2∧c2≤2000):=by
       have:=ev_mon N tc (HSZS.out tc (by simp)).1 ((t.var,whV k)::(s++E)) (ci+1)
       rw [hg]at this
       exact ⟨this.1,this.2 hci⟩
      have HPL:Hid (r2.path.length≤2000):=by
       have:=ev_path N tc (HSZS.out tc (by simp)).1 ((t.var,whV k)::(s++E)) (ci+1)
       rw [hg]at this
       exact Nat.le_trans this hN
      have hla:=HLR.out.step (gr_up (w:=wr) (xb:=xb) (.int .i64 ((ci:Int)+1))) HLR.out.cx.eb.up
      have HLA:=hid hla
      have HDA:Hid ((wr.setCell ⟨xb,2,none⟩ (.int .i64 ((ci:Int)+1))).cell? ⟨b,o+2,none⟩=some (.string ⟨t.var.toArray⟩)):=(keepG HDV.out HDV.out hbx hbx (gr_up _)).1
      clear hla;go_upto_region 18 with (fail);clear e0 e1 e2 ef hczb hcl hkt hciz hci0;generalize wr.setCell ⟨xb,2,none⟩ (.int .i64 ((ci:Int)+1))=wA at*;obtain ⟨b1',o1',rfl,hts⟩:=HLA.out.ta (by rw [hargs]; simp)
      rw [hargs]at hts
      have htr:TR wA B0 b1' (o1'+10) tc:=by
       have h1:=hts.at_ 2 tc rfl
       simpa using h1
      have HXA:=hid HLA.out.cx.xlt
      have HSC:Hid (∀ (wz:World) (sb:Nat),Below wA.heap.size wA wz→KS wz sb t.var (whV k) (.pointer p)→wA.heap.size≤sb→Calls Tryz.prog 41 #[.pointer (some ⟨xb,0,none⟩),.pointer (some ⟨b1',o1'+10,none⟩),.pointer (some ⟨sb,0,none⟩)] wz fun e w'=>∃ q,e=.returned (.agg (r2.cells q))∧BO w' wz.heap.size q r2.path∧wz.grownBy w' (some xb)∧EB w' xb nb ob c2):=fun wz sb h1 h2 h3=>by
       have:=scope_call HIH.out tc (HSZS.out tc (by simp)).1 (HSZS.out tc (by simp)).2 s (.pointer p) t.var (whV k) HVL.out (ci+1) b1' (o1'+10) wA wz sb hci (wh_ok HKQ.out) HOKs.out htr HLA.out.cx HLA.out.scw h1 h2 h3
       rw [hg]at this
       exact this
      have HUN:Hid (∀ (q:Value)(wz:World),BI wz q r2.path→Calls Tryz.prog 83 #[.agg (r2.cells q),.int .i64 2] wz fun e w'=>∃ A c,e=.returned (.agg #[.int .i64 (r2.under 2).v.num,.int .i64 (r2.under 2).v.den,.int .i64 (r2.under 2).v.dim.a,.int .i64 (r2.under 2).v.dim.b,.int .i64 (r2.under 2).v.dim.c,.int .i64 (r2.under 2).v.dim.d,.int .i64 (r2.under 2).v.dim.e,.int .i64 (r2.under 2).v.dim.f,.int .i64 (r2.under 2).v.dim.g,.slice A (r2.under 2).path.length c,.int .i64 (r2.under 2).e])∧BI w' (.slice A (r2.under 2).path.length c) (r2.under 2).path∧(.slice A (r2.under 2).path.length c=q∨∀ b o n c',Value.slice A (r2.under 2).path.length c=.slice (some ⟨b,o,none⟩) n c'→wz.heap.size≤b)∧Below wz.heap.size wz w'):=fun q wz h=>under_lit2 r2 q 2 wz h (by have:=HPL.out; omega)
      have HUE:=hid (under_e r2 2)
      have HUV:=hid (under_v r2 2)
      have hd3:=HLA.out.d3
      rw [h3]at hd3
      have hd2:=HDA.out
      clear hts htr hg;have HRUE:Hid (r2.under 2=r2.under 2):=rfl
      obtain ⟨ru,hru⟩:∃ ru,r2.under 2=ru:=⟨_,rfl⟩
      rw [hru]at HUN HUE HUV
      replace HRUE:Hid (r2.under 2=ru):=hru
      clear hru;go_cut [13] (fun s13 wx=>∃ (m:Nat)(A5:Option Addr) (c5:Nat),s13=.pointer (some ⟨m,0,none⟩)∧Aside (RZ wA wx xb nb ob c2 m ru (.slice A5 ru.path.length c5)))
      case first=>
       go_region_held_law (fun w'=>w'.cell? ⟨b,o+3,none⟩=some (.slice (some ⟨b1',o1',none⟩) 3 ca)∧w'.cell? ⟨b,o+2,none⟩=some (.string ⟨t.var.toArray⟩)) ((refine keepG hd3 hd2 hbx hbx ?_; repeat (first|with_reducible exact gx_refl|with_reducible apply gx_dr|with_reducible apply gx_al|with_reducible refine gx_st ?_ hk2 _|with_reducible refine gx_bl ?_ (by assumption)|with_reducible refine gx_gr ?_ (by assumption)))) (first|(go_at_call 125; (with_reducible refine (HWH.out k _).mono ?_); rintro e wz ⟨rfl,hbz⟩; (first|(have hk:=P11.reach (by assumption) hbz; (try simp only [World.size_alloc]at hk); obtain ⟨⟨k0,k1,k2,k3,k4,k5,k6,k7,k8,k9,k10⟩,kf,_⟩:=hk.1.cells; have hk2:=hk.2)|(have hk:=P11.reach (P11.al (P11.zero (w0:=wA) (xb:=xb) (by show Gx _ _ _; repeat (first|with_reducible exact gx_refl|with_reducible apply gx_dr|with_reducible apply gx_al|with_reducible refine gx_st ?_ hk2 _|with_reducible refine gx_bl ?_ (by assumption)|with_reducible refine gx_gr ?_ (by assumption)))) _) hbz; (try simp only [World.size_alloc]at hk); obtain ⟨⟨k0,k1,k2,k3,k4,k5,k6,k7,k8,k9,k10⟩,kf,_⟩:=hk.1.cells; have hk2:=hk.2)|(have hk:=P11.reach (P11.al (P11.dr (P11.zero (w0:=wA) (xb:=xb) (by show Gx _ _ _; repeat (first|with_reducible exact gx_refl|with_reducible apply gx_dr|with_reducible apply gx_al|with_reducible refine gx_st ?_ hk2 _|with_reducible refine gx_bl ?_ (by assumption)|with_reducible refine gx_gr ?_ (by assumption))))) _) hbz; (try simp only [World.size_alloc]at hk); obtain ⟨⟨k0,k1,k2,k3,k4,k5,k6,k7,k8,k9,k10⟩,kf,_⟩:=hk.1.cells; have hk2:=hk.2)|(have hk:=P11.reach (P11.al (P11.al (by assumption) _) _) hbz; (try simp only [World.size_alloc]at hk); obtain ⟨⟨k0,k1,k2,k3,k4,k5,k6,k7,k8,k9,k10⟩,kf,_⟩:=hk.1.cells; have hk2:=hk.2)|(have hk:=P11.reach (P11.al (by assumption) _) hbz; (try simp only [World.size_alloc]at hk); obtain ⟨⟨k0,k1,k2,k3,k4,k5,k6,k7,k8,k9,k10⟩,kf,_⟩:=hk.1.cells; have hk2:=hk.2)|(have hk:=P11.reach (P11.zero (w0:=wA) (xb:=xb) (by show Gx _ _ _; repeat (first|with_reducible exact gx_refl|with_reducible apply gx_dr|with_reducible apply gx_al|with_reducible refine gx_st ?_ hk2 _|with_reducible refine gx_bl ?_ (by assumption)|with_reducible refine gx_gr ?_ (by assumption)))) hbz; (try simp only [World.size_alloc]at hk); obtain ⟨⟨k0,k1,k2,k3,k4,k5,k6,k7,k8,k9,k10⟩,kf,_⟩:=hk.1.cells; have hk2:=hk.2)|(have hk:=P11.reach (P11.dr (P11.zero (w0:=wA) (xb:=xb) (by show Gx _ _ _; repeat (first|with_reducible exact gx_refl|with_reducible apply gx_dr|with_reducible apply gx_al|with_reducible refine gx_st ?_ hk2 _|with_reducible refine gx_bl ?_ (by assumption)|with_reducible refine gx_gr ?_ (by assumption))))) hbz; (try simp only [World.size_alloc]at hk); obtain ⟨⟨k0,k1,k2,k3,k4,k5,k6,k7,k8,k9,k10⟩,kf,_⟩:=hk.1.cells; have hk2:=hk.2)|skip))|(go_at_call 41; (with_reducible refine (HSC.out _ _ (by show Below _ _ _; repeat (first|with_reducible exact Below.refl _ _|with_reducible apply bl_dr|with_reducible apply bl_al|with_reducible refine bl_tr ?_ (by assumption))) (by first|exact KS.whole _ _ _ _|exact KS.whole1 _ _ _ _ _|exact (KS.whole _ _ _ _).al _) (by have hq:wA.heap.size≤wz.heap.size:=Below.size (by show Below _ _ _; repeat (first|with_reducible exact Below.refl _ _|with_reducible apply bl_dr|with_reducible apply bl_al|with_reducible refine bl_tr ?_ (by assumption))); first|exact hq|exact Nat.le_succ_of_le hq)).mono ?_); rintro e wy ⟨q0,rfl,hq0,hgy,hey⟩; (first|(have hk:=P11.grow (by assumption) HXA.out hgy; (try simp only [World.size_alloc]at hk); obtain ⟨⟨k0,k1,k2,k3,k4,k5,k6,k7,k8,k9,k10⟩,kf,_⟩:=hk.1.cells; have hk2:=hk.2)|(have hk:=P11.grow (P11.al (P11.zero (w0:=wA) (xb:=xb) (by show Gx _ _ _; repeat (first|with_reducible exact gx_refl|with_reducible apply gx_dr|with_reducible apply gx_al|with_reducible refine gx_st ?_ hk2 _|with_reducible refine gx_bl ?_ (by assumption)|with_reducible refine gx_gr ?_ (by assumption)))) _) HXA.out hgy; (try simp only [World.size_alloc]at hk); obtain ⟨⟨k0,k1,k2,k3,k4,k5,k6,k7,k8,k9,k10⟩,kf,_⟩:=hk.1.cells; have hk2:=hk.2)|(have hk:=P11.grow (P11.al (P11.dr (P11.zero (w0:=wA) (xb:=xb) (by show Gx _ _ _; repeat (first|with_reducible exact gx_refl|with_reducible apply gx_dr|with_reducible apply gx_al|with_reducible refine gx_st ?_ hk2 _|with_reducible refine gx_bl ?_ (by assumption)|with_reducible refine gx_gr ?_ (by assumption))))) _) HXA.out hgy; (try simp only [World.size_alloc]at hk); obtain ⟨⟨k0,k1,k2,k3,k4,k5,k6,k7,k8,k9,k10⟩,kf,_⟩:=hk.1.cells; have hk2:=hk.2)|(have hk:=P11.grow (P11.al (P11.al (by assumption) _) _) HXA.out hgy; (try simp only [World.size_alloc]at hk); obtain ⟨⟨k0,k1,k2,k3,k4,k5,k6,k7,k8,k9,k10⟩,kf,_⟩:=hk.1.cells; have hk2:=hk.2)|(have hk:=P11.grow (P11.al (by assumption) _) HXA.out hgy; (try simp only [World.size_alloc]at hk); obtain ⟨⟨k0,k1,k2,k3,k4,k5,k6,k7,k8,k9,k10⟩,kf,_⟩:=hk.1.cells; have hk2:=hk.2)|(have hk:=P11.grow (P11.zero (w0:=wA) (xb:=xb) (by show Gx _ _ _; repeat (first|with_reducible exact gx_refl|with_reducible apply gx_dr|with_reducible apply gx_al|with_reducible refine gx_st ?_ hk2 _|with_reducible refine gx_bl ?_ (by assumption)|with_reducible refine gx_gr ?_ (by assumption)))) HXA.out hgy; (try simp only [World.size_alloc]at hk); obtain ⟨⟨k0,k1,k2,k3,k4,k5,k6,k7,k8,k9,k10⟩,kf,_⟩:=hk.1.cells; have hk2:=hk.2)|(have hk:=P11.grow (P11.dr (P11.zero (w0:=wA) (xb:=xb) (by show Gx _ _ _; repeat (first|with_reducible exact gx_refl|with_reducible apply gx_dr|with_reducible apply gx_al|with_reducible refine gx_st ?_ hk2 _|with_reducible refine gx_bl ?_ (by assumption)|with_reducible refine gx_gr ?_ (by assumption))))) HXA.out hgy; (try simp only [World.size_alloc]at hk); obtain ⟨⟨k0,k1,k2,k3,k4,k5,k6,k7,k8,k9,k10⟩,kf,_⟩:=hk.1.cells; have hk2:=hk.2)|skip))|(go_at_call 83; (with_reducible refine (HUN.out _ _ (by first|exact BO.bi hq0|exact BI.reach (BO.bi hq0) (b1 _ _))).mono ?_); rintro e wx ⟨A5,c5,rfl,hq5,hq5b,hbx5⟩; (first|(have hk:=P11.reach (by assumption) hbx5; (try simp only [World.size_alloc]at hk); obtain ⟨⟨k0,k1,k2,k3,k4,k5,k6,k7,k8,k9,k10⟩,kf,_⟩:=hk.1.cells; have hk2:=hk.2)|(have hk:=P11.reach (P11.al (P11.zero (w0:=wA) (xb:=xb) (by show Gx _ _ _; repeat (first|with_reducible exact gx_refl|with_reducible apply gx_dr|with_reducible apply gx_al|with_reducible refine gx_st ?_ hk2 _|with_reducible refine gx_bl ?_ (by assumption)|with_reducible refine gx_gr ?_ (by assumption)))) _) hbx5; (try simp only [World.size_alloc]at hk); obtain ⟨⟨k0,k1,k2,k3,k4,k5,k6,k7,k8,k9,k10⟩,kf,_⟩:=hk.1.cells; have hk2:=hk.2)|(have hk:=P11.reach (P11.al (P11.dr (P11.zero (w0:=wA) (xb:=xb) (by show Gx _ _ _; repeat (first|with_reducible exact gx_refl|with_reducible apply gx_dr|with_reducible apply gx_al|with_reducible refine gx_st ?_ hk2 _|with_reducible refine gx_bl ?_ (by assumption)|with_reducible refine gx_gr ?_ (by assumption))))) _) hbx5; (try simp only [World.size_alloc]at hk); obtain ⟨⟨k0,k1,k2,k3,k4,k5,k6,k7,k8,k9,k10⟩,kf,_⟩:=hk.1.cells; have hk2:=hk.2)|(have hk:=P11.reach (P11.al (P11.al (by assumption) _) _) hbx5; (try simp only [World.size_alloc]at hk); obtain ⟨⟨k0,k1,k2,k3,k4,k5,k6,k7,k8,k9,k10⟩,kf,_⟩:=hk.1.cells; have hk2:=hk.2)|(have hk:=P11.reach (P11.al (by assumption) _) hbx5; (try simp only [World.size_alloc]at hk); obtain ⟨⟨k0,k1,k2,k3,k4,k5,k6,k7,k8,k9,k10⟩,kf,_⟩:=hk.1.cells; have hk2:=hk.2)|(have hk:=P11.reach (P11.zero (w0:=wA) (xb:=xb) (by show Gx _ _ _; repeat (first|with_reducible exact gx_refl|with_reducible apply gx_dr|with_reducible apply gx_al|with_reducible refine gx_st ?_ hk2 _|with_reducible refine gx_bl ?_ (by assumption)|with_reducible refine gx_gr ?_ (by assumption)))) hbx5; (try simp only [World.size_alloc]at hk); obtain ⟨⟨k0,k1,k2,k3,k4,k5,k6,k7,k8,k9,k10⟩,kf,_⟩:=hk.1.cells; have hk2:=hk.2)|(have hk:=P11.reach (P11.dr (P11.zero (w0:=wA) (xb:=xb) (by show Gx _ _ _; repeat (first|with_reducible exact gx_refl|with_reducible apply gx_dr|with_reducible apply gx_al|with_reducible refine gx_st ?_ hk2 _|with_reducible refine gx_bl ?_ (by assumption)|with_reducible refine gx_gr ?_ (by assumption))))) hbx5; (try simp only [World.size_alloc]at hk); obtain ⟨⟨k0,k1,k2,k3,k4,k5,k6,k7,k8,k9,k10⟩,kf,_⟩:=hk.1.cells; have hk2:=hk.2)|skip)))
       all_goals
        go_wp2_with fail;go_meet
        case rel=>exact ⟨_,_,_,rfl,by show RZ _ _ _ _ _ _ _ _ _; first|with_reducible exact RZ.new (by show Gx _ _ _; repeat (first|with_reducible exact gx_refl|with_reducible apply gx_dr|with_reducible apply gx_al|with_reducible refine gx_st ?_ hk2 _|with_reducible refine gx_bl ?_ (by assumption)|with_reducible refine gx_gr ?_ (by assumption))) hgy hq0 hey hbx5 hq5 hq5b|with_reducible exact RZ.set2 HXA.out hk (by show Gx _ _ _; repeat (first|with_reducible exact gx_refl|with_reducible apply gx_dr|with_reducible apply gx_al|with_reducible refine gx_st ?_ hk2 _|with_reducible refine gx_bl ?_ (by assumption)|with_reducible refine gx_gr ?_ (by assumption))) hgy hq0 hey (Below.refl _ _) hbx5 hq5 hq5b ⟨_,_,rfl⟩ (.inl (by have h1:=hbz.size; simp only [World.size_alloc,World.size_drew]at h1 ⊢; omega))|with_reducible exact RZ.set2 HXA.out hk (by show Gx _ _ _; repeat (first|with_reducible exact gx_refl|with_reducible apply gx_dr|with_reducible apply gx_al|with_reducible refine gx_st ?_ hk2 _|with_reducible refine gx_bl ?_ (by assumption)|with_reducible refine gx_gr ?_ (by assumption))) hgy hq0 hey (b1 _ _) hbx5 hq5 hq5b ⟨_,_,rfl⟩ (.inr ⟨rfl,by simp only [World.size_alloc]; omega⟩)⟩
      case rest=>
       obtain ⟨m,A6,c6,rfl,HRZ⟩:=hcut
       rename World=>wB
       have HLB:=hid (HLA.out.step HRZ.out.gx HRZ.out.eb)
       have HDB:Hid (wB.cell? ⟨b,o+2,none⟩=some (.string ⟨t.var.toArray⟩)):=(keepG HDA.out HDA.out hbx hbx HRZ.out.gx).1
       have HSA:Hid (w.heap.size+1≤wA.heap.size):=by have h1:=HLA.out.lo; show _≤_; omega
       obtain ⟨⟨m0,m1,m2,m3,m4,m5,m6,m7,m8,m9,m10⟩,mf,_⟩:=HRZ.out.k.1.cells
       clear hd2 hd3;have hkq:-2147483647≤k∧k≤2147483647:=HKQ.out
       by_cases hre:ru.e=0
       ·have heb:(ru.e != 0)=false:=by simpa using hre
        have hre2:r2.e=0:=HUE.out.symm.trans hre
        have HRE2:=hid (HRE.out.trans (if_pos hre2))
        rw [← HUV.out]at HRE2
        have HRO2:Hid (ru.v.ok):=by show V.ok _; rw [HUV.out]; exact HRO.out hre2
        clear hre hre2;by_cases hkf:k=fr
        ·have hkfb:(k == fr)=true:=by simpa using hkf
         have HRE3:=hid (HRE2.out.trans (if_pos hkf))
         clear hkf;have hk9:K9 wB mb v:=HLB.out.ko
         have HLC:Hid (LJ w (((((((((wB.setCell ⟨mb,0,none⟩ (.int .i64 ru.v.num)).setCell ⟨mb,1,none⟩ (.int .i64 ru.v.den)).setCell ⟨mb,2,none⟩ (.int .i64 ru.v.dim.a)).setCell ⟨mb,3,none⟩ (.int .i64 ru.v.dim.b)).setCell ⟨mb,4,none⟩ (.int .i64 ru.v.dim.c)).setCell ⟨mb,5,none⟩ (.int .i64 ru.v.dim.d)).setCell ⟨mb,6,none⟩ (.int .i64 ru.v.dim.e)).setCell ⟨mb,7,none⟩ (.int .i64 ru.v.dim.f)).setCell ⟨mb,8,none⟩ (.int .i64 ru.v.dim.g)) xb nb ob B0 w3.heap.size E s (.pointer p) b o mb (.cells ru.v.cells 44 (0,0)) (some ⟨b1',o1',none⟩) ca t.args c2):=HLB.out.put (w':=set9 wB mb ru.v) HM8.out (below9 (Below.refl 0 wB) (Nat.zero_le _) ru.v) (set9_other wB mb ru.v) (set9_K9 hk9 ru.v)
         have HDC:Hid ((((((((((wB.setCell ⟨mb,0,none⟩ (.int .i64 ru.v.num)).setCell ⟨mb,1,none⟩ (.int .i64 ru.v.den)).setCell ⟨mb,2,none⟩ (.int .i64 ru.v.dim.a)).setCell ⟨mb,3,none⟩ (.int .i64 ru.v.dim.b)).setCell ⟨mb,4,none⟩ (.int .i64 ru.v.dim.c)).setCell ⟨mb,5,none⟩ (.int .i64 ru.v.dim.d)).setCell ⟨mb,6,none⟩ (.int .i64 ru.v.dim.e)).setCell ⟨mb,7,none⟩ (.int .i64 ru.v.dim.f)).setCell ⟨mb,8,none⟩ (.int .i64 ru.v.dim.g)).cell? ⟨b,o+2,none⟩=some (.string ⟨t.var.toArray⟩)):=(cell_of_block (set9_other wB mb ru.v b (by have:=HM8.out; have:=HBW.out; omega)) _).trans HDB.out
         obtain ⟨⟨⟨y0,y1⟩,y2,y3,y4,y5,y6,y7,y8⟩,yf,_⟩:=hk9.cells
         clear hk9;go_wp2_with fail;go_roundg f
         case measure=>omega
         case rel=>exact ⟨k+1,ru.v,c2,f,Nat.le_refl _,rfl,HRE3.out,by have h1:=HFC.out; have h2:=HC2.out; show _≤_; omega,HC2.out.2,⟨by have h1:=HKB.out; omega,by omega⟩,HRO2.out,HLC.out,HDC.out⟩
        ·have hkfb:(k == fr)=false:=by simpa using hkf
         have HRE3:=hid (HRE2.out.trans (if_neg hkf))
         clear hkf;have hk9:K9 wB mb v:=HLB.out.ko
         obtain ⟨⟨⟨y0,y1⟩,y2,y3,y4,y5,y6,y7,y8⟩,yf,_⟩:=hk9.cells
         have HADD:Hid (∀ (wz:World) (pb:Nat),C9 wz pb 0 v→C9 wz pb (0+9) ru.v→Calls Tryz.prog 68 #[.slice (some ⟨pb,0,none⟩) 2 2] wz fun r w'=>r=.returned (.tuple #[.agg (sumV v ru.v).1.cells,.int .i64 (sumV v ru.v).2])∧Below wz.heap.size wz w'):=fun wz pb h1 h2=>sum_any v ru.v HVO.out HRO2.out pb 0 2 wz h1 h2
         have HAO:Hid ((sumV v ru.v).2=0→(sumV v ru.v).1.ok):=fun h=>sumV_ok HVO.out h
         generalize sumV v ru.v=jj at*;obtain ⟨jv,je⟩:=jj
         dsimp only at HADD HAO HRE3
         have HC:=hid (two9 (heap_alloc_new wB (.cells #[.int .i64 v.num,.int .i64 v.den,.int .i64 v.dim.a,.int .i64 v.dim.b,.int .i64 v.dim.c,.int .i64 v.dim.d,.int .i64 v.dim.e,.int .i64 v.dim.f,.int .i64 v.dim.g,.int .i64 ru.v.num,.int .i64 ru.v.den,.int .i64 ru.v.dim.a,.int .i64 ru.v.dim.b,.int .i64 ru.v.dim.c,.int .i64 ru.v.dim.d,.int .i64 ru.v.dim.e,.int .i64 ru.v.dim.f,.int .i64 ru.v.dim.g] 44)))
         go_wp2_with fail;refine (HADD.out _ _ HC.out.1 HC.out.2).mono ?_
         rintro e wC ⟨rfl,hbC⟩
         have hb18:=bl_tr (b1 wB (.cells #[.int .i64 v.num,.int .i64 v.den,.int .i64 v.dim.a,.int .i64 v.dim.b,.int .i64 v.dim.c,.int .i64 v.dim.d,.int .i64 v.dim.e,.int .i64 v.dim.f,.int .i64 v.dim.g,.int .i64 ru.v.num,.int .i64 ru.v.den,.int .i64 ru.v.dim.a,.int .i64 ru.v.dim.b,.int .i64 ru.v.dim.c,.int .i64 ru.v.dim.d,.int .i64 ru.v.dim.e,.int .i64 ru.v.dim.f,.int .i64 ru.v.dim.g] 44)) hbC
         have HLC:=hid (HLB.out.reach hb18)
         have HDC:=hid ((hb18.cell (block_lt_of_cell HDB.out)).trans HDB.out)
         clear hbC hb18 HC y0 y1 y2 y3 y4 y5 y6 y7 y8 yf hk9;have hk9:K9 wC mb v:=HLC.out.ko
         have HLD:Hid (LJ w (((((((((wC.setCell ⟨mb,0,none⟩ (.int .i64 jv.num)).setCell ⟨mb,1,none⟩ (.int .i64 jv.den)).setCell ⟨mb,2,none⟩ (.int .i64 jv.dim.a)).setCell ⟨mb,3,none⟩ (.int .i64 jv.dim.b)).setCell ⟨mb,4,none⟩ (.int .i64 jv.dim.c)).setCell ⟨mb,5,none⟩ (.int .i64 jv.dim.d)).setCell ⟨mb,6,none⟩ (.int .i64 jv.dim.e)).setCell ⟨mb,7,none⟩ (.int .i64 jv.dim.f)).setCell ⟨mb,8,none⟩ (.int .i64 jv.dim.g)) xb nb ob B0 w3.heap.size E s (.pointer p) b o mb (.cells jv.cells 44 (0,0)) (some ⟨b1',o1',none⟩) ca t.args c2):=HLC.out.put (w':=set9 wC mb jv) HM8.out (below9 (Below.refl 0 wC) (Nat.zero_le _) jv) (set9_other wC mb jv) (set9_K9 hk9 jv)
         have HDD:Hid ((((((((((wC.setCell ⟨mb,0,none⟩ (.int .i64 jv.num)).setCell ⟨mb,1,none⟩ (.int .i64 jv.den)).setCell ⟨mb,2,none⟩ (.int .i64 jv.dim.a)).setCell ⟨mb,3,none⟩ (.int .i64 jv.dim.b)).setCell ⟨mb,4,none⟩ (.int .i64 jv.dim.c)).setCell ⟨mb,5,none⟩ (.int .i64 jv.dim.d)).setCell ⟨mb,6,none⟩ (.int .i64 jv.dim.e)).setCell ⟨mb,7,none⟩ (.int .i64 jv.dim.f)).setCell ⟨mb,8,none⟩ (.int .i64 jv.dim.g)).cell? ⟨b,o+2,none⟩=some (.string ⟨t.var.toArray⟩)):=(cell_of_block (set9_other wC mb jv b (by have:=HM8.out; have:=HBW.out; omega)) _).trans HDC.out
         obtain ⟨⟨⟨y0,y1⟩,y2,y3,y4,y5,y6,y7,y8⟩,yf,_⟩:=hk9.cells
         clear hk9 m0 m1 m2 m3 m4 m5 m6 m7 m8 m9 m10 mf;unfold V.cells;go_upto_region 25 with (fail);clear y0 y1 y2 y3 y4 y5 y6 y7 y8 yf;generalize (((((((((wC.setCell ⟨mb,0,none⟩ (.int .i64 jv.num)).setCell ⟨mb,1,none⟩ (.int .i64 jv.den)).setCell ⟨mb,2,none⟩ (.int .i64 jv.dim.a)).setCell ⟨mb,3,none⟩ (.int .i64 jv.dim.b)).setCell ⟨mb,4,none⟩ (.int .i64 jv.dim.c)).setCell ⟨mb,5,none⟩ (.int .i64 jv.dim.d)).setCell ⟨mb,6,none⟩ (.int .i64 jv.dim.e)).setCell ⟨mb,7,none⟩ (.int .i64 jv.dim.f)).setCell ⟨mb,8,none⟩ (.int .i64 jv.dim.g))=wD at*
         by_cases hje:je=0
         ·have hjeb:(je != 0)=false:=by simpa using hje
          have HRE4:=hid (HRE3.out.trans (if_pos hje))
          have HAO2:Hid (jv.ok):=HAO.out hje
          clear hje;go_wp2_with fail;go_roundg f
          case measure=>omega
          case rel=>exact ⟨k+1,jv,c2,f,Nat.le_refl _,rfl,HRE4.out,by have h1:=HFC.out; have h2:=HC2.out; show _≤_; omega,HC2.out.2,⟨by have h1:=HKB.out; omega,by omega⟩,HAO2.out,HLD.out,HDD.out⟩
         ·have hjeb:(je != 0)=true:=by simpa using hje
          have HRE4:=hid (HRE3.out.trans (if_neg hje))
          clear hje;obtain ⟨⟨z0,z1,z2,z3,z4,z5,z6,z7,z8,z9,z10⟩,zf,_⟩:=HLD.out.k6.cells
          go_wp2_with fail;rw [HRE4.out];refine bodyPost_ret (v:=.agg (R.cells (erR je) (.slice none 0 0))) (by simp [results,Tryz.results82,go_sem,R.cells,erR,zV,zD,z0,z1,z2,z3,z4,z5,z6,z7,z8,z9,z10]) rfl ⟨_,rfl,((BO.nil wD (w.heap.size+1)).set11 (Nat.lt_succ_self _) (erR je) (.slice none 0 0)).less (Nat.le_succ _),grown11 HLD.out.gr (erR je) (.slice none 0 0),eb11 ⟨HLD.out.cx.eb,HX0.out⟩ (erR je) (.slice none 0 0)⟩
       ·have heb:(ru.e != 0)=true:=by simpa using hre
        have hre2:¬ r2.e=0:=fun h=>hre (HUE.out.trans h)
        have HRE2:=hid (HRE.out.trans (if_neg hre2))
        have HRU:Hid (r2.under 2=ru):=HRUE.out
        rw [HRU.out]at HRE2
        clear hre hre2;obtain ⟨⟨z0,z1,z2,z3,z4,z5,z6,z7,z8,z9,z10⟩,zf,_⟩:=HLB.out.k6.cells
        have hne6:m≠w.heap.size:=by have h1:=HRZ.out.k.2; have h2:=HSA.out; omega
        go_wp2_with fail;rw [HRE2.out];refine bodyPost_ret (v:=.agg (R.cells ru (.slice A6 ru.path.length c6))) (by simp [results,Tryz.results82,go_sem,R.cells,z0,z1,z2,z3,z4,z5,z6,z7,z8,z9,z10]) rfl ⟨_,rfl,(((show BO wB (w.heap.size+1) (.slice A6 ru.path.length c6) ru.path from ⟨HRZ.out.bi,fun b o n c e=>Nat.le_trans HSA.out (HRZ.out.far b o n c e)⟩)).set11 (Nat.lt_succ_self _) ru (.slice A6 ru.path.length c6)).less (Nat.le_succ _),grown11 HLB.out.gr ru (.slice A6 ru.path.length c6),eb11 ⟨HLB.out.cx.eb,HX0.out⟩ ru (.slice A6 ru.path.length c6)⟩
    ·have HRE:=hid (HEQ.out.trans (loopB_end _ _ _ _ _ _ _ _ hkt))
     have hk9:K9 wr mb v:=HLR.out.ko
     obtain ⟨⟨⟨y0,y1⟩,y2,y3,y4,y5,y6,y7,y8⟩,yf,_⟩:=hk9.cells
     obtain ⟨⟨z0,z1,z2,z3,z4,z5,z6,z7,z8,z9,z10⟩,zf,_⟩:=HLR.out.k6.cells
     clear hk9;go_wp2_with fail;rw [HRE.out];refine bodyPost_ret (v:=.agg (R.cells (okR v) (.slice none 0 0))) (by simp [results,Tryz.results82,go_sem,R.cells,okR,z0,z1,z2,z3,z4,z5,z6,z7,z8,z9,z10]) rfl ⟨_,rfl,((BO.nil wr (w.heap.size+1)).set11 (Nat.lt_succ_self _) (okR v) (.slice none 0 0)).less (Nat.le_succ _),grown11 HLR.out.gr (okR v) (.slice none 0 0),eb11 ⟨HLR.out.cx.eb,HX0.out⟩ (okR v) (.slice none 0 0)⟩
  ·have heb:(r.e != 0)=true:=by simpa using hre
   have HG5:Hid (ev t (s++E) c=(r,a.2)):=HG4.out.trans (if_neg hre)
   have HSW5:Hid (w.heap.size+1≤w3.heap.size):=HLJ.out.k6.cells.2.2
   clear hre;obtain ⟨⟨z0,z1,z2,z3,z4,z5,z6,z7,z8,z9,z10⟩,zf,_⟩:=HL5.out.k6.cells
   go_wp2_with fail;rw [HG5.out];refine bodyPost_ret (v:=.agg (R.cells r (.slice A5 r.path.length c5))) (by simp [results,Tryz.results82,go_sem,R.cells,z0,z1,z2,z3,z4,z5,z6,z7,z8,z9,z10]) rfl ⟨_,rfl,(((show BO w5 (w.heap.size+1) (.slice A5 r.path.length c5) r.path from HQ5.out.less HSW5.out)).set11 (Nat.lt_succ_self _) r (.slice A5 r.path.length c5)).less (Nat.le_succ _),grown11 HL5.out.gr r (.slice A5 r.path.length c5),eb11 ⟨HL5.out.cx.eb,HX0.out⟩ r (.slice A5 r.path.length c5)⟩
 ·have hzb:((t.args.length:Int) != 3)=true:=by rw [bne_iff_ne]; omega
  have HG2:Hid (ev t (s++E) c=(erR 13,c)):=by
   show _=_
   rw [HG.out,bindG_len (by rw [evs_map,List.length_map]; exact h3)]; simp [sumW,prodW]
  obtain ⟨⟨z0,z1,z2,z3,z4,z5,z6,z7,z8,z9,z10⟩,zf,_⟩:=HLJ.out.k6.cells
  go_wp2_with fail;rw [HG2.out];refine bodyPost_ret (v:=.agg (R.cells (erR 13) (.slice none 0 0))) (by simp [results,Tryz.results82,go_sem,R.cells,erR,zV,zD,z0,z1,z2,z3,z4,z5,z6,z7,z8,z9,z10]) rfl ⟨_,rfl,((BO.nil w3 (w.heap.size+1)).set11 (Nat.lt_succ_self _) (erR 13) (.slice none 0 0)).less (Nat.le_succ _),grown11 HLJ.out.gr (erR 13) (.slice none 0 0),eb11 ⟨HLJ.out.cx.eb,HX0.out⟩ (erR 13) (.slice none 0 0)⟩
end Go.Proofs.YtknpigdpepmimaaGreatDoor
