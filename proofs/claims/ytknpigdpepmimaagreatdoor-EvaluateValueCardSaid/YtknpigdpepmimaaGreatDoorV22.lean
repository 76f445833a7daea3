/- Slices of values: a store at a place, append([]Value{}, l...); contract of ref53.Make 29. -/
import Derived.Deep.AppendLies
import Derived.Laws.AppendOwnNone
import Derived.Laws.OwnMore
import Derived.Deep.RegionLaw
import Derived.OwnWalk
import Derived.Test.YtknpigdpepmimaaGreatDoorV15
import Derived.Test.YtknpigdpepmimaaGreatDoorV21
import Derived.Test.YtknpigdpepmimaaGreatDoorV14
import Derived.Test.YtknpigdpepmimaaGreatDoorV18
import Derived.Deep.CutBlock
import Derived.Deep.DeepCutAuto
import Derived.Deep.RegionHeldLaw
namespace Go.Proofs.YtknpigdpepmimaaGreatDoor
open Go.Lib(hid)
open Go.RowKit Go.Maps
theorem valC_len9:∀ l:List V,(valC l).length=l.length*9
 | []=>rfl
 | x::l=>by
  show (x.cells.toList++valC l).length=_
  rw [List.length_append,valC_len9 l,List.length_cons,show x.cells.toList.length=9 from rfl]; omega
theorem valC_get:∀ (l:List V) (j:Nat) (u:Value),(valC l)[j]?=some u→∃ i,∃ h:i<l.length,∃ k,k<9∧j=i*9+k∧l[i].cells.toList[k]?=some u
 | [],j,u,h=>by simp [valC]at h
 | x::l,j,u,h=>by
  have h':(x.cells.toList++valC l)[j]?=some u:=h
  have e:x.cells.toList.length=9:=rfl
  rcases Nat.lt_or_ge j 9 with hj|hj
  ·rw [List.getElem?_append_left (by omega)]at h'
   exact ⟨0,by simp,j,hj,by omega,h'⟩
  ·rw [List.getElem?_append_right (by omega),e]at h'
   obtain ⟨i,hi,k,hk,e2,e3⟩:=valC_get l (j-9) u h'
   exact ⟨i+1,by simp; omega,k,hk,by omega,e3⟩
theorem C9.at_ {w:World}{b o k:Nat}{v:V}{u:Value}(hc:C9 w b o v)(hk:k<9)(hu:v.cells.toList[k]?=some u):w.cell? ⟨b,o+k,none⟩=some u:=by
 obtain ⟨⟨c0,c1⟩,c2,c3,c4,c5,c6,c7,c8⟩:=hc
 rcases (show k=0∨k=1∨k=2∨k=3∨k=4∨k=5∨k=6∨k=7∨k=8 by omega)with rfl|rfl|rfl|rfl|rfl|rfl|rfl|rfl|rfl
 ·exact c0.trans hu
 ·exact c1.trans hu
 ·exact c2.trans hu
 ·exact c3.trans hu
 ·exact c4.trans hu
 ·exact c5.trans hu
 ·exact c6.trans hu
 ·exact c7.trans hu
 ·exact c8.trans hu
theorem ov_lit (w:World) (B:Nat)(hB:B≤w.heap.size):OV (w.alloc (.cells #[] 44)) B (.slice (some ⟨w.heap.size,0,none⟩) 0 0) []:=World.ownsRow_lit w #[] 0 hB (by unfold maxLen; omega) rfl
theorem app26w {ops:Array Oper}{o:Oper}{a:Act}{K:Act→World→Prop}{Q:Exit→Act→World→Prop}{E:Prop}(w:World)(hgd:o.guard=none)(s x:Operand)
  (ho:o.op=.call { callee:=.builtin .append,args:=#[s,x],argTypes:=#[26,26] })(B g:Nat)(hown:OV w B (.slice (some ⟨g,0,none⟩) 0 0) [])(hs:a.eval s=.slice (some ⟨g,0,none⟩) 0 0)
  (v:Value)(p:List V)(hx:a.eval x=v)(hv:SV w v p)(hz:∀ c,v=.slice none 0 c→c=0)(hl:p.length≤1000)(hB:B≤w.heap.size)
  (h:∀ g7 c7 w7,OV w7 B (.slice (some ⟨g7,0,none⟩) p.length c7) p→w.grownBy w7 (some g)→(g7=g∨g7=w.heap.size)→K (a.put o.dst (.slice (some ⟨g7,0,none⟩) p.length c7)) w7):if Region.wanted o (yielded ops a.tmps)=true then Oper.wp Tryz.prog o a w K Q else E:=by
 obtain ⟨i0,hi0,hz0,hz1,hz2⟩:=info_parts val_info
 obtain ⟨PA,c,rfl,hc,hcell⟩:=hv
 have hrefl:w.grownBy w (some g):=⟨rfl,rfl,rfl,Nat.le_refl _,fun _ _ _=>rfl⟩
 by_cases hp:p=[]
 ·subst hp
  have hw:Region.wanted o (yielded ops a.tmps)=true:=by simp [Region.wanted,hgd]
  cases PA with
  | none=>
   obtain rfl:=hz c rfl
   rw [if_pos hw];have hrun:=run_append_owned_none (P:=Tryz.prog) (w:=w) B 26 o.type 44 i0 9 Tryz.underlying26 hi0 (.slice (some ⟨g,0,none⟩) 0 0) 0 [] hown
   have hx':a.eval x=.slice none 0 0:=hx
   unfold Oper.wp;simp [execOp,ho,resolve,invoke,builtin,hs,hx',hrun,Result.andThen];exact h g 0 w hown hrefl (.inl rfl)
  | some ad=>
   refine step_append_room hgd s x 26 ho 44 i0 9 Tryz.underlying26 hi0 hz1 g 0 0 0 hs ad 0 c [] hx rfl (fun j u hu=>by simp at hu) (by simp) (Nat.le_refl _) (fun j hj=>by simp at hj) ?_
   have e:w.setCells g (0+0*9) []=w:=by simp [World.setCells]
   rw [e];exact h g 0 w hown hrefl (.inl rfl)
 ·obtain ⟨b,q,rfl,hcells⟩:=hcell hp
  have hpos:0<p.length:=List.length_pos_iff.2 hp
  refine step_append_lies _ hgd s x 26 ho B 44 i0 _ 9 72 Tryz.underlying26 hi0 hz0 hz1 hz2 rfl (by decide) _ 0 [] hs hown ⟨b,q,none⟩ p.length c (valC p) hx (valC_len9 p) (fun j u hu=>?_) (fun u hu=>?_) hpos (by unfold maxLen; omega) (by omega) hB _ rfl ?_
  ·obtain ⟨i,hi,k,hk,rfl,hu'⟩:=valC_get p j u hu
   rw [addr_addF,show q+(i*9+k)=q+i*9+k from by omega]
   exact (hcells i hi).at_ hk hu'
  ·obtain ⟨y,_,hy⟩:=List.mem_flatMap.1 hu
   exact val_one y u hy
  ·intro g7 cap7 w7 hown7 hgrow7 hat7 _
   rw [Nat.zero_add]at hown7 ⊢
   rw [List.nil_append]at hown7
   refine h g7 cap7 w7 hown7 hgrow7 ?_
   rcases hat7 with e|e
   ·exact .inl (Option.some.inj e).symm
   ·exact .inr e
set_option maxRecDepth 100000 in
set_option maxHeartbeats 2000000 in
theorem rmake_any (n d:Int)(x:Dm)(w:World):Calls Tryz.prog 29 #[.agg #[.int .i64 n,.int .i64 d],.agg x.cells] w fun r w'=>r=.returned (.agg (V.mk n d x).cells)∧Below w.heap.size w w':=by
 have HB:=hid (b3 w (.cells #[.int .i64 n,.int .i64 d] 64) (.cells #[.int .i64 x.a,.int .i64 x.b,.int .i64 x.c,.int .i64 x.d,.int .i64 x.e,.int .i64 x.f,.int .i64 x.g] 42) (.cells #[.int .i64 0,.int .i64 0,.int .i64 0,.int .i64 0,.int .i64 0,.int .i64 0,.int .i64 0,.int .i64 0,.int .i64 0] 44))
 have hk1:(((w.alloc (.cells #[.int .i64 n,.int .i64 d] 64)).alloc (.cells #[.int .i64 x.a,.int .i64 x.b,.int .i64 x.c,.int .i64 x.d,.int .i64 x.e,.int .i64 x.f,.int .i64 x.g] 42)).alloc (.cells #[.int .i64 0,.int .i64 0,.int .i64 0,.int .i64 0,.int .i64 0,.int .i64 0,.int .i64 0,.int .i64 0,.int .i64 0] 44)).heap[w.heap.size]?=some (.cells #[.int .i64 n,.int .i64 d] 64 (0,0)):=((b1 _ _).block w.heap.size (by simp; omega)).trans (((b1 _ _).block w.heap.size (by simp)).trans (heap_alloc_new w _))
 have hk2:=(K7.new (w.alloc (.cells #[.int .i64 n,.int .i64 d] 64)) x).reach (b1 _ (.cells #[.int .i64 0,.int .i64 0,.int .i64 0,.int .i64 0,.int .i64 0,.int .i64 0,.int .i64 0,.int .i64 0,.int .i64 0] 44))
 have hk3:K9 (((w.alloc (.cells #[.int .i64 n,.int .i64 d] 64)).alloc (.cells #[.int .i64 x.a,.int .i64 x.b,.int .i64 x.c,.int .i64 x.d,.int .i64 x.e,.int .i64 x.f,.int .i64 x.g] 42)).alloc (.cells #[.int .i64 0,.int .i64 0,.int .i64 0,.int .i64 0,.int .i64 0,.int .i64 0,.int .i64 0,.int .i64 0,.int .i64 0] 44)) (w.heap.size+1+1) zV:=by
  have:=K9.new ((w.alloc (.cells #[.int .i64 n,.int .i64 d] 64)).alloc (.cells #[.int .i64 x.a,.int .i64 x.b,.int .i64 x.c,.int .i64 x.d,.int .i64 x.e,.int .i64 x.f,.int .i64 x.g] 42)) zV
  rw [World.size_alloc,World.size_alloc]at this
  exact this
 rw [World.size_alloc]at hk2
 have HK1:=hid hk1
 have HK2:=hid hk2
 have HK3:=hid hk3
 clear hk1 hk2 hk3;unfold Dm.cells;go_enter Tryz.func29,Tryz.ntmps29;go_upto_region 1 with (fail);generalize ((w.alloc (.cells #[.int .i64 n,.int .i64 d] 64)).alloc (.cells #[.int .i64 x.a,.int .i64 x.b,.int .i64 x.c,.int .i64 x.d,.int .i64 x.e,.int .i64 x.f,.int .i64 x.g] 42)).alloc (.cells #[.int .i64 0,.int .i64 0,.int .i64 0,.int .i64 0,.int .i64 0,.int .i64 0,.int .i64 0,.int .i64 0,.int .i64 0] 44)=w1 at*
 have k0:w1.cell? ⟨w.heap.size,0,none⟩=some (.int .i64 n):=by simp [World.cell?,HK1.out]
 have k1:w1.cell? ⟨w.heap.size,1,none⟩=some (.int .i64 d):=by simp [World.cell?,HK1.out]
 obtain ⟨⟨p0,p1,p2,p3,p4,p5,p6⟩,_,_⟩:=HK2.out.cells
 obtain ⟨⟨⟨z0,z1⟩,z2,z3,z4,z5,z6,z7,z8⟩,zf,_⟩:=HK3.out.cells
 go_wp2_with fail;refine bodyPost_ret (v:=.agg (V.cells ⟨n,d,x⟩)) (by simp [results,Tryz.results29,go_sem,V.cells,z0,z1,z2,z3,z4,z5,z6,z7,z8]) rfl ⟨rfl,?_⟩
 exact below9 HB.out (b:=w.heap.size+1+1) (by omega) ⟨n,d,x⟩
structure Pd (w:World) (b:Nat)(o:Obj)(vn vv:Value):Prop where
 hh:w.heap[b]?=some o
 hn:vn.ownBlock≠some b
 hv:vv.ownBlock≠some b
theorem Pd.lt {w:World}{b:Nat}{o:Obj}{vn vv:Value}(h:Pd w b o vn vv):b<w.heap.size:=(Array.getElem?_eq_some_iff.1 h.hh).1
variable {m:Nat}{w0 w:World}{c0 c1 vn vv:Value}{ln:List W8}{lv:List V}
theorem gb_below {w w':World}{row:Option Nat}(h:Below w.heap.size w w'):w.grownBy w' row:=⟨h.os,h.tape,h.output,h.size,fun k hk _=>h.block k hk⟩
theorem Pd.alloc {b:Nat}{o:Obj}(h:Pd w b o vn vv)(q:Obj):Pd (w.alloc q) b o vn vv:=⟨((b1 w q).block b h.lt).trans h.hh,h.hn,h.hv⟩
theorem own_ofg {g n c:Nat}{k:Nat}(h:(Value.slice (some ⟨g,0,none⟩) n c).ownBlock=some k):k=g:=(Option.some.inj h).symm
theorem Pd.names {b:Nat}{o:Obj}(h:Pd w b o vn vv){w7:World}{g n c:Nat}(hg:w.grownBy w7 vn.ownBlock)(ha:vn.ownBlock=some g∨g=w.heap.size):Pd w7 b o (.slice (some ⟨g,0,none⟩) n c) vv:=
 ⟨(hg.block b h.lt (fun e=>h.hn e.symm)).trans h.hh,fun e=>by
  have:=own_ofg e
  subst this;rcases ha with e|e
  ·exact h.hn e
  ·have:=h.lt; omega,h.hv⟩
theorem own_set {w:World}{B e size n m:Nat}{v:Value}{xs:List Value}(h:w.ownsRow B e size v n xs)(hne:∀ k,v.ownBlock=some k→k≠m) (u:Value) (o:Nat):(w.setCell ⟨m,o,none⟩ u).ownsRow B e size v n xs:=by
 refine World.ownsRow.kept h (row:=some m) ⟨rfl,rfl,rfl,by rw [World.size_setCell]; exact Nat.le_refl _,fun k _ hk=>Below.heap_setCell w ⟨m,o,none⟩ u k (fun e=>hk (by rw [e]))⟩ ?_
 cases hv:v.ownBlock with
 | none=>exact .inl rfl
 | some k=>exact .inr (fun e=>hne k hv (Option.some.inj e))
theorem Pd.str {b:Nat}{x:W8}(h:Pd w b (.cells #[.string ⟨x.toArray⟩] 9 (0,0)) vn vv):w.cell? ⟨b,0,none⟩=some (.string ⟨x.toArray⟩):=by simp [World.cell?,h.hh]
theorem Pd.val {b:Nat}{x:V}(h:Pd w b (.cells x.cells 44 (0,0)) vn vv):C9 w b 0 x:=(show K9 w b x from h.hh).cells.1
theorem Pd.news {b:Nat}{x:W8}(h:Pd w b (.cells #[.string ⟨x.toArray⟩] 9 (0,0)) vn vv):∀ (j:Nat) (u:Value),([.string ⟨x.toArray⟩]:List Value)[j]?=some u→w.cell? (Addr.add ⟨b,0,none⟩ j)=some u:=fun j u hu=>by
 rcases j with _|j
 ·simp at hu
  subst hu;rw [addr_addF];exact h.str
 ·simp at hu
theorem Pd.newv {b:Nat}{x:V}(h:Pd w b (.cells x.cells 44 (0,0)) vn vv):∀ (j:Nat) (u:Value),x.cells.toList[j]?=some u→w.cell? (Addr.add ⟨b,0,none⟩ j)=some u:=fun j u hu=>by
 rw [addr_addF];exact h.val.at_ (List.getElem?_eq_some_iff.1 hu).1 hu
theorem rl_row {w:World}{B:Nat}{v:Value}{l:List W8}{x:W8}(h:w.ownsRow B 9 1 v (l.length+1) (l.map encS++[.string ⟨x.toArray⟩])):RL w B v (l++[x]):=by
 unfold RL;rw [List.length_append,List.map_append];exact h
theorem ov_row {w:World}{B:Nat}{v:Value}{l:List V}{x:V}(h:w.ownsRow B 44 9 v (l.length+1) (valC l++x.cells.toList)):OV w B v (l++[x]):=by
 unfold OV;rw [List.length_append,valC_snoc];exact h
end Go.Proofs.YtknpigdpepmimaaGreatDoor
namespace Go.Proofs.YtknpigdpepmimaaGreatDoor
open Go.Lib(hid)
def twoL:List W8:=[[112,108,117,115],[109,105,110,117,115],[116,105,109,101,115],[99,100,111,116],[99,114,111,115,115],[112,114,111,100,117,99,116],[111,118,101,114],[100,105,118,105,100,101],[112,111,119,101,114]]
def oneL:List W8:=[[110,101,103],[112,111,115],[103,114,111,117,112],[115,113,114,116],[97,98,115],[102,97,99,116,111,114,105,97,108]]
def arN (n:W8):Nat:=if n∈twoL then 2 else if n∈oneL then 1 else 0
def oneV (n:W8)(a:V):V × Int:=if n=[110,101,103]then negV a else if n=[97,98,115]then absV a else if n=[115,113,114,116]then rooV a else if n=[102,97,99,116,111,114,105,97,108]then facV a else (a,0)
def twoV (n:W8)(a b:V):V × Int:=if n=[112,108,117,115]then sumV a b else if n=[109,105,110,117,115]then difV a b else if n=[111,118,101,114]then quoV a b else if n=[100,105,118,105,100,101]then quoV a b else if n=[112,111,119,101,114]then powV a b else proV a b
def opL (n:W8)(l:List V):V × Int:=match l with
 | [a]=>oneV n a
 | [a,b]=>twoV n a b
 | _=>(zV,1)
theorem op_cases (n:W8):(∃ k,opOf n=some (2,k)∧arN n=2∧∀ a b,opK k [a,b]=twoV n a b)∨(∃ k,opOf n=some (1,k)∧arN n=1∧∀ a,opK k [a]=oneV n a)∨(opOf n=none∧arN n=0):=by
 by_cases h:n∈opTab.map (·.1)
 ·simp only [opTab,List.map_cons,List.map_nil,List.mem_cons,List.not_mem_nil,or_false]at h
  rcases h with rfl|rfl|rfl|rfl|rfl|rfl|rfl|rfl|rfl|rfl|rfl|rfl|rfl|rfl|rfl
  ·exact .inl ⟨0,by decide,by decide,fun _ _=>rfl⟩
  ·exact .inl ⟨1,by decide,by decide,fun _ _=>rfl⟩
  ·exact .inr (.inl ⟨2,by decide,by decide,fun _=>rfl⟩)
  ·exact .inr (.inl ⟨3,by decide,by decide,fun _=>rfl⟩)
  ·exact .inr (.inl ⟨3,by decide,by decide,fun _=>rfl⟩)
  ·exact .inl ⟨4,by decide,by decide,fun _ _=>rfl⟩
  ·exact .inl ⟨4,by decide,by decide,fun _ _=>rfl⟩
  ·exact .inl ⟨4,by decide,by decide,fun _ _=>rfl⟩
  ·exact .inl ⟨4,by decide,by decide,fun _ _=>rfl⟩
  ·exact .inl ⟨5,by decide,by decide,fun _ _=>rfl⟩
  ·exact .inl ⟨5,by decide,by decide,fun _ _=>rfl⟩
  ·exact .inl ⟨6,by decide,by decide,fun _ _=>rfl⟩
  ·exact .inr (.inl ⟨7,by decide,by decide,fun _=>rfl⟩)
  ·exact .inr (.inl ⟨8,by decide,by decide,fun _=>rfl⟩)
  ·exact .inr (.inl ⟨9,by decide,by decide,fun _=>rfl⟩)
 ·refine .inr (.inr ⟨?_,?_⟩)
  ·unfold opOf
   cases hl:opTab.lookup n with
   | none=>rfl
   | some v=>exact absurd (List.mem_map.2 ⟨_,lookup_mem hl,rfl⟩) h
  ·have h1:¬ n∈twoL:=fun h1=>h (by
    simp only [twoL,List.mem_cons,List.not_mem_nil,or_false]at h1
    rcases h1 with rfl|rfl|rfl|rfl|rfl|rfl|rfl|rfl|rfl<;>decide)
   have h2:¬ n∈oneL:=fun h2=>h (by
    simp only [oneL,List.mem_cons,List.not_mem_nil,or_false]at h2
    rcases h2 with rfl|rfl|rfl|rfl|rfl|rfl<;>decide)
   unfold arN;rw [if_neg h1,if_neg h2]
theorem applyG_ref (n:W8)(gs:List G) (c:Nat):applyG n gs c=if arN n=0 then (erR 15,c)else if gs.length=arN n then
   (if (argsG 0 gs c []).1.1.e=0 then (⟨(opL n (argsG 0 gs c []).1.2).1,[],(opL n (argsG 0 gs c []).1.2).2⟩,(argsG 0 gs c []).2)
    else ((argsG 0 gs c []).1.1,(argsG 0 gs c []).2))
  else (erR 13,c):=by
 have hlen:∀ (gs:List G)(i c:Nat)(out:List V),(argsG i gs c out).1.1.e=0→(argsG i gs c out).1.2.length=out.length+gs.length:=by
  intro gs;induction gs with
  | nil=>intro i c out _; rfl
  | cons g gs ih=>
   intro i c out he;rw [argsG]at he ⊢
   by_cases h0:(g c).1.e=0
   ·rw [if_pos h0]at he ⊢
    rw [ih _ _ _ he,List.length_append,List.length_cons,List.length_cons,List.length_nil]; omega
   ·rw [if_neg h0]at he
    exact absurd (show ((g c).1.under i).e=0 from he) (by rw [under_e]; exact h0)
 unfold applyG;rcases op_cases n with ⟨k,h1,h2,h3⟩|⟨k,h1,h2,h3⟩|⟨h1,h2⟩
 ·rw [h1,h2,if_neg (by decide)]
  dsimp only
  by_cases hl:gs.length=2
  ·rw [if_pos hl,if_pos hl]
   by_cases he:(argsG 0 gs c []).1.1.e=0
   ·rw [if_pos he,if_pos he]
    have hq:=hlen gs 0 c [] he
    rw [hl]at hq
    generalize (argsG 0 gs c []).1.2=l at hq;rcases l with _|⟨a,_|⟨b,_|⟨d,l⟩⟩⟩<;>simp at hq
    rw [h3]; rfl
   ·rw [if_neg he,if_neg he]
  ·rw [if_neg hl,if_neg hl]
 ·rw [h1,h2,if_neg (by decide)]
  dsimp only
  by_cases hl:gs.length=1
  ·rw [if_pos hl,if_pos hl]
   by_cases he:(argsG 0 gs c []).1.1.e=0
   ·rw [if_pos he,if_pos he]
    have hq:=hlen gs 0 c [] he
    rw [hl]at hq
    generalize (argsG 0 gs c []).1.2=l at hq;rcases l with _|⟨a,_|⟨b,l⟩⟩<;>simp at hq
    rw [h3]; rfl
   ·rw [if_neg he,if_neg he]
  ·rw [if_neg hl,if_neg hl]
 ·rw [h1,h2,if_pos rfl]
def Tidy (r:R):Prop:=(r.e=0→r.path=[])∧(r.e≠0→r.v=zV)
theorem tidy_ok (v:V):Tidy (okR v):=⟨fun _=>rfl,fun h=>absurd rfl h⟩
theorem tidy_er (e:Int):Tidy (erR e):=⟨fun _=>rfl,fun _=>rfl⟩
theorem Tidy.under {r:R}(h:Tidy r) (i:Int):Tidy (r.under i):=by
 unfold R.under;split
 ·exact h
 ·rename_i h0; exact ⟨fun h1=>absurd h1 h0,h.2⟩
theorem join_tidy (x:Q.Res)(d:Dm) (f:Int)(h:(joinQ x d f).2≠0):(joinQ x d f).1=zV:=by
 unfold joinQ at h ⊢;split
 ·rename_i h0; rw [if_pos h0]at h; exact absurd rfl h
 ·rfl
theorem one_tidy (n:W8)(a:V)(h:(oneV n a).2≠0):(oneV n a).1=zV:=by
 unfold oneV at h ⊢;split
 ·rename_i h0; rw [if_pos h0]at h; exact join_tidy _ _ _ h
 ·rename_i h0; rw [if_neg h0]at h
  split
  ·rename_i h1; rw [if_pos h1]at h; exact absurd rfl h
  ·rename_i h1; rw [if_neg h1]at h
   split
   ·rename_i h2; rw [if_pos h2]at h
    unfold rooV at h ⊢;split
    ·rename_i h3; rw [if_pos h3]at h; exact join_tidy _ _ _ h
    ·rfl
   ·rename_i h2; rw [if_neg h2]at h
    split
    ·rename_i h3; rw [if_pos h3]at h
     unfold facV at h ⊢;split
     ·rename_i h4; rw [if_pos h4]at h
      split
      ·rename_i h5; rw [if_pos h5]at h; exact absurd rfl h
      ·rfl
     ·rfl
    ·rename_i h3; rw [if_neg h3]at h; exact absurd rfl h
theorem sum_tidy (a b:V)(h:(sumV a b).2≠0):(sumV a b).1=zV:=by
 unfold sumV at h ⊢;split
 ·rename_i h0; rw [if_pos h0]at h; exact join_tidy _ _ _ h
 ·rfl
theorem pro_tidy (a b:V)(h:(proV a b).2≠0):(proV a b).1=zV:=join_tidy _ _ _ h
theorem two_tidy (n:W8)(a b:V)(h:(twoV n a b).2≠0):(twoV n a b).1=zV:=by
 have hq:(quoV a b).2≠0→(quoV a b).1=zV:=fun h=>by
  unfold quoV at h ⊢;split
  ·rfl
  ·rename_i h0; rw [if_neg h0]at h; exact join_tidy _ _ _ h
 unfold twoV at h ⊢;split
 ·rename_i h0; rw [if_pos h0]at h; exact sum_tidy _ _ h
 ·rename_i h0; rw [if_neg h0]at h
  split
  ·rename_i h1; rw [if_pos h1]at h
   unfold difV at h ⊢;split
   ·rename_i h3; rw [if_pos h3]at h; exact join_tidy _ _ _ h
   ·rfl
  ·rename_i h1; rw [if_neg h1]at h
   split
   ·rename_i h2; rw [if_pos h2]at h; exact hq h
   ·rename_i h2; rw [if_neg h2]at h
    split
    ·rename_i h3; rw [if_pos h3]at h; exact hq h
    ·rename_i h3; rw [if_neg h3]at h
     split
     ·rename_i h4; rw [if_pos h4]at h
      unfold powV at h ⊢;split
      ·rename_i h5; rw [if_pos h5]at h
       split
       ·rename_i h6; rw [if_pos h6]at h
        split
        ·rfl
        ·rename_i h7; rw [if_neg h7]at h; exact join_tidy _ _ _ h
       ·rfl
      ·rfl
     ·rename_i h4; rw [if_neg h4]at h; exact pro_tidy _ _ h
theorem opL_tidy (n:W8)(l:List V)(h:(opL n l).2≠0):(opL n l).1=zV:=by
 rcases l with _|⟨a,_|⟨b,_|⟨d,l⟩⟩⟩
 ·rfl
 ·exact one_tidy n a h
 ·exact two_tidy n a b h
 ·rfl
theorem args_tidy:∀ (gs:List G)(i c:Nat)(out:List V),(∀ g∈gs,∀ c,Tidy (g c).1)→Tidy (argsG i gs c out).1.1
 | [],_,_,_,_=>tidy_ok zV
 | g::gs,i,c,out,hg=>by
  rw [argsG];split
  ·exact args_tidy gs _ _ _ (fun g h=>hg g (List.mem_cons_of_mem _ h))
  ·exact (hg g List.mem_cons_self c).under i
theorem loop_tidy (body:Int→G)(add:V→V→V × Int)(fr hi:Int)(hb:∀ k c,Tidy (body k c).1):
  ∀ (f:Nat) (k:Int)(v:V) (c:Nat),Tidy (loopB body add fr hi f k v c).1
 | 0,_,_,_=>tidy_er 6
 | f+1,k,v,c=>by
  rw [loopB];split
  ·split
   ·exact tidy_er 6
   ·split
    ·split
     ·exact loop_tidy body add fr hi hb f _ _ _
     ·split
      ·exact loop_tidy body add fr hi hb f _ _ _
      ·exact tidy_er _
    ·exact (hb k (c+1)).under 2
  ·exact tidy_ok v
theorem limE_tidy (x y:V):Tidy (limE x y):=by
 unfold limE;split
 ·split
  ·split
   ·split
    ·exact tidy_ok zV
    ·exact ⟨fun h=>absurd h (by decide),fun _=>rfl⟩
   ·exact ⟨fun h=>absurd h (by decide),fun _=>rfl⟩
  ·exact ⟨fun h=>absurd h (by decide),fun _=>rfl⟩
 ·exact ⟨fun h=>absurd h (by decide),fun _=>rfl⟩
theorem limG_tidy {n:W8}{h:Int→G}(hh:∀ k c,Tidy (h k c).1){a:(R × List V) × Nat}(ha:Tidy a.1.1):Tidy (limG n h a).1:=by
 obtain ⟨⟨r,l⟩,c⟩:=a
 unfold limG;simp only at ha ⊢
 split
 ·rcases l with _|⟨x,_|⟨y,_|⟨z,l⟩⟩⟩
  ·exact tidy_er 1
  ·exact tidy_er 1
  ·simp only
   split
   ·exact loop_tidy h (addOf n) x.num y.num hh 2001 x.num (zeroOf n) c
   ·exact limE_tidy x y
  ·exact tidy_er 1
 ·exact ha
theorem lookR_tidy {α:Type}(f:α→Option V)(x:α):Tidy (lookR f x):=by
 unfold lookR; split
 ·exact tidy_ok _
 ·exact tidy_er 11
theorem ev_tidy:∀ (N:Nat)(t:T),t.size≤N→∀ (s:Sc) (c:Nat),Tidy (ev t s c).1
 | 0,t,h,_,_=>by have:=size_pos t; omega
 | N+1,t,h,s,c=>by
  have ih:=fun (u:T)(hu:u∈t.args)=>ev_tidy N u (size_list h hu)
  have hgs:∀ g∈evs t.args s,∀ c,Tidy (g c).1:=fun g hg=>by
   rw [evs_map]at hg
   obtain ⟨u,hu,rfl⟩:=List.mem_map.1 hg
   exact ih u hu s
  rw [ev_eq];refine stepN_cases _ _ _ _ _ (fun r=>Tidy r.1) c ⟨fun _=>rfl,fun h=>join_tidy _ _ _ h⟩ (lookR_tidy _ _) (lookR_tidy _ _) ?_ ?_
  ·by_cases h3:t.args.length=3
   ·obtain ⟨a,b,e,hargs⟩:=three h3
    rw [hargs]at ih ⊢
    rw [evs,evs,evs,evs,evh,evh,evh,evh,bindG_three];split
    ·refine limG_tidy (fun k c=>ih e (by simp) _ c) (args_tidy _ _ _ _ (fun g hg=>?_))
     rcases List.mem_cons.1 hg with rfl|hg
     ·exact ih a (by simp) s
     ·rw [List.mem_singleton]at hg; subst hg; exact ih b (by simp) s
    ·exact tidy_er _
   ·rw [bindG_len (by rw [evs_map,List.length_map]; exact h3)]
    split<;>exact tidy_er _
  ·rw [applyG_ref]
   split
   ·exact tidy_er _
   ·split
    ·split
     ·exact ⟨fun _=>rfl,fun h=>opL_tidy _ _ h⟩
     ·exact args_tidy _ _ _ _ hgs
    ·exact tidy_er _
theorem lookup_mem_iff {l:Sc}(h:(l.map (·.1)).Nodup)(x:W8)(v:V):l.lookup x=some v↔(x,v)∈l:=by
 refine ⟨lookup_mem,?_⟩
 induction l with
 | nil=>intro h; cases h
 | cons p l ih=>
  intro hm;obtain ⟨y,u⟩:=p
  rw [List.map_cons,List.nodup_cons]at h
  rw [List.lookup_cons];rcases List.mem_cons.1 hm with e|hm
  ·obtain ⟨rfl,rfl⟩:=Prod.mk.inj e
   simp
  ·have hne:x≠y:=fun e=>h.1 (by rw [← e]; exact List.mem_map.2 ⟨_,hm,rfl⟩)
   have:(x == y)=false:=by simpa using hne
   rw [this];exact ih h.2 hm
theorem lk_rev {l:Sc}(h:(l.map (·.1)).Nodup)(x:W8):lkR l.reverse x=lkR l x:=by
 have h2:(l.reverse.map (·.1)).Nodup:=by rw [List.map_reverse]; exact List.pairwise_reverse.2 (h.imp fun h e=>h e.symm)
 have e:l.reverse.lookup x=l.lookup x:=by
  apply Option.ext
  intro v;rw [lookup_mem_iff h2,lookup_mem_iff h,List.mem_reverse]
 unfold lkR lookR;dsimp only
 rw [e]
theorem ev_rev {l:Sc}(h:(l.map (·.1)).Nodup)(t:T):ev t l.reverse=ev t l:=ev_congr t.size t (Nat.le_refl _) _ _ (fun x _=>lk_rev h x)
end Go.Proofs.YtknpigdpepmimaaGreatDoor
namespace Go.Proofs.YtknpigdpepmimaaGreatDoor
open Go.Lib(hid)
open Go.RowKit Go.Maps
structure MS (w:World)(mb B:Nat)(s:Sc) (c:Nat)(vn vv:Value):Prop where
 hB:B≤mb
 ht:w.heap[mb]?=some (.cells #[vn,vv,.int .i64 (2000-(c:Int))] 95 (0,0))
 hn:RL w B vn (s.map (·.1)).reverse
 hv:OV w B vv (s.map (·.2)).reverse
 dn:vn.ownBlock≠some mb
 dv:vv.ownBlock≠some mb
 hd:∀ k,vn.ownBlock=some k→vv.ownBlock≠some k
def Aw (mb:Nat)(vn vv:Value) (k:Nat):Prop:=k≠mb∧vn.ownBlock≠some k∧vv.ownBlock≠some k
structure Gm (w w':World) (mb:Nat)(vn vv vn' vv':Value):Prop where
 os:w'.os=w.os
 tape:w'.tape=w.tape
 output:w'.output=w.output
 size:w.heap.size≤w'.heap.size
 block:∀ k,k<w.heap.size→Aw mb vn vv k→w'.heap[k]?=w.heap[k]?∧Aw mb vn' vv' k
variable {w w' w'':World}{mb B:Nat}{s:Sc}{c:Nat}{vn vv vn' vv' vn'' vv'':Value}
theorem Gm.tr (h:Gm w w' mb vn vv vn' vv')(h2:Gm w' w'' mb vn' vv' vn'' vv''):Gm w w'' mb vn vv vn'' vv'':=
 ⟨h2.os.trans h.os,h2.tape.trans h.tape,h2.output.trans h.output,Nat.le_trans h.size h2.size,fun k hk ha=>by
  have h3:=h.block k hk ha
  have h4:=h2.block k (Nat.lt_of_lt_of_le hk h.size) h3.2
  exact ⟨h4.1.trans h3.1,h4.2⟩⟩
theorem Gm.bel (h:Below w.heap.size w w'):Gm w w' mb vn vv vn vv:=⟨h.os,h.tape,h.output,h.size,fun k hk ha=>⟨h.block k hk,ha⟩⟩
theorem Gm.cell (h:Gm w w' mb vn vv vn' vv'){b o:Nat}{v:Value}(hc:w.cell? ⟨b,o,none⟩=some v)(ha:Aw mb vn vv b):w'.cell? ⟨b,o,none⟩=some v:=
 (cell_of_block (h.block b (block_lt_of_cell hc) ha).1 o).trans hc
theorem MS.cells (h:MS w mb B s c vn vv):w.cell? ⟨mb,0,none⟩=some vn∧w.cell? ⟨mb,1,none⟩=some vv∧w.cell? ⟨mb,2,none⟩=some (.int .i64 (2000-(c:Int)))∧(∀ i,w.frozen? ⟨mb,i,none⟩=false)∧mb<w.heap.size:=by
 refine ⟨?_,?_,?_,fun i=>?_,(Array.getElem?_eq_some_iff.1 h.ht).1⟩<;>simp [World.cell?,World.frozen?,h.ht]
theorem MS.lt (h:MS w mb B s c vn vv):mb<w.heap.size:=h.cells.2.2.2.2
theorem MS.reach (h:MS w mb B s c vn vv)(hb:Below w.heap.size w w'):MS w' mb B s c vn vv:=
 ⟨h.hB,(hb.block mb h.lt).trans h.ht,World.ownsRow.kept h.hn (gb_below (row:=none) hb) (by cases vn.ownBlock<;>simp),World.ownsRow.kept h.hv (gb_below (row:=none) hb) (by cases vv.ownBlock<;>simp),h.dn,h.dv,h.hd⟩
theorem MS.fresh (h:MS w mb B s c vn vv){k:Nat}(hk:w.heap.size≤k):Aw mb vn vv k:=
 ⟨fun e=>by have:=h.lt; omega,fun e=>by have:=(h.hn.lt k e).2; omega,fun e=>by have:=(h.hv.lt k e).2; omega⟩
theorem MS.low (h:MS w mb B s c vn vv){k:Nat}(hk:k<B):Aw mb vn vv k:=
 ⟨fun e=>by have:=h.hB; omega,fun e=>by have:=(h.hn.lt k e).1; omega,fun e=>by have:=(h.hv.lt k e).1; omega⟩
theorem Gm.below (h:Gm w w' mb vn vv vn' vv')(hm:MS w mb B s c vn vv)(hB:B≤w.heap.size):Below B w w':=
 ⟨h.os,h.tape,h.output,h.size,fun k hk=>(h.block k (Nat.lt_of_lt_of_le hk hB) (hm.low hk)).1⟩
theorem MS.bLe (h:MS w mb B s c vn vv):B≤w.heap.size:=by have:=h.hB; have:=h.lt; omega
structure FB (w:World) (fb:Nat)(S:Nat→Prop) (e:Int)(l:List Int):Prop where
 ex:∃ q,w.heap[fb]?=some (.cells #[.int .i64 e,q] 100 (0,0))∧BI w q l∧∀ b o n c,q=.slice (some ⟨b,o,none⟩) n c→l≠[]→S b
 sf:S fb
theorem FB.keep {fb:Nat}{S S':Nat→Prop}{e:Int}{l:List Int}(h:FB w fb S e l)(hk:∀ k,k<w.heap.size→S k→k<w'.heap.size∧w'.heap[k]?=w.heap[k]?∧S' k):FB w' fb S' e l:=by
 obtain ⟨⟨q,h1,h2,h3⟩,h4⟩:=h
 have hl:=(Array.getElem?_eq_some_iff.1 h1).1
 refine ⟨⟨q,(hk fb hl h4).2.1.trans h1,h2.keep2 (fun hne b o n c e hb=>?_),fun b o n c e hne=>?_⟩,(hk fb hl h4).2.2⟩
 ·have:=hk b hb (h3 b o n c e hne); exact ⟨this.1,this.2.1⟩
 ·exact (hk b (h2.lt hne e) (h3 b o n c e hne)).2.2
theorem FB.reach {fb:Nat}{S:Nat→Prop}{e:Int}{l:List Int}(h:FB w fb S e l)(hb:Below w.heap.size w w'):FB w' fb S e l:=
 h.keep fun k hk hs=>⟨Nat.lt_of_lt_of_le hk hb.size,hb.block k hk,hs⟩
theorem FB.mono {fb:Nat}{S S':Nat→Prop}{e:Int}{l:List Int}(h:FB w fb S e l)(hs:∀ k,S k→S' k):FB w fb S' e l:=h.keep fun k hk h=>⟨hk,rfl,hs k h⟩
def FP (w:World)(q:Option Addr)(S:Nat→Prop)(r:R):Prop:=(r.e=0∧q=none)∨(r.e≠0∧∃ fb,q=some ⟨fb,0,none⟩∧FB w fb S r.e r.path)
theorem MS.count (h:MS w mb B s c vn vv) (d:Nat):MS (w.setCell ⟨mb,2,none⟩ (.int .i64 (2000-(d:Int)))) mb B s d vn vv:=by
 refine ⟨h.hB,?_,own_set h.hn (fun k hk e=>h.dn (by rw [← e]; exact hk)) _ _,own_set h.hv (fun k hk e=>h.dv (by rw [← e]; exact hk)) _ _,h.dn,h.dv,h.hd⟩
 show (w.heap.modify mb _)[mb]?=_
 rw [Array.getElem?_modify,if_pos rfl,h.ht];rfl
theorem Gm.store (mb o:Nat) (u:Value):Gm w (w.setCell ⟨mb,o,none⟩ u) mb vn vv vn vv:=
 ⟨rfl,rfl,rfl,by rw [World.size_setCell]; exact Nat.le_refl _,fun k _ ha=>⟨Below.heap_setCell w ⟨mb,o,none⟩ u k (fun e=>ha.1 e),ha⟩⟩
theorem own_front {w:World}{B e size n:Nat}{xs ys:List Value}{A:Option Addr}{k cap:Nat}(h:w.ownsRow B e size (.slice A n cap) n xs)(hk:k≤n)(hn:n≠0)(hy:ys=xs.take (k*size)):w.ownsRow B e size (.slice A k cap) k ys:=by
 obtain ⟨h1,h2⟩:=h
 subst hy;refine ⟨by rw [List.length_take,h1]; exact Nat.min_eq_left (Nat.mul_le_mul_right _ hk),?_⟩
 rcases h2 with ⟨_,h0⟩|⟨g,c,cur,e1,h3,h4,h5,h6,h7,h8⟩
 ·exact absurd h0 hn
 ·obtain ⟨rfl,_,rfl⟩:=Value.slice.inj e1
  refine .inr ⟨g,cap,cur,rfl,h3,h4,Nat.le_trans hk h5,h6,h7,?_⟩
  rw [← h8,List.take_take,Nat.min_eq_left (Nat.mul_le_mul_right _ hk)]
structure MQ (w0 w:World)(mb B:Nat)(un uv c0 c1 vn vv:Value)(ln:List W8)(lv:List V) (c:Nat):Prop where
 hB:B≤mb
 ht:w.heap[mb]?=some (.cells #[c0,c1,.int .i64 (2000-(c:Int))] 95 (0,0))
 hn:RL w B vn ln
 hv:OV w B vv lv
 dn:vn.ownBlock≠some mb
 dv:vv.ownBlock≠some mb
 hd:∀ k,vn.ownBlock=some k→vv.ownBlock≠some k
 g:Gm w0 w mb un uv vn vv
theorem MS.start (h:MS w mb B s c vn vv):MQ w w mb B vn vv vn vv vn vv (s.map (·.1)).reverse (s.map (·.2)).reverse c:=
 ⟨h.hB,h.ht,h.hn,h.hv,h.dn,h.dv,h.hd,Gm.bel (Below.refl _ _)⟩
variable {w0:World}{un uv c0 c1:Value}{ln:List W8}{lv:List V}
theorem MQ.ms (h:MQ w0 w mb B un uv vn vv vn vv ln lv c)(e1:ln=(s.map (·.1)).reverse)(e2:lv=(s.map (·.2)).reverse):MS w mb B s c vn vv:=by
 subst e1; subst e2; exact ⟨h.hB,h.ht,h.hn,h.hv,h.dn,h.dv,h.hd⟩
theorem MQ.lt (h:MQ w0 w mb B un uv c0 c1 vn vv ln lv c):mb<w.heap.size:=(Array.getElem?_eq_some_iff.1 h.ht).1
theorem MQ.reach (h:MQ w0 w mb B un uv c0 c1 vn vv ln lv c)(hb:Below w.heap.size w w'):MQ w0 w' mb B un uv c0 c1 vn vv ln lv c:=
 ⟨h.hB,(hb.block mb h.lt).trans h.ht,World.ownsRow.kept h.hn (gb_below (row:=none) hb) (by cases vn.ownBlock<;>simp),World.ownsRow.kept h.hv (gb_below (row:=none) hb) (by cases vv.ownBlock<;>simp),h.dn,h.dv,h.hd,h.g.tr (Gm.bel hb)⟩
theorem MQ.alloc (h:MQ w0 w mb B un uv c0 c1 vn vv ln lv c)(o:Obj):MQ w0 (w.alloc o) mb B un uv c0 c1 vn vv ln lv c:=h.reach (b1 w o)
theorem MQ.drew (h:MQ w0 w mb B un uv c0 c1 vn vv ln lv c):MQ w0 w.drew mb B un uv c0 c1 vn vv ln lv c:=h.reach (bl_dr (Below.refl _ _))
theorem MQ.names (h:MQ w0 w mb B un uv c0 c1 vn vv ln lv c){w7:World}{g n k:Nat}{x:W8}(hr:RL w7 B (.slice (some ⟨g,0,none⟩) n k) (ln++[x]))(hg:w.grownBy w7 vn.ownBlock)(ha:vn.ownBlock=some g∨g=w.heap.size):
  MQ w0 w7 mb B un uv c0 c1 (.slice (some ⟨g,0,none⟩) n k) vv (ln++[x]) lv c where
 hB:=h.hB
 ht:=(hg.block mb h.lt (fun e=>h.dn e.symm)).trans h.ht
 hn:=hr
 hv:=World.ownsRow.kept h.hv hg (by
  cases hv:vv.ownBlock with
  | none=>exact .inl rfl
  | some k=>exact .inr (fun e=>h.hd k e.symm hv))
 dn:=fun e=>by
  have:=own_ofg e
  subst this;rcases ha with e|e
  ·exact h.dn e
  ·have:=h.lt; omega
 dv:=h.dv
 hd:=fun k hk hv=>by
  have:=own_ofg hk
  subst this;rcases ha with e|e
  ·exact h.hd _ e hv
  ·have:=(h.hv.lt _ hv).2; omega
 g:=h.g.tr ⟨hg.os,hg.tape,hg.output,hg.size,fun k hk hw=>⟨hg.block k hk (fun e=>hw.2.1 e.symm),hw.1,fun e=>by
  have:=own_ofg e
  subst this;rcases ha with e|e
  ·exact hw.2.1 e
  ·omega,hw.2.2⟩⟩
theorem MQ.values (h:MQ w0 w mb B un uv c0 c1 vn vv ln lv c){w7:World}{g n k:Nat}{x:V}(hr:OV w7 B (.slice (some ⟨g,0,none⟩) n k) (lv++[x]))(hg:w.grownBy w7 vv.ownBlock)(ha:vv.ownBlock=some g∨g=w.heap.size):
  MQ w0 w7 mb B un uv c0 c1 vn (.slice (some ⟨g,0,none⟩) n k) ln (lv++[x]) c where
 hB:=h.hB
 ht:=(hg.block mb h.lt (fun e=>h.dv e.symm)).trans h.ht
 hn:=World.ownsRow.kept h.hn hg (by
  cases hv:vn.ownBlock with
  | none=>exact .inl rfl
  | some k=>exact .inr (fun e=>h.hd k hv e.symm))
 hv:=hr
 dn:=h.dn
 dv:=fun e=>by
  have:=own_ofg e
  subst this;rcases ha with e|e
  ·exact h.dv e
  ·have:=h.lt; omega
 hd:=fun k hk hv=>by
  have:=own_ofg hv
  subst this;rcases ha with e|e
  ·exact h.hd _ hk e
  ·have:=(h.hn.lt _ hk).2; omega
 g:=h.g.tr ⟨hg.os,hg.tape,hg.output,hg.size,fun k hk hw=>⟨hg.block k hk (fun e=>hw.2.2 e.symm),hw.1,hw.2.1,fun e=>by
  have:=own_ofg e
  subst this;rcases ha with e|e
  ·exact hw.2.2 e
  ·omega⟩⟩
theorem MQ.set0 (h:MQ w0 w mb B un uv c0 c1 vn vv ln lv c) (u:Value):MQ w0 (w.setCell ⟨mb,0,none⟩ u) mb B un uv u c1 vn vv ln lv c:=by
 refine ⟨h.hB,?_,own_set h.hn (fun k hk e=>h.dn (by rw [← e]; exact hk)) _ _,own_set h.hv (fun k hk e=>h.dv (by rw [← e]; exact hk)) _ _,h.dn,h.dv,h.hd,h.g.tr (Gm.store mb 0 u)⟩
 show (w.heap.modify mb _)[mb]?=_
 rw [Array.getElem?_modify,if_pos rfl,h.ht];rfl
theorem MQ.set1 (h:MQ w0 w mb B un uv c0 c1 vn vv ln lv c) (u:Value):MQ w0 (w.setCell ⟨mb,1,none⟩ u) mb B un uv c0 u vn vv ln lv c:=by
 refine ⟨h.hB,?_,own_set h.hn (fun k hk e=>h.dn (by rw [← e]; exact hk)) _ _,own_set h.hv (fun k hk e=>h.dv (by rw [← e]; exact hk)) _ _,h.dn,h.dv,h.hd,h.g.tr (Gm.store mb 1 u)⟩
 show (w.heap.modify mb _)[mb]?=_
 rw [Array.getElem?_modify,if_pos rfl,h.ht];rfl
theorem MQ.less0 {A:Option Addr}{n k:Nat}{x:W8}(h:MQ w0 w mb B un uv c0 c1 (.slice A (n+1) k) vv (ln++[x]) lv c)(hl:ln.length=n):MQ w0 w mb B un uv c0 c1 (.slice A n k) vv ln lv c:=by
 have hne:n+1≠0:=by omega
 have ho:(Value.slice A n k).ownBlock=(Value.slice A (n+1) k).ownBlock:=by cases A<;>rfl
 have hr:RL w B (.slice A n k) ln:=by
  have h1:=h.hn
  unfold RL at h1 ⊢;rw [List.length_append,hl]at h1
  rw [hl];refine own_front h1 (Nat.le_succ n) hne ?_
  rw [List.map_append,List.take_left' (by simp [hl])]
 exact ⟨h.hB,h.ht,hr,h.hv,by rw [ho]; exact h.dn,h.dv,by rw [ho]; exact h.hd,⟨h.g.os,h.g.tape,h.g.output,h.g.size,fun k hk hw=>⟨(h.g.block k hk hw).1,(h.g.block k hk hw).2.1,by rw [ho]; exact (h.g.block k hk hw).2.2.1,(h.g.block k hk hw).2.2.2⟩⟩⟩
theorem MQ.less1 {A:Option Addr}{n k:Nat}{x:V}(h:MQ w0 w mb B un uv c0 c1 vn (.slice A (n+1) k) ln (lv++[x]) c)(hl:lv.length=n):MQ w0 w mb B un uv c0 c1 vn (.slice A n k) ln lv c:=by
 have hne:n+1≠0:=by omega
 have ho:(Value.slice A n k).ownBlock=(Value.slice A (n+1) k).ownBlock:=by cases A<;>rfl
 have hr:OV w B (.slice A n k) lv:=by
  have h1:=h.hv
  unfold OV at h1 ⊢;rw [List.length_append,hl]at h1
  rw [hl];refine own_front h1 (Nat.le_succ n) hne ?_
  rw [valC_snoc,List.take_left' (by rw [valC_len9,hl])]
 exact ⟨h.hB,h.ht,h.hn,hr,h.dn,by rw [ho]; exact h.dv,by rw [ho]; exact h.hd,⟨h.g.os,h.g.tape,h.g.output,h.g.size,fun k hk hw=>⟨(h.g.block k hk hw).1,(h.g.block k hk hw).2.1,(h.g.block k hk hw).2.2.1,by rw [ho]; exact (h.g.block k hk hw).2.2.2⟩⟩⟩
theorem Gm.row (h:Gm w0 w mb un uv vn vv){row:Option Nat}(hg:w.grownBy w' row)(hr:∀ k,row=some k→w0.heap.size≤k):Gm w0 w' mb un uv vn vv:=
 ⟨hg.os.trans h.os,hg.tape.trans h.tape,hg.output.trans h.output,Nat.le_trans h.size hg.size,fun k hk ha=>⟨(hg.block k (Nat.lt_of_lt_of_le hk h.size) (fun e=>by have:=hr k e.symm; omega)).trans (h.block k hk ha).1,(h.block k hk ha).2⟩⟩
theorem MS.row (h:MS w mb B s c vn vv){row:Option Nat}(hg:w.grownBy w' row)(hr:∀ k,row=some k→Aw mb vn vv k):MS w' mb B s c vn vv:=
 ⟨h.hB,(hg.block mb h.lt (fun e=>(hr mb e.symm).1 rfl)).trans h.ht,World.ownsRow.kept h.hn hg (by
  cases hv:vn.ownBlock with
  | none=>exact .inl rfl
  | some k=>exact .inr (fun e=>(hr k e.symm).2.1 hv)),World.ownsRow.kept h.hv hg (by
  cases hv:vv.ownBlock with
  | none=>exact .inl rfl
  | some k=>exact .inr (fun e=>(hr k e.symm).2.2 hv)),h.dn,h.dv,h.hd⟩
def OA (w:World)(B mb:Nat)(vn vv v:Value)(l:List V):Prop:=OV w B v l∧∀ k,v.ownBlock=some k→Aw mb vn vv k
theorem OA.gm {Bx:Nat}{v:Value}{l:List V}(h:OA w Bx mb vn vv v l)(hg:Gm w w' mb vn vv vn' vv'):OA w' Bx mb vn' vv' v l:=by
 refine ⟨⟨h.1.1,?_⟩,fun k hk=>(hg.block k (h.1.lt k hk).2 (h.2 k hk)).2⟩
 rcases h.1.2 with hn|⟨g,cap,cur,rfl,hb,hgg,rest⟩
 ·exact .inl hn
 ·exact .inr ⟨g,cap,cur,rfl,hb,(hg.block g (Array.getElem?_eq_some_iff.1 hgg).1 (h.2 g rfl)).1.trans hgg,rest⟩
theorem OA.reach {Bx:Nat}{v:Value}{l:List V}(h:OA w Bx mb vn vv v l)(hb:Below w.heap.size w w'):OA w' Bx mb vn vv v l:=h.gm (Gm.bel hb)
theorem own_one {w:World}{B:Nat}{v:Value}{l:List V}{x:V}(h:w.ownsRow B 44 9 v (l.length+1) (valC l++x.cells.toList)):OV w B v (l++[x]):=ov_row h
end Go.Proofs.YtknpigdpepmimaaGreatDoor
namespace Go.Proofs.YtknpigdpepmimaaGreatDoor
open Go.Lib(hid)
def clampN (n:Int):Int:=max (-101) (min 101 n)
theorem okE_two (n:Int):okE n=true↔-100≤n∧n≤100:=by unfold okE; rw [Bool.and_eq_true,decide_eq_true_eq,decide_eq_true_eq]
theorem ok_iff (d:Dm):d.ok=true↔(-100≤d.a∧d.a≤100)∧(-100≤d.b∧d.b≤100)∧(-100≤d.c∧d.c≤100)∧(-100≤d.d∧d.d≤100)∧(-100≤d.e∧d.e≤100)∧(-100≤d.f∧d.f≤100)∧(-100≤d.g∧d.g≤100):=by
 refine ⟨Dm.ok_all,fun h=>?_⟩
 unfold Dm.ok;rw [(okE_two _).2 h.1,(okE_two _).2 h.2.1,(okE_two _).2 h.2.2.1,(okE_two _).2 h.2.2.2.1,(okE_two _).2 h.2.2.2.2.1,(okE_two _).2 h.2.2.2.2.2.1,(okE_two _).2 h.2.2.2.2.2.2];rfl
theorem dpow_ref (x:Dm) (n:Int):dpowQ x n=if x.ok=true then (if (x.times (clampN n)).ok=true then (x.times (clampN n),0)else (zD,2))else (zD,1):=by
 unfold dpowQ;by_cases hx:x.ok=true
 ·rw [if_pos hx,if_pos hx]
  by_cases hz:x=zD
  ·subst hz
   have e:Dm.times (clampN n) zD=zD:=by simp [Dm.times,zD]
   rw [if_pos rfl,e]; rfl
  ·rw [if_neg hz]
   by_cases hn:n < -100∨100<n
   ·rw [if_pos hn,if_neg]
    intro h;apply hz
    have h1:=(ok_iff _).1 h
    have hc:clampN n=101∨clampN n=-101:=by unfold clampN; omega
    unfold Dm.times at h1;dsimp only at h1
    obtain ⟨a,b,c,d,e,f,g⟩:=x
    dsimp only at h1
    have hh:a=0∧b=0∧c=0∧d=0∧e=0∧f=0∧g=0:=by rcases hc with hc|hc<;>rw [hc]at h1<;>omega
    obtain ⟨rfl,rfl,rfl,rfl,rfl,rfl,rfl⟩:=hh
    rfl
   ·rw [if_neg hn]
    have hc:clampN n=n:=by unfold clampN; omega
    rw [hc]
 ·rw [if_neg hx,if_neg hx]
theorem valid_neg (n d:Int):Q.validQ (-n) d=Q.validQ n d:=by
 unfold Q.validQ;rw [Int.natAbs_neg];have e1:decide (-2147483647≤-n)=decide (n≤2147483647):=decide_eq_decide.2 (by omega)
 have e2:decide (-n≤2147483647)=decide (-2147483647≤n):=decide_eq_decide.2 (by omega)
 rw [e1,e2];cases decide (1≤d)<;>cases decide (d≤2147483647)<;>cases decide (n≤2147483647)<;>cases decide (-2147483647≤n)<;>rfl
theorem sub_ref (a b c d:Int):Q.subQ a b c d=Q.addQ a b (-c) d:=by
 unfold Q.subQ Q.addQ;rw [valid_neg,Int.neg_mul,Int.sub_eq_add_neg]
def addR (a b:V)(m:Bool):V × Int:=if a.dim=b.dim then joinQ (Q.addQ a.num a.den (if m then -b.num else b.num) b.den) a.dim 0 else (zV,16)
theorem addR_dif (a b:V):addR a b true=difV a b:=by
 unfold addR difV;rw [sub_ref]; rfl
theorem neg_ref {a:V}(h:a.ok):negV a=(⟨-a.num,a.den,a.dim⟩,0):=by
 unfold negV Q.negQ joinQ;rw [h.1]; rfl
end Go.Proofs.YtknpigdpepmimaaGreatDoor
namespace Go.Proofs.YtknpigdpepmimaaGreatDoor
open Go.Lib(hid)
open Go.RowKit Go.Maps
def H2 (w:World) (b:Nat)(x y:Int):Prop:=w.heap[b]?=some (.cells #[.int .i64 x,.int .i64 y] 64 (0,0))
theorem H2.cells {w:World}{b:Nat}{x y:Int}(h:H2 w b x y):(w.cell? ⟨b,0,none⟩=some (.int .i64 x)∧w.cell? ⟨b,1,none⟩=some (.int .i64 y))∧(∀ i,w.frozen? ⟨b,i,none⟩=false)∧b<w.heap.size:=by
 unfold H2 at h;refine ⟨⟨?_,?_⟩,fun i=>?_,(Array.getElem?_eq_some_iff.1 h).1⟩<;>simp [World.cell?,World.frozen?,h]
theorem H2.reach {w w':World}{b:Nat}{x y:Int}(h:H2 w b x y)(hb:Below w.heap.size w w'):H2 w' b x y:=(hb.block b h.cells.2.2).trans h
theorem H2.new (w:World)(x y:Int):H2 (w.alloc (.cells #[.int .i64 x,.int .i64 y] 64)) w.heap.size x y:=heap_alloc_new w _
def Pr2 (w0 w:World) (p:Nat)(x y:Int):Prop:=H2 w p x y∧w0.heap.size≤p
theorem Pr2.new {w0 w:World}(h:Below w0.heap.size w0 w)(x y:Int):Pr2 w0 (w.alloc (.cells #[.int .i64 x,.int .i64 y] 64)) w.heap.size x y:=⟨H2.new w x y,h.size⟩
theorem Pr2.reach {w0 w w':World}{p:Nat}{x y:Int}(h:Pr2 w0 w p x y)(hb:Below w.heap.size w w'):Pr2 w0 w' p x y:=⟨h.1.reach hb,h.2⟩
theorem Pr2.dr {w0 w:World}{p:Nat}{x y:Int}(h:Pr2 w0 w p x y):Pr2 w0 w.drew p x y:=h
theorem Pr2.set {w0 w:World}{p:Nat}{x y:Int}(h:Pr2 w0 w p x y)(n d:Int):Pr2 w0 ((w.setCell ⟨p,0,none⟩ (.int .i64 n)).setCell ⟨p,1,none⟩ (.int .i64 d)) p n d:=by
 refine ⟨?_,h.2⟩
 have h1:=h.1
 unfold H2 at h1 ⊢
 have e1:(w.setCell ⟨p,0,none⟩ (.int .i64 n)).heap[p]?=some (.cells #[.int .i64 n,.int .i64 y] 64 (0,0)):=by
  show (w.heap.modify p _)[p]?=_
  rw [Array.getElem?_modify,if_pos rfl,h1];rfl
 show ((w.setCell ⟨p,0,none⟩ (.int .i64 n)).heap.modify p _)[p]?=_
 rw [Array.getElem?_modify,if_pos rfl,e1];rfl
def FO (w:World) (B:Nat)(q:Option Addr)(j:V × Int):Prop:=FP w q (fun k=>B≤k) ⟨j.1,[],j.2⟩
theorem FO.ok (w:World) (B:Nat)(v:V):FO w B none (v,0):=.inl ⟨rfl,rfl⟩
theorem FO.no {w:World}{B fb:Nat}{v:V}{e:Int}(he:e≠0)(h:FB w fb (fun k=>B≤k) e []):FO w B (some ⟨fb,0,none⟩) (v,e):=.inr ⟨he,fb,rfl,h⟩
theorem FO.keep {w w':World}{B B':Nat}{q:Option Addr}{j:V × Int}(h:FO w B q j)(hk:∀ k,k<w.heap.size→B≤k→k<w'.heap.size∧w'.heap[k]?=w.heap[k]?∧B'≤k):FO w' B' q j:=by
 rcases h with h|⟨he,fb,hq,h⟩
 ·exact .inl h
 ·exact .inr ⟨he,fb,hq,h.keep hk⟩
theorem FO.less {w:World}{B B':Nat}{q:Option Addr}{j:V × Int}(h:FO w B q j)(hB:B'≤B):FO w B' q j:=h.keep fun _ hk h=>⟨hk,rfl,Nat.le_trans hB h⟩
theorem FO.set9 {w:World}{B b:Nat}{q:Option Addr}{j:V × Int}(h:FO w B q j)(hb:b<B)(y:V):FO (Go.Proofs.YtknpigdpepmimaaGreatDoor.set9 w b y) B q j:=
 h.keep fun k hk h2=>⟨by rw [set9_size]; exact hk,set9_other w b y k (by omega),h2⟩
theorem cell_mod {w:World}{b:Nat}{cs:Array Value}{ty:TypeId}(h:w.heap[b]?=some (.cells cs ty (0,0))) (o:Nat) (u:Value):(w.setCell ⟨b,o,none⟩ u).heap[b]?=some (.cells (cs.setIfInBounds o u) ty (0,0)):=by
 show (w.heap.modify b _)[b]?=_
 rw [Array.getElem?_modify,if_pos rfl,h];rfl
set_option maxRecDepth 100000 in
set_option maxHeartbeats 1000000 in
theorem fail_any (e:Int)(w:World):Calls Tryz.prog 92 #[.int .i64 e] w fun r w'=>∃ fb,r=.returned (.tuple #[.agg #[.int .i64 0,.int .i64 0,.int .i64 0,.int .i64 0,.int .i64 0,.int .i64 0,.int .i64 0,.int .i64 0,.int .i64 0],.pointer (some ⟨fb,0,none⟩)])∧FB w' fb (fun k=>w.heap.size≤k) e []∧Below w.heap.size w w':=by
 have HB:=hid (b1 w (.cells #[.int .i64 0,.int .i64 0,.int .i64 0,.int .i64 0,.int .i64 0,.int .i64 0,.int .i64 0,.int .i64 0,.int .i64 0] 44))
 have HK:Hid (K9 (w.alloc (.cells #[.int .i64 0,.int .i64 0,.int .i64 0,.int .i64 0,.int .i64 0,.int .i64 0,.int .i64 0,.int .i64 0,.int .i64 0] 44)) w.heap.size zV):=K9.new w zV
 have HS:Hid ((w.alloc (.cells #[.int .i64 0,.int .i64 0,.int .i64 0,.int .i64 0,.int .i64 0,.int .i64 0,.int .i64 0,.int .i64 0,.int .i64 0] 44)).heap.size=w.heap.size+1):=by show _=_; simp
 go_enter Tryz.func92,Tryz.ntmps92;go_upto_region 1 with (fail);generalize w.alloc (.cells #[.int .i64 0,.int .i64 0,.int .i64 0,.int .i64 0,.int .i64 0,.int .i64 0,.int .i64 0,.int .i64 0,.int .i64 0] 44)=w1 at*;have HN:Hid ((w1.alloc (.cells #[.int .i64 e,.slice none 0 0] 100)).heap[w1.heap.size]?=some (.cells #[.int .i64 e,.slice none 0 0] 100 (0,0))):=heap_alloc_new w1 _
 have HB2:=hid (bl_tr HB.out (b1 w1 (.cells #[.int .i64 e,.slice none 0 0] 100)))
 have HK2:=hid (HK.out.reach (b1 w1 (.cells #[.int .i64 e,.slice none 0 0] 100)))
 obtain ⟨⟨⟨z0,z1⟩,z2,z3,z4,z5,z6,z7,z8⟩,zf,_⟩:=HK2.out.cells
 dsimp only [zV,zD]at z0 z1 z2 z3 z4 z5 z6 z7 z8
 go_wp2_with fail;refine bodyPost_ret (v:=.tuple #[.agg #[.int .i64 0,.int .i64 0,.int .i64 0,.int .i64 0,.int .i64 0,.int .i64 0,.int .i64 0,.int .i64 0,.int .i64 0],.pointer (some ⟨w1.heap.size,0,none⟩)]) (by simp [results,Tryz.results92,go_sem,z0,z1,z2,z3,z4,z5,z6,z7,z8]) rfl ⟨w1.heap.size,rfl,?_,?_⟩
 ·have hne:w1.heap.size≠w.heap.size:=by have:=HS.out; omega
  exact ⟨⟨_,(set9_other _ w.heap.size zV w1.heap.size hne).trans HN.out,BI.nil _,fun b o n c e=>by cases e⟩,by have:=HS.out; omega⟩
 ·exact below9 HB2.out (b:=w.heap.size) (Nat.le_refl _) zV
set_option maxRecDepth 100000 in
set_option maxHeartbeats 1000000 in
theorem rplain_any (v:V)(w:World):Calls Tryz.prog 53 #[.agg v.cells] w fun e w'=>e=.returned (.bool (decide (v.dim=zD)))∧Below w.heap.size w w':=by
 have hE:=fun w'=>eq42 v.dim zD w'
 rw [show (zD.a:Int)=0 from rfl,show (zD.b:Int)=0 from rfl,show (zD.c:Int)=0 from rfl,show (zD.d:Int)=0 from rfl,show (zD.e:Int)=0 from rfl,show (zD.f:Int)=0 from rfl,show (zD.g:Int)=0 from rfl]at hE
 obtain ⟨t,ht⟩:∃ t,t=decide (v.dim=zD):=⟨_,rfl⟩
 rw [← ht]at hE ⊢
 clear ht;have HK:=hid (K9.new w v)
 unfold V.cells at HK ⊢;have HB:=hid (b1 w (.cells #[.int .i64 v.num,.int .i64 v.den,.int .i64 v.dim.a,.int .i64 v.dim.b,.int .i64 v.dim.c,.int .i64 v.dim.d,.int .i64 v.dim.e,.int .i64 v.dim.f,.int .i64 v.dim.g] 44))
 go_enter Tryz.func53,Tryz.ntmps53;go_upto_region 1 with (fail);generalize w.alloc (.cells #[.int .i64 v.num,.int .i64 v.den,.int .i64 v.dim.a,.int .i64 v.dim.b,.int .i64 v.dim.c,.int .i64 v.dim.d,.int .i64 v.dim.e,.int .i64 v.dim.f,.int .i64 v.dim.g] 44)=w1 at*;obtain ⟨⟨⟨z0,z1⟩,z2,z3,z4,z5,z6,z7,z8⟩,zf,_⟩:=HK.out.cells
 go_wp2_with fail;go_ret;exact ⟨rfl,HB.out⟩
set_option maxRecDepth 100000 in
set_option maxHeartbeats 4000000 in
theorem made_any (n d e:Int)(x:Dm) (f:Int)(w:World):Calls Tryz.prog 90 #[.agg #[.int .i64 n,.int .i64 d],.int .i64 e,.agg x.cells,.int .i64 f] w fun r w'=>∃ q,r=.returned (.tuple #[.agg (joinQ ⟨n,d,e⟩ x f).1.cells,.pointer q])∧FO w' w.heap.size q (joinQ ⟨n,d,e⟩ x f)∧Below w.heap.size w w':=by
 have HE:Hid (joinQ ⟨n,d,e⟩ x f=if e=0∧f=0 then (⟨n,d,x⟩,0)else (zV,17)):=rfl
 obtain ⟨r,hr⟩:∃ r,r=joinQ ⟨n,d,e⟩ x f:=⟨_,rfl⟩
 rw [← hr]at HE ⊢
 clear hr;have HMK:=hid fun w=>rmake_any n d x w
 have HB:=hid (b3 w (.cells #[.int .i64 n,.int .i64 d] 64) (.cells #[.int .i64 x.a,.int .i64 x.b,.int .i64 x.c,.int .i64 x.d,.int .i64 x.e,.int .i64 x.f,.int .i64 x.g] 42) (.cells #[.int .i64 0,.int .i64 0,.int .i64 0,.int .i64 0,.int .i64 0,.int .i64 0,.int .i64 0,.int .i64 0,.int .i64 0] 44))
 have hk1:=((H2.new w n d).reach (b1 _ (.cells #[.int .i64 x.a,.int .i64 x.b,.int .i64 x.c,.int .i64 x.d,.int .i64 x.e,.int .i64 x.f,.int .i64 x.g] 42))).reach (b1 _ (.cells #[.int .i64 0,.int .i64 0,.int .i64 0,.int .i64 0,.int .i64 0,.int .i64 0,.int .i64 0,.int .i64 0,.int .i64 0] 44))
 have hk2:=(K7.new (w.alloc (.cells #[.int .i64 n,.int .i64 d] 64)) x).reach (b1 _ (.cells #[.int .i64 0,.int .i64 0,.int .i64 0,.int .i64 0,.int .i64 0,.int .i64 0,.int .i64 0,.int .i64 0,.int .i64 0] 44))
 have hk3:K9 (((w.alloc (.cells #[.int .i64 n,.int .i64 d] 64)).alloc (.cells #[.int .i64 x.a,.int .i64 x.b,.int .i64 x.c,.int .i64 x.d,.int .i64 x.e,.int .i64 x.f,.int .i64 x.g] 42)).alloc (.cells #[.int .i64 0,.int .i64 0,.int .i64 0,.int .i64 0,.int .i64 0,.int .i64 0,.int .i64 0,.int .i64 0,.int .i64 0] 44)) (w.heap.size+1+1) zV:=by
  have:=K9.new ((w.alloc (.cells #[.int .i64 n,.int .i64 d] 64)).alloc (.cells #[.int .i64 x.a,.int .i64 x.b,.int .i64 x.c,.int .i64 x.d,.int .i64 x.e,.int .i64 x.f,.int .i64 x.g] 42)) zV
  rw [World.size_alloc,World.size_alloc]at this
  exact this
 rw [World.size_alloc]at hk2
 have HK1:=hid hk1
 have HK2:=hid hk2
 have HK3:=hid hk3
 clear hk1 hk2 hk3;unfold Dm.cells at HMK ⊢;unfold V.cells at HMK;go_enter Tryz.func90,Tryz.ntmps90;go_upto_region 1 with (fail);generalize ((w.alloc (.cells #[.int .i64 n,.int .i64 d] 64)).alloc (.cells #[.int .i64 x.a,.int .i64 x.b,.int .i64 x.c,.int .i64 x.d,.int .i64 x.e,.int .i64 x.f,.int .i64 x.g] 42)).alloc (.cells #[.int .i64 0,.int .i64 0,.int .i64 0,.int .i64 0,.int .i64 0,.int .i64 0,.int .i64 0,.int .i64 0,.int .i64 0] 44)=w1 at*
 obtain ⟨⟨k0,k1⟩,_,_⟩:=HK1.out.cells
 obtain ⟨⟨p0,p1,p2,p3,p4,p5,p6⟩,_,_⟩:=HK2.out.cells
 obtain ⟨⟨⟨z0,z1⟩,z2,z3,z4,z5,z6,z7,z8⟩,zf,_⟩:=HK3.out.cells
 by_cases hc:e=0∧f=0
 ·have HR:Hid (r=(⟨n,d,x⟩,0)):=HE.out.trans (if_pos hc)
  obtain ⟨rfl,rfl⟩:=hc
  go_wp2_with fail;refine (HMK.out w1).mono ?_
  rintro r' w2 ⟨rfl,hb2⟩
  have HB2:=hid (bl_tr HB.out hb2)
  obtain ⟨⟨⟨y0,y1⟩,y2,y3,y4,y5,y6,y7,y8⟩,yf,_⟩:=(HK3.out.reach hb2).cells
  clear hb2 z0 z1 z2 z3 z4 z5 z6 z7 z8 zf k0 k1 p0 p1 p2 p3 p4 p5 p6;go_wp2_with fail;rw [HR.out];refine bodyPost_ret (v:=.tuple #[.agg (V.cells ⟨n,d,x⟩),.pointer none]) (by simp [results,Tryz.results90,go_sem,V.cells,y0,y1,y2,y3,y4,y5,y6,y7,y8]) rfl ⟨none,rfl,FO.ok _ _ _,?_⟩
  exact below9 HB2.out (b:=w.heap.size+1+1) (by omega) ⟨n,d,x⟩
 ·have HR:Hid (r=(zV,17)):=HE.out.trans (if_neg hc)
  by_cases he:e=0
  ·have hf:¬ f=0:=fun h=>hc ⟨he,h⟩
   subst he;clear hc;go_wp2_with fail;refine (fail_any 17 w1).mono ?_
   rintro r' w2 ⟨fb,rfl,hfb,hb2⟩
   have HB2:=hid (bl_tr HB.out hb2)
   have HF2:=hid hfb
   obtain ⟨⟨⟨y0,y1⟩,y2,y3,y4,y5,y6,y7,y8⟩,yf,_⟩:=(HK3.out.reach hb2).cells
   clear hfb hb2 z0 z1 z2 z3 z4 z5 z6 z7 z8 zf;go_wp2_with fail;rw [HR.out];refine bodyPost_ret (v:=.tuple #[.agg zV.cells,.pointer (some ⟨fb,0,none⟩)]) (by simp [results,Tryz.results90,go_sem,V.cells,zV,zD,y0,y1,y2,y3,y4,y5,y6,y7,y8]) rfl ⟨_,rfl,?_,?_⟩
   ·exact ((FO.no (by decide) HF2.out).set9 (b:=w.heap.size+1+1) (by have:=HK3.out.cells.2.2; omega) zV).less (by have:=HB.out.size; omega)
   ·exact below9 HB2.out (b:=w.heap.size+1+1) (by omega) zV
  ·clear hc
   go_wp2_with fail;refine (fail_any 17 w1).mono ?_
   rintro r' w2 ⟨fb,rfl,hfb,hb2⟩
   have HB2:=hid (bl_tr HB.out hb2)
   have HF2:=hid hfb
   obtain ⟨⟨⟨y0,y1⟩,y2,y3,y4,y5,y6,y7,y8⟩,yf,_⟩:=(HK3.out.reach hb2).cells
   clear hfb hb2 z0 z1 z2 z3 z4 z5 z6 z7 z8 zf;go_wp2_with fail;rw [HR.out];refine bodyPost_ret (v:=.tuple #[.agg zV.cells,.pointer (some ⟨fb,0,none⟩)]) (by simp [results,Tryz.results90,go_sem,V.cells,zV,zD,y0,y1,y2,y3,y4,y5,y6,y7,y8]) rfl ⟨_,rfl,?_,?_⟩
   ·exact ((FO.no (by decide) HF2.out).set9 (b:=w.heap.size+1+1) (by have:=HK3.out.cells.2.2; omega) zV).less (by have:=HB.out.size; omega)
   ·exact below9 HB2.out (b:=w.heap.size+1+1) (by omega) zV
end Go.Proofs.YtknpigdpepmimaaGreatDoor
