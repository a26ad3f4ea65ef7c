/-
  Texts put together: Ref20j, Sr0, Sr1, Sr2, Sr3, Sr4, Sr5, Sr6, Sr7, Sr8, Sr9.
-/
import Derived.Test.YtohjeeapehmkcaaGreatDoorPt8
import Derived.Test.YtohjeeapehmkcaaGreatDoorQRule21
set_option linter.unusedVariables false
set_option maxRecDepth 100000
namespace Go.Proofs.YtohjeeapehmkcaaGreatDoor
open Go.RowKit
open Bool renaming and_eq_true->XJ,true_and->YI,false_and->YQ,and_false->QA
open Int renaming toNat_natCast->XA,eq_ofNat_of_zero_le->XD,le_refl->ZO
open List renaming getElem?_eq_getElem->XB,getD_eq_getElem?_getD->XC,getElem?_set_self->XF,length_set->XG,map_append->XI,getElem_mem->XK,length_cons->XM,length_append->XO,getElem?_set_ne->XQ,getElem?_map->XR,mem_of_mem_take->XT,length_take->XU,take_append_drop->XZ,take_add_one->ZC,take_of_length_le->ZE,take_length->ZL,mem_or_eq_of_mem_set->ZM,nil_append->ZR,length_filter_le->ZW,append_nil->YB,any_eq_false->YZ,ext_getElem?->QF,getElem_of_mem->QK,mem_cons->QR
open Nat renaming le_refl->XE,zero_le->XL,zero_add->XS,mul_one->ZK
open Go.Proofs.Tryz (func101 func102 func103 func155 func156 func159 func18 func24 func25 func45 func46 func89 func90 func92 func93 func94 func95 func97 func98 ntmps101 ntmps102 ntmps103 ntmps155 ntmps156 ntmps159 ntmps18 ntmps24 ntmps25 ntmps45 ntmps46 ntmps89 ntmps90 ntmps92 ntmps93 ntmps94 ntmps95 ntmps97 ntmps98 prog)
variable {A:Ar}{V:ArV}{c:Conf}{l':IL}{ahead by' size u who z:Int}{lg:List (Nat×List Nat)}{th:List (Option ThM)}{ps:List IL}{bs l p zs:List Int}{l2 ws:List Nat}{cs rest xs:List Value}{mo:Mo}{m:MvM}{N at' b base cap fuel g i j k len lm lo n n0 o off sz t tm vb xb y:Nat}{e:Nat×List Int}{fz:Nat×Nat}{f:Nat->Int}{G:Nat->Pg}{B C F F' Fr S S' T:Nat->Prop}{pd pd2:Option (Nat×PlcM)}{a:Option Addr}{pg:PgL}{P:Pl}{pl':PlM}{q:Plc}{R:Rm}{M:RmM}{x x':Sm}{s s':StM}{α:Type}{v:Value}{w w' w0 w1 w2:World}
theorem Rd.keepI{q:Nat}{c:Array Value}(hr:Rd .i64 w a l)(hq:w.heap[q]?=some (.cells c t fz))(hc:∀x∈c.toList,∀z,x≠.int .i64 z)(hs:Xc (λb=>b=q) w w'):Rd .i64 w' a l:=λj f=>by
 obtain⟨b,off,e,d⟩:=hr j f;refine⟨b,off,e,hs.cell d (λg=>?_)⟩;subst g;rw[Yt hq] at d;exact hc _ (Array.mem_toList_iff.2 (Array.mem_of_getElem? d)) _ rfl
theorem Q4.keep{r:RP}{pl:PlM}(h:Q4 w r pl){q:Nat}{c:Array Value}(hq:w.heap[q]?=some (.cells c t fz))(hc:∀x∈c.toList,∀z,x≠.int .i64 z)(hs:Xc (λb=>b=q) w w'):Q4 w' r pl:=
 ⟨⟨⟨h.o.ok.rd.keepI hq hc hs,h.o.ok.len⟩,h.o.cap,h.o.lt.grow hs.size⟩,⟨⟨h.f.ok.rd.keepI hq hc hs,h.f.ok.len⟩,h.f.cap,h.f.lt.grow hs.size⟩,h.eo,h.ef⟩
theorem Xk4(r:RR)(M:RmM)(q:Plc)(w:World)(h:Qc w r M)(hm:Iy M)(hMok:M.Ok r.c)(ht:0<=M.tot/\M.tot<=4611686018427000000)(hq:Zl w q):Xf prog 159 #[.agg (A5 r).toArray,.agg (Xv q).toArray] w
 (λv w'=>∃r',v=.tuple #[.agg (A5 r').toArray,.int .i64 (Gy M (Xy q))]/\Qc w' r' (Ym M (Xy q))/\Ad w r r'/\Xc Xe w w'):=by
 have e8:maxLen=9223372036854775807:=rfl;have e9:=h.lm;refine ζe func159 ntmps159 ϱ (ζn ϱ λrb w1 e1 cw cx ea=>ζn ϱ λpb w2 e2 cy bv eb=>ζn ϱ λob w3 e3 av aw ec=>?_);have a0:=(cx.trans bv).trans aw;have ax:=aw.heap' (bv.heap' cw);have I:=aw.heap' cy;refine ζl I ϱ ?_;by_cases g0:0<=q.cls
 ·have eD:Gy M (Xy q)=Je M q.cls q.page q.idx/\Ym M (Xy q)=Qb M q.cls q.page q.idx:=by
   unfold Gy Ym Xy;exact⟨if_pos (by simp only;omega),if_pos (by simp only;omega)⟩
  rw[eD.1,eD.2];refine ζy ϱ (ζl ax ϱ (ζl I ϱ (ζl I ϱ (ζl I ϱ (ζc ϱ (Xfy r M q.cls q.page q.idx w3 (h.grow a0) hm ht) ?_)))));rintro _ w4 ⟨r',rfl,hR,hK,k⟩;refine ζa ϱ ?_;refine ζs (k.heap' av) ϱ λw5 af an bw=>?_;have ao:B3 (λz=>z=ob) r':=hK.out h (λz a=>by omega) (λz a=>by omega);exact ζR func159 af ϱ ⟨r',rfl,hR.far ao an,hK.back a0.size,((a0.trans k).since an (λz a e=>by omega))⟩
 ·refine ζf ϱ ?_;refine Xa.loop (α:=Nat×Value) (λx=>[(2,false,.pointer (some ⟨rb,0,none⟩)),(3,false,.pointer (some ⟨pb,0,none⟩)),(4,false,.pointer (some ⟨ob,0,none⟩)),(6,false,x.2),(7,false,.bool ((r.lg.take x.1).any (B6 q))),(8,false,.int .i64 x.1)])
   (λx w'=>x.1<=r.lg.length/\Xl w3.heap.size 98 4 w' x.2 (De q (r.lg.take x.1)).length (fl Xv (De q (r.lg.take x.1)))/\Xc Xe w3 w') (λx=>r.lg.length-x.1) (0,.slice none 0 0) ⟨rfl,rfl,rfl,rfl,rfl,rfl,trivial⟩ ⟨XL _,⟨rfl,.inl ⟨rfl,rfl⟩⟩,Xc.refl _ _⟩ ?_
  rintro⟨i,v⟩ w4 ⟨hi,U,k⟩ ih;simp only at hi U
  have D:=k.heap' ax;have J:=k.heap' I;have o:=a0.trans k;refine ζa ϱ (ζl D ϱ (ζg ϱ (λaz=>?_) λaz=>?_))
  ·have c:i<r.lg.length:=by have:=of_decide_eq_true az;omega
   obtain⟨lb,loff,cz,H⟩:=(h.lr.chg o) i r.lg[i] (XB c);have d0:(De q (r.lg.take i)).length<=i:=by
    have h1:(De q (r.lg.take i)).length<=(r.lg.take i).length:=ZW _ _;rw[XU] at h1;omega
   have bx:=(h.lgo r.lg[i] (XK c)).1;by_cases K:q.cls=-1
   ·refine ζd 12 Xe (by kernel_rfl) ϱ λf=>δl f J ϱ (Xd.yes Xb f rfl (by rw[K];rfl) rfl (δl f D ϱ ?_));rw[cz];have hd:∀w',Xc Xe w4 w'->Xf prog 205 #[.agg (Xv r.lg[i]).toArray,.agg #[.int .i64 q.cls,.int .i64 q.page,.int .i64 q.idx,.slice q.pa q.pages.length q.pc]] w' (Grow (.bool (Jh r.lg[i] q)) w'):=λw' F=>Xk9 r.lg[i] q w' ((bx.rd.chg o).chg F) ((hq.rd.chg o).chg F) bx.len;refine δi (i*4) f ϱ (Xd.loadC Xb f (Xv r.lg[i]) rfl (by first|rfl|(simp;done)|(simp[*];done)|(simp;omega)) (H) (by first|exact λh=>h|(intro h;omega)|assumption) rfl (δl f J ϱ (δv f (λw' F=>hd w' F) ϱ (δn f ϱ λw5 d=>?_))));by_cases hs:Jh r.lg[i] q=true
    ·have b0:B6 q r.lg[i]=true:=by unfold B6;rw[decide_eq_true K,hs];rfl
     refine ζy ϱ (ζj ϱ ?_);exact ih (i+1,v) _ _ ⟨c,by
      rw[Xay c,if_pos b0,YB];exact U.chg d (λ_ _ h=>h),k.trans d⟩ (by simp only;omega) ⟨rfl,rfl,rfl,rfl,congrArg (λb=>some (Value.bool b)) (show true=(r.lg.take (i+1)).any (B6 q) from by rw[Vv c,b0,Bool.or_true]),rfl,trivial⟩
    ·have bz:Jh r.lg[i] q=false:=by simpa using hs
     have a9:B6 q r.lg[i]=false:=by unfold B6;rw[bz,QA]
     refine ζF ϱ bz ?_;obtain⟨mb,moff,b1,L⟩:=(h.lr.chg (o.trans d)) i r.lg[i] (XB c);refine ζl (d.heap' D) ϱ ?_;rw[b1];refine ζi (i*4) ϱ (Xa.loadC Xb (Xv r.lg[i]) rfl (by first|rfl|(simp;done)|(simp[*];done)|(simp;omega)) (L) rfl (Xa.buildSlice Xb rfl λb6 w6 e6 b2 aa d2=>ζa ϱ ?_));have G:=(U.chg d (λ_ _ h=>h)).chg aa (λ_ _ h=>h);have N:=(k.trans d).trans aa;refine Xa.appendA (base:=w3.heap.size) (xs:=fl Xv (De q (r.lg.take i))) (news:=Xv r.lg[i]) Xb rfl G N.size (λe=>by cases e) rfl (Lm b2) (Ky _) ⟨by omega,by show((De q (r.lg.take i)).length+1)*48<=_;omega⟩ λv7 w7 b3 b4 d3=>ζa ϱ (ζj ϱ ?_);exact ih (i+1,v7) _ _ ⟨c,by
      rw[Xay c,if_neg (by rw[a9];decide),XO,Kr,Lt];exact b3,G.since N (XE _) b4⟩ (by simp only;omega) ⟨rfl,rfl,rfl,rfl,congrArg (λb=>some (Value.bool b)) (show(r.lg.take i).any (B6 q)=(r.lg.take (i+1)).any (B6 q) from by rw[Vv c,a9,Bool.or_false]),rfl,trivial⟩
   ·have a9:B6 q r.lg[i]=false:=by unfold B6;rw[decide_eq_false K,YQ]
    refine ζd 12 Xe (by kernel_rfl) ϱ λf=>δl f J ϱ (Xd.no Xb f rfl (by simpa using K) rfl (δn f ϱ λw5 d=>?_));obtain⟨mb,moff,b1,L⟩:=(h.lr.chg (o.trans d)) i r.lg[i] (XB c);refine ζl (d.heap' D) ϱ ?_;rw[b1];refine ζi (i*4) ϱ (Xa.loadC Xb (Xv r.lg[i]) rfl (by first|rfl|(simp;done)|(simp[*];done)|(simp;omega)) (L) rfl (Xa.buildSlice Xb rfl λb6 w6 e6 b2 aa d2=>ζa ϱ ?_));have G:=(U.chg d (λ_ _ h=>h)).chg aa (λ_ _ h=>h);have N:=(k.trans d).trans aa;refine Xa.appendA (base:=w3.heap.size) (xs:=fl Xv (De q (r.lg.take i))) (news:=Xv r.lg[i]) Xb rfl G N.size (λe=>by cases e) rfl (Lm b2) (Ky _) ⟨by omega,by show((De q (r.lg.take i)).length+1)*48<=_;omega⟩ λv7 w7 b3 b4 d3=>ζa ϱ (ζj ϱ ?_);exact ih (i+1,v7) _ _ ⟨c,by
     rw[Xay c,if_neg (by rw[a9];decide),XO,Kr,Lt];exact b3,G.since N (XE _) b4⟩ (by simp only;omega) ⟨rfl,rfl,rfl,rfl,congrArg (λb=>some (Value.bool b)) (show(r.lg.take i).any (B6 q)=(r.lg.take (i+1)).any (B6 q) from by rw[Vv c,a9,Bool.or_false]),rfl,trivial⟩
  ·have d4:i=r.lg.length:=by have:=of_decide_eq_false az;omega
   subst d4;rw[ZL] at U⊢;have bt:(r.lg.any (B6 q)=false/\Gy M (Xy q)=1/\Ym M (Xy q)=M)\/∃n rr,(n,rr)∈M.lg/\r.lg.any (B6 q)=true/\Gy M (Xy q)=0/\Ym M (Xy q)=Hy M n rr/\q.page=(n:Nat)/\X1 rr=q.pages/\(De q r.lg).map Xy=(Cp M.lg n).map lgP:=by
    by_cases K:q.cls=-1
    ·obtain⟨i1,i2⟩:=Xi2 h.lge K;have eE:Gy M (Xy q)=(match Cz M.lg q.page with|none=>1|some r=>if X1 r=q.pages then 0 else 1):=by unfold Gy Xy;exact if_neg (λh=>h K)
     have eM:Ym M (Xy q)=(match Cz M.lg q.page with|none=>M|some r=>if X1 r=q.pages then Hy M q.page.toNat r else M):=by unfold Ym Xy;exact if_neg (λh=>h K)
     cases hg:Cz M.lg q.page with
     |none=>
      rw[hg] at eE eM;exact .inl ⟨by rw[i1];exact Xd6 (λr hr=>by rw[hg] at hr;cases hr) hMok.nd,eE,eM⟩
     |some rr=>
      rw[hg] at eE eM;simp only at eE eM
      obtain⟨n,hn,O⟩:=L1 hg;by_cases hp:X1 rr=q.pages
      ·rw[if_pos hp] at eE eM;obtain⟨j1,j2⟩:=Xi3 hMok.nd O hn hp;exact .inr ⟨n,rr,O,by rw[i1];exact j1,eE,by rw[eM,hn,XA],hn,hp,by rw[i2,j2]⟩
      ·rw[if_neg hp] at eE eM;exact .inl ⟨by rw[i1];exact Xd6 (λr hr=>by rw[hg] at hr;cases hr;exact hp) hMok.nd,eE,eM⟩
    ·have c0:Zc M q.cls=none:=Rx (.inl (by omega));refine .inl ⟨?_,?_,?_⟩
     ·rw[YZ];intro x _;unfold B6;rw[decide_eq_false K]
      simp
     ·unfold Gy Xy;refine(if_pos K).trans ?_;unfold Je;rw[c0]
     ·unfold Ym Xy;refine(if_pos K).trans ?_;unfold Qb;rw[c0]
   rcases bt with⟨hf,hE,hM⟩|⟨n,rr,O,hf,hE,hM,d5,c1,d6⟩
   ·rw[hE,hM];refine ζY ϱ (by rw[hf];rfl) (ζl D ϱ ?_);refine ζs (k.heap' av) ϱ λw5 af an bw=>?_;have hc:=o.since an (λz a e=>by omega);exact ζR func159 af ϱ ⟨r,rfl,h.grow hc,Ad.refl w r,hc⟩
   ·rw[hE,hM];have V:(n::rr).Nodup:=by
     obtain⟨A,C,eA,_⟩:=N2 hMok.nd O;have e:Y9 M.lg=Y9 A++((n::rr)++Y9 C):=by rw[eA,Jy];rfl
     have V:=hMok.nd;rw[e] at V;exact(List.nodup_append.1 (List.nodup_append.1 V).2.1).1
    have P:∀m∈n::rr,m<M.pl.own.length/\M.pl.own.getD m 0=(M.shs.length:Int):=λm u=>hMok.lg m (Id O u);have ed:rr.length<=1024:=by
     obtain⟨_,_,p3,_⟩:=Ob (l:=n::rr) hm.good V (λm u=>⟨(P m u).1,by have:=(P m u).2;omega⟩);have:=Ny hm.good;simp only[XM] at p3;omega
    have d8:q.pages.length=rr.length:=by rw[<-c1,Df]
    refine ζF ϱ (by rw[hf];rfl) (ζl J ϱ (Xa.buildSlice Xb rfl λb5 w5 e5 d9 d bw=>ζa ϱ ?_));have c2:Xl w4.heap.size 3 1 w5 (.slice (some ⟨b5,0,none⟩) 1 1) 1 [.int .i64 q.page]:=Xl.one (by omega) d9;have ba:=o.trans d;refine ζl (d.heap' J) ϱ (Xa.appendA (base:=w4.heap.size) (xs:=[.int .i64 q.page]) (news:=q.pages.map (Value.int .i64)) Xb rfl c2 d.size (hq.rd.chg ba).noneA (by simp) (hq.rd.chg ba).cellsA Ij ⟨by omega,by show(1+q.pages.length)*8<=_;omega⟩ λv6 w6 G da ee=>?_);have E:=c2.since d (XE _) da;have eall : [.int .i64 q.page]++q.pages.map (Value.int .i64)=(X1 (n::rr)).map (Value.int .i64):=by rw[<-c1,d5];rfl
    rw[eall] at G;obtain⟨g,gc,rfl,ef,eh,ei,ej,db⟩:=XaZ (l:=n::rr) G (by simp only[XM];omega) (by omega);refine ζa ϱ ?_;have bb:=o.trans E;have du:=E.size;have dv:=k.size;obtain⟨B,bc⟩:∃B:Nat->Prop,B=λz=>z=rb\/z=ob:=⟨_,rfl⟩;have a6:∀z,B z->w.heap.size<=z/\z<w3.heap.size:=λz a=>by rw[bc] at a;rcases a with e|e <;> omega
    have c3:=h.out (S:=B) (λz a=>(a6 z a).1);obtain⟨la,lcap,rfl,ck,cl,cm,ap⟩:=Xl.rowsN U Jc rfl;refine Xa.loop (α:=Nat×RP) (λx=>[(2,false,.pointer (some ⟨rb,0,none⟩)),(4,false,.pointer (some ⟨ob,0,none⟩)),(6,false,.slice la (De q r.lg).length lcap),(9,false,.slice (some ⟨g,0,none⟩) (1+q.pages.length) gc),(10,false,.int .i64 x.1)])
     (λx w'=>x.1<=rr.length+1/\Yg w' rb {r with p:=x.2}/\Q4 w' x.2 (Az M.pl ((n::rr).take x.1))/\Xj B x.2.o.a/\Xj B x.2.f.a/\(∀S:Nat->Prop,(∀z,S z->z<w.heap.size)->Xj S r.p.o.a->Xj S r.p.f.a->Xj S x.2.o.a/\Xj S x.2.f.a)/\Xc (λz=>z=rb) w6 w') (λx=>rr.length+1-x.1) (0,r.p) ⟨rfl,rfl,rfl,rfl,rfl,trivial⟩
     ⟨XL _,(E.heap' D),h.p.grow bb,c3.o,c3.f,λS _ h1 h2=>⟨h1,h2⟩,Xc.refl _ _⟩ ?_
    rintro⟨j,rp⟩ w7 ⟨hj,bd,Q,c4,c5,be,W⟩ dd;simp only at hj bd Q c4 c5 be
    have dx:=W.size;have ah:=bb.since W (λz a e=>by omega);have ab:B rb:=by rw[bc];exact .inl rfl
    have de:B ob:=by rw[bc];exact .inr rfl
    have a7:=bd;refine ζa ϱ (ζg ϱ (λai=>?_) λai=>?_)
    ·have c:j<rr.length+1:=by have:=of_decide_eq_true ai;omega
     have R:=c;have T:∀m∈(n::rr).take j,m∈n::rr:=λm u=>XT u;obtain⟨p1,p2,p3,p4⟩:=Ob (l:=(n::rr).take j) hm.good (V.sublist (List.take_sublist _ _)) (λm u=>⟨(P m (T m u)).1,by have:=(P m (T m u)).2;omega⟩);have cn:(n::rr)[j]∉(n::rr).take j:=λdf=>by
      obtain⟨i,hi,e⟩:=QK df;rw[List.getElem_take] at e;rw[XU] at hi;exact(List.pairwise_iff_getElem.1 V i j (by omega) R (by omega)) e
     obtain⟨o1,o2⟩:=P _ (XK R);have ao:(n::rr)[j]<(Az M.pl ((n::rr).take j)).own.length:=by omega
     have c6:(Az M.pl ((n::rr).take j)).own.getD (n::rr)[j] 0≠-1:=by rw[p4,if_neg cn];omega
     obtain⟨_,eg⟩:=Xfe ao c6;have estep:Az M.pl ((n::rr).take (j+1))=(Az M.pl ((n::rr).take j)).give (n::rr)[j]:=by
      rw[<-eg,ZC,XB R];unfold Az;rw[List.foldl_append];rfl
     obtain⟨b',off',e',H⟩:=(db.far (S:=λz=>z=rb) (λb' off s e a=>by cases e;omega) W) j (by rw[Df];exact R);cases e'
     have ev:(X1 (n::rr)).getD j 0=((n::rr)[j]:Int):=by
      unfold X1;rw[XC,XR,XB R];rfl
     rw[ev] at H;have hd:∀w',Xc Xe w7 w'->Xf prog 206 #[.agg #[Xn rp.o,Xn rp.f],.int .i64 ((n::rr)[j]:Nat)] w' (λv w2=>Xc Xe w' w2/\∃x:RP,v=Value.tuple #[.agg (Cu x).toArray,.int .i64 0]/\(Q4 w2 x (Az M.pl ((n::rr).take (j+1)))/\Ck w7 x.o.a/\Ck w7 x.f.a)):=λw' F=>by
      have hd:=Xbk rp (n::rr)[j] _ w' (Q.grow F) p1 ao c6;rw[<-estep] at hd;exact hd.mono λv w2 ⟨x,a1,a2,a3,a4,a5⟩=>⟨a5,x,a1,a2,a3.back F.size,a4.back F.size⟩
     refine ζd 12 Xe (by kernel_rfl) ϱ λf=>δl f a7 ϱ (δi j f ϱ (δk f H ϱ (Xd.callAlloc (λx:RP=>Value.tuple #[.agg (Cu x).toArray,.int .i64 0]) (λ(x:RP) (w2:World)=>Q4 w2 x (Az M.pl ((n::rr).take (j+1)))/\Ck w7 x.o.a/\Ck w7 x.f.a) Xb f rfl rfl rfl (λ_=>rfl) rfl (λ_=>rfl) (λ_=>rfl) rfl rfl (λ_ _=>rfl) rfl (λ_ _=>rfl) (hd) (λx w2 w3 ⟨a1,a2,a3⟩ hc=>⟨a1.grow hc,a2,a3⟩) (λ_ h=>h.elim) ?_)));rintro nb x w8 ek c7 dh ⟨di,c8,c9⟩;refine Xd.turn1 f rfl λw9 bf=>Xp.store Xb f rfl (bf.heap' c7) (by first|(intro h;exact rfl)|(intro h;omega)) rfl rfl rfl λwa cr ac dk=>?_;refine δn f ϱ λwb bg=>?_;have bh:=((dh.trans bf).since ac (λz a e=>by omega)).trans bg;refine ζl (bg.heap' cr) ϱ (ζs (bh.heap' a7) ϱ λwc cs bi el=>?_);have ca:=c8.out (λz a=>by have:=(a6 z a).2;omega);have cb:=c9.out (λz a=>by have:=(a6 z a).2;omega);have aq:=di.keep c7 (by intro y hy z e;subst e;simp[Y8] at hy) ((bf.gr.trans ac).trans bg.gr);have dl:Q4 wc x (Az M.pl ((n::rr).take (j+1))):=⟨aq.o.far (ca.mono (λz e=>by subst e;exact ab)) bi,aq.f.far (cb.mono (λz e=>by subst e;exact ab)) bi,aq.eo,aq.ef⟩;exact ζj ϱ (dd (j+1,x) _ _ ⟨c,cs,dl,ca,cb,λS hS h1 h2=>⟨c8.out (λz a=>by have:=hS z a;have:=ah.size;omega),c9.out (λz a=>by have:=hS z a;have:=ah.size;omega)⟩,(W.trans bh.gr).trans bi⟩ (by simp only;omega) ⟨rfl,rfl,rfl,rfl,rfl,trivial⟩)
    ·have ct:j=rr.length+1:=by have:=of_decide_eq_false ai;omega
     subst ct;have etk:(n::rr).take (rr.length+1)=n::rr:=ZL (l:=n::rr);rw[etk] at Q;have em:=h.st;obtain⟨t,bj⟩:∃t,t=Xx M.tot ((rr.length+1:Int)*4+rr.length):=⟨_,rfl⟩;have dm:r.steps+4*(((1+q.pages.length:Nat)):Int)+((1+q.pages.length:Nat):Int)-1=t:=by
      rw[bj,d8];unfold Xx;rw[if_neg (by omega)];omega
     refine ζs a7 ϱ λw8 a8 bk en=>?_;replace a8:w8.heap[rb]?=some (.cells (Zj r.c r.cp++[Xn rp.o,Xn rp.f,.slice r.sa r.ss.length r.scap,.slice la (De q r.lg).length lcap,.int .i64 r.steps]).toArray 38 (0,0)):=a8;refine ζl a8 ϱ (ζj ϱ ?_);refine Xa.arith Xb rfl (w64 (by omega)) rfl ?_;refine ζj ϱ (ζj ϱ ?_);rw[dm];obtain⟨r',bl⟩:∃r':RR,r'={r with p:=rp,lg:=De q r.lg,la:=la,lcap:=lcap,steps:=t}:=⟨_,rfl⟩;refine ζs a8 ϱ λw9 aj bm eo=>?_;replace aj:Yg w9 rb r':=by rw[bl];exact aj
     refine ζl aj ϱ ?_;refine ζs (bm.heap (bk.heap (W.heap (E.heap' (k.heap' av)) (by omega)) (by omega)) (by omega)) ϱ λwa cu ac dk=>?_;have bn:=((ah.since bk (λz a e=>by omega)).since bm (λz a e=>by omega)).since ac (λz a e=>by omega);have ak:=((bk.mono λ_ _ e=>e▸ab).trans (bm.mono λ_ _ e=>e▸ab)).trans (ac.mono λ_ _ e=>e▸de);have bo:=(W.mono λ_ _ e=>e▸ab).trans ak;have cv:Xj B la:=λb off s e a=>by have:=ap b off s e;have:=(a6 b a).2;omega
     have d0:(De q r.lg).length<=r.lg.length:=ZW _ _;have T:∀q'∈De q r.lg,q'∈r.lg:=λq' h=>(List.mem_filter.1 h).1;have h':=h.grow bn;have hR:Qc wa r' (Hy M n rr):=by
      rw[bl];exact⟨⟨Q.o.far c4 ak,Q.f.far c5 ak,Q.eo,Q.ef⟩,h'.sr,h'.sl,h'.sc,h'.n,h'.few,h'.each,(ck.chg E).far cv bo,(cl.grow E.size).grow bo.size,cm,by show(De q r.lg).length<=1024;omega,d6,λq' bp=>h'.lgo q' (T q' bp),bj⟩
     have hK:Ad w r r':=by
      rw[bl];exact⟨rfl,rfl,λS hS ho=>⟨(be S hS ho.o ho.f).1,(be S hS ho.o ho.f).2,ho.sa,ho.each,λb off s e a=>by have:=ap b off s e;have:=hS b a;omega,λq' bp=>ho.lgo q' (T q' bp)⟩⟩
     exact ζR func159 cu ϱ ⟨r',rfl,hR,hK,bn⟩
structure TR where
 size:Int
 q:Plc
def C6(t:TR):List Value:=.int .i64 t.size::Xv t.q
structure VR where
 is:Bool
 who:Int
 pf:Int
 fa:Int
 pt:Int
 ta:Int
 sa:Option Addr
 sl:Nat
 sc:Nat
 st:Int
 f:Int
 t:Int
 size:Int
 gone:Int
def Cf(v:VR):List Value:=[.bool v.is,.int .i64 v.who,.int .i64 v.pf,.int .i64 v.fa,.int .i64 v.pt,.int .i64 v.ta,.slice v.sa v.sl v.sc,.int .i64 v.st,.int .i64 v.f,.int .i64 v.t,.int .i64 v.size,.int .i64 v.gone]
theorem Oy(t:TR):(C6 t).length=5:=rfl
theorem O1(t:VR):(Cf t).length=12:=rfl
theorem Xm0(s:TR):∀u∈C6 s,u.oneCell'=true:=λu a=>by
 simp only[C6,Xv,QR,List.mem_nil_iff,or_false] at a;rcases a with rfl|rfl|rfl|rfl|rfl <;> rfl
theorem Xnh(s:VR):∀u∈Cf s,u.oneCell'=true:=λu a=>by
 simp only[Cf,QR,List.mem_nil_iff,or_false] at a;rcases a with rfl|rfl|rfl|rfl|rfl|rfl|rfl|rfl|rfl|rfl|rfl|rfl <;> rfl
abbrev Iv:TR:=⟨0,q0⟩
abbrev G8:VR:=⟨false,0,0,0,0,0,none,0,0,0,0,0,0,0⟩
structure SR where
 c:Conf
 cp:Yu
 keep:List Int
 ka:Option Addr
 kcap:Nat
 ra:RA
 rr:RR
 ts:List TR
 ta:Option Addr
 tcap:Nat
 ms:List VR
 ma:Option Addr
 mcap:Nat
def Zv(r:SR):List Value:=Zj r.c r.cp++[.slice r.ka r.keep.length r.kcap]++Gw r.ra++A5 r.rr++[.slice r.ta r.ts.length r.tcap,.slice r.ma r.ms.length r.mcap]
def Ow(x:Option ThM)(t:TR):Prop:=t.size=D4 x/\∀y,x=some y->Xy t.q=y.q
def Lb(x:Option MvM)(v:VR):Prop:=v.is=x.isSome/\∀m,x=some m->v.who=m.who/\v.pf=m.pf/\v.fa=m.fa/\v.pt=m.pt/\v.ta=m.ta/\v.f=m.f/\v.t=m.t/\v.size=m.size/\v.gone=m.gone
abbrev Qa(M:RmM):RmM:={M with tot:=0}
structure X4(w:World)(r:SR)(s:StM):Prop where
 conf:Ys w r.c r.cp
 kr:Rd .i64 w r.ka r.keep
 ke:r.keep=s.keep
 ra:Z0 w r.ra
 rb:r.ra.bs=s.bs
 rs:r.ra.steps=s.rm.tot
 la:Yj w r.ra.a
 lk:Yj w r.ka
 rr:Qc w r.rr (Qa s.rm)
 rc:r.rr.c=r.c
 rp:r.rr.cp=r.cp
 tr:Rows C6 5 w r.ta r.ts
 tl:Yj w r.ta
 tc:r.ts.length<=r.tcap
 tn:r.ts.length=s.th.length
 te:∀(o:Nat) x t,s.th[o]?=some x->r.ts[o]?=some t->Ow x t
 tq:∀t∈r.ts,Zl w t.q/\Yj w t.q.pa
 mr:Rows Cf 12 w r.ma r.ms
 ml:Yj w r.ma
 mc:r.ms.length<=r.mcap
 mn:r.ms.length=s.mv.length
 me:∀(k:Nat) x v,s.mv[k]?=some x->r.ms[k]?=some v->Lb x v
structure Am(S:Nat->Prop)(r:SR):Prop where
 k:Xj S r.ka
 ra:Xj S r.ra.a
 rr:B3 S r.rr
 ta:Xj S r.ta
 tq:∀t∈r.ts,Xj S t.q.pa
 ma:Xj S r.ma
theorem X4.grow{w w':World}{r:SR}{s:StM}(h:X4 w r s)(hc:Xc Xe w w'):X4 w' r s:=
 {h with conf:=h.conf.chg hc,kr:=h.kr.chg hc,ra:=h.ra.grow hc,la:=h.la.grow hc.size,lk:=h.lk.grow hc.size,rr:=h.rr.grow hc,tr:=h.tr.chg hc,tl:=h.tl.grow hc.size,tq:=λt a=>⟨(h.tq t a).1.grow hc,(h.tq t a).2.grow hc.size⟩,mr:=h.mr.chg hc,ml:=h.ml.grow hc.size}
theorem X4.far{w w':World}{r:SR}{s:StM}{S:Nat->Prop}(h:X4 w r s)(ho:Am S r)(hcf:Ys w' r.c r.cp)(hc:Xc S w w'):X4 w' r s:=
 {h with conf:=hcf,kr:=h.kr.far ho.k hc,ra:=⟨h.ra.rd.far ho.ra hc,h.ra.len,h.ra.lc,h.ra.rng⟩,la:=h.la.grow hc.size,lk:=h.lk.grow hc.size,rr:=h.rr.far ho.rr hc,tr:=h.tr.far ho.ta hc,tl:=h.tl.grow hc.size,tq:=λt a=>⟨⟨(h.tq t a).1.rd.far (ho.tq t a) hc,(h.tq t a).1.len⟩,(h.tq t a).2.grow hc.size⟩,mr:=h.mr.far ho.ma hc,ml:=h.ml.grow hc.size}
def Zs(w:World)(r r':SR):Prop:=r'.c=r.c/\r'.cp=r.cp/\∀S:Nat->Prop,(∀z,S z->z<w.heap.size)->Am S r->Am S r'
theorem Zs.refl(w:World)(r:SR):Zs w r r:=⟨rfl,rfl,λ_ _ h=>h⟩
theorem Zs.trans{w w1:World}{r r1 r2:SR}(h:Zs w r r1)(h':Zs w1 r1 r2)(hs:w.heap.size<=w1.heap.size):Zs w r r2:=⟨h'.1.trans h.1,h'.2.1.trans h.2.1,λS a b=>
 h'.2.2 S (λz c=>by have:=a z c;omega) (h.2.2 S a b)⟩
theorem Zs.back{r r1:SR}(h:Zs w1 r r1)(hs:w.heap.size<=w1.heap.size):Zs w r r1:=⟨h.1,h.2.1,λS a b=>h.2.2 S (λz c=>by have:=a z c;omega) b⟩
abbrev Zg(w:World)(b:Nat)(r:SR):Prop:=w.heap[b]?=some (.cells (Zv r).toArray 42 (0,0))
theorem X4.out{w:World}{r:SR}{s:StM}{S:Nat->Prop}(h:X4 w r s)(hs:∀z,S z->w.heap.size<=z):Am S r:=⟨h.lk.out hs,h.la.out hs,h.rr.out hs,h.tl.out hs,λt a=>(h.tq t a).2.out hs,h.ml.out hs⟩
theorem X4.box{w'':World}{r r':SR}{qb:Nat}(h:X4 w r s)(hk:Zs w2 r r')(h':X4 w' r' s')(hw:w.heap.size<=qb)(hq:qb<w2.heap.size)(hc:Xc (λz=>z=qb) w' w'')(hcc:Xc Xe w w''):X4 w'' r' s':=by
 refine h'.far (hk.2.2 (λz=>z=qb) (λz e=>e▸hq) (h.out λz e=>e▸hw)) ?_ hc;have:=h.conf.chg hcc;rw[hk.1,hk.2.1];exact this
def Cw(w:World)(r:SR)(s':StM)(r':SR)(w':World):Prop:=X4 w' r' s'/\Zs w r r'/\Xc Xe w w'
theorem Cw.self{r:SR}(h:X4 w r s)(hc:Xc Xe w w'):Cw w r s r w':=⟨h.grow hc,.refl w r,hc⟩
theorem Cw.trans{w w1 w2:World}{r r1 r2:SR}{s1 s2:StM}(h:Cw w r s1 r1 w1)(h':Cw w1 r1 s2 r2 w2):Cw w r s2 r2 w2:=⟨h'.1,h.2.1.trans h'.2.1 h.2.2.size,h.2.2.trans h'.2.2⟩
theorem X4.putMv{r:SR}(h:X4 w r s)(hc:Xc Xe w w'){v:VR}{x:Option MvM}(hr:Rows Cf 12 w' a (r.ms.set k v))(hl:Yj w' a)(hcap:(r.ms.set k v).length<=cap)(hx:Lb x v):X4 w' {r with ms:=r.ms.set k v,ma:=a,mcap:=cap} {s with mv:=s.mv.set k x}:=by
 have d:∀(j:Nat) y v',(s.mv.set k x)[j]?=some y->(r.ms.set k v)[j]?=some v'->Lb y v':=λj y v' c b=>by
  by_cases e:k=j
  ·subst e;have f:k<r.ms.length:=by have:=(List.getElem?_eq_some_iff.1 b).1;rw[XG] at this;exact this
   rw[XF f] at b;rw[XF (by rw[<-h.mn];exact f)] at c;cases c;cases b
   exact hx
  ·rw[XQ e] at c b;exact h.me j y v' c b
 have g:(r.ms.set k v).length=(s.mv.set k x).length:=by rw[XG,XG];exact h.mn
 exact {(h.grow hc) with mr:=hr,ml:=hl,mc:=hcap,mn:=g,me:=d}
theorem X4.putTh{r:SR}(h:X4 w r s)(hc:Xc Xe w w'){t:TR}{x:Option ThM}(hr:Rows C6 5 w' a (r.ts.set o t))(hl:Yj w' a)(hcap:(r.ts.set o t).length<=cap)(hx:Ow x t)(hq:Zl w' t.q/\Yj w' t.q.pa):X4 w' {r with ts:=r.ts.set o t,ta:=a,tcap:=cap} {s with th:=s.th.set o x}:=by
 have d:=h.grow hc;have f:∀(j:Nat) y v',(s.th.set o x)[j]?=some y->(r.ts.set o t)[j]?=some v'->Ow y v':=λj y v' b c=>by
  by_cases e:o=j
  ·subst e;have g:o<r.ts.length:=by have:=(List.getElem?_eq_some_iff.1 c).1;rw[XG] at this;exact this
   rw[XF g] at c;rw[XF (by rw[<-h.tn];exact g)] at b;cases b;cases c
   exact hx
  ·rw[XQ e] at b c;exact h.te j y v' b c
 have i:(r.ts.set o t).length=(s.th.set o x).length:=by rw[XG,XG];exact h.tn
 have k:∀t'∈r.ts.set o t,Zl w' t'.q/\Yj w' t'.q.pa:=λt' l=>by
  rcases ZM l with b|rfl
  ·exact d.tq t' b
  ·exact hq
 exact {d with tr:=hr,tl:=hl,tc:=hcap,tn:=i,te:=f,tq:=k}
theorem X4.putRa{r:SR}(h:X4 w r s)(hc:Xc Xe w w'){ra:RA}{t:Int}(hr:Z0 w' ra)(hb:ra.bs=bs)(ht:ra.steps=t)(hl:Yj w' ra.a):X4 w' {r with ra:=ra} {s with bs:=bs,rm:={s.rm with tot:=t}}:=by
 exact {(h.grow hc) with ra:=hr,rb:=hb,rs:=ht,la:=hl}
theorem X4.putRr{r:SR}(h:X4 w r s)(hc:Xc Xe w w'){rr:RR}(hr:Qc w' rr (Qa M))(hk:rr.c=r.rr.c/\rr.cp=r.rr.cp)(ht:M.tot=s.rm.tot):X4 w' {r with rr:=rr} {s with rm:=M}:=by
 exact {(h.grow hc) with rr:=hr,rc:=hk.1.trans h.rc,rp:=hk.2.trans h.rp,rs:=h.rs.trans ht.symm}
theorem X4.mrow{r:SR}(h:X4 w r s)(hj:j<r.ms.length):Lb (Xt s (j:Nat)) r.ms[j]/\∃b off,r.ma=some ⟨b,off,none⟩/\∀i v,(Cf r.ms[j])[i]?=some v->w.cell? ⟨b,off+j*12+i,none⟩=some v:=by
 obtain⟨b,off,e,c⟩:=h.mr j r.ms[j] (XB hj);have a:j<s.mv.length:=by rw[<-h.mn];exact hj
 refine⟨?_,b,off,e,c⟩;have:=h.me j s.mv[j] r.ms[j] (XB a) (XB hj);rw[XeO a];exact this
theorem X4.trow{r:SR}(h:X4 w r s)(hj:j<r.ts.length):Ow (Bt s (j:Nat)) r.ts[j]/\∃b off,r.ta=some ⟨b,off,none⟩/\∀i v,(C6 r.ts[j])[i]?=some v->w.cell? ⟨b,off+j*5+i,none⟩=some v:=by
 obtain⟨b,off,e,c⟩:=h.tr j r.ts[j] (XB hj);have a:j<s.th.length:=by rw[<-h.tn];exact hj
 refine⟨?_,b,off,e,c⟩;have:=h.te j s.th[j] r.ts[j] (XB a) (XB hj);have e2:Bt s (j:Nat)=s.th[j]:=by
  unfold Bt;rw[if_pos (by omega),XA,XC,XB a];rfl
 rw[e2];exact this
theorem K0{r:SR}(h:X4 w r s)(hl:s.mv.length<=16)(k:Int):Xf prog 24 #[.agg (Zv r).toArray,.int .i64 k] w (Grow (.bool (Xt s k).isSome) w):=by
 refine ζe func24 ntmps24 ϱ (ζn ϱ λb n e1 d a l=>?_);have m:=h.mn;by_cases f:0<=k
 ·obtain⟨j,rfl⟩:=XD f;refine ζy ϱ (ζl d ϱ ?_);by_cases g:j<r.ms.length
  ·refine ζy ϱ (ζl d ϱ ?_);obtain⟨i,o,off,ea,c⟩:=(h.grow a).mrow g;rw[ea,<-i.1];exact ζi (j*12) ϱ (ζk ϱ (c 0 _ rfl) ϱ (ζr func24 ϱ ⟨rfl,a⟩))
  ·have e:=XaQ (by unfold Gd;rw[decide_eq_false (show ¬(j:Int)<s.mv.length by omega),QA]);rw[e];exact ζf ϱ (ζr func24 ϱ ⟨rfl,a⟩)
 ·have e:Xt s k=none:=XaQ (by unfold Gd;rw[decide_eq_false f];rfl);rw[e];exact ζf ϱ (ζr func24 ϱ ⟨rfl,a⟩)
theorem K1{r:SR}:Xf prog 97 #[.agg (Zv r).toArray] w (Grow (.agg (Q9 r.c r.cp r.ra).toArray) w):=by
 refine ζe func97 ntmps97 ϱ (ζn ϱ λb m e1 i f j=>ζn ϱ λqb n e2 g a k=>?_);have c:=a.heap' i;exact ζl c ϱ (ζl c ϱ (ζb ϱ (ζs g ϱ λo d h l=>ζR func97 d ϱ ⟨rfl,(f.trans a).since h (λz p e=>by omega)⟩)))
theorem Og{r:SR}{rr:RR}(h:X4 w r s)(hr:Qc w rr M)(hk:Ad w0 r.rr rr)(hM:0<=M.tot/\0<=s.rm.tot/\s.rm.tot+M.tot<=4611686018427387904):Xf prog 155 #[.agg (Zv r).toArray,.agg (A5 rr).toArray] w
 (λv w'=>∃r',v=.agg (Zv r').toArray/\r'.rr={rr with steps:=0}/\X4 w' r' {s with rm:={M with tot:=Xx s.rm.tot M.tot}}/\Zs w0 r r'/\Xc Xe w w'):=by
 have q:=hr.st;have t:=h.rs;refine ζe func155 ntmps155 ϱ (ζn ϱ λb V e1 G u N=>ζn ϱ λrb W e2 x k O=>ζn ϱ λqb w3 e3 y c P=>?_);have d:=(k.trans c).heap' G;have f:=c.heap' x;refine ζl d ϱ (ζl d ϱ (ζl f ϱ (ζj ϱ (ζb ϱ (ζs d ϱ λw4 A g Q=>ζs (g.heap f (by omega)) ϱ λw5 m i R=>?_)))));refine ζl m ϱ (ζs (i.heap A (by omega)) ϱ λH j l T=>?_);obtain⟨r',er⟩:∃r':SR,r'={r with ra:={r.ra with steps:=r.ra.steps+rr.steps},rr:={rr with steps:=0}}:=⟨_,rfl⟩;replace j:Zg H b r':=by rw[er];exact j
 refine ζl j ϱ (ζs (l.heap (i.heap (g.heap y (by omega)) (by omega)) (by omega)) ϱ λn o B U=>?_);have a:=(((((u.trans k).trans c).since g (λz p e=>by omega)).since i (λz p e=>by omega)).since l (λz p e=>by omega)).since B (λz p e=>by omega);have C:Qc n {rr with steps:=0} (Qa M):={hr.grow a with st:=rfl};have D:Z0 n {r.ra with steps:=r.ra.steps+rr.steps}:=⟨(h.ra.grow a).rd,h.ra.len,h.ra.lc,h.ra.rng⟩;have I:r.ra.steps+rr.steps=Xx s.rm.tot M.tot:=by rw[t,q,Bl (by omega)]
 have J:=h.putRa a D h.rb I (h.la.grow a.size);have K:=J.putRr (Xc.refl Xe n) (M:={M with tot:=Xx s.rm.tot M.tot}) C ⟨hk.1,hk.2.1⟩ rfl;have E:Zs w0 r r':=⟨by rw[er],by rw[er],λS L F=>by
  have:=hk.2.2 S L F.rr;rw[er];exact {F with rr:=⟨this.o,this.f,this.sa,this.each,this.la,this.lgo⟩}⟩
 exact ζR func155 o ϱ ⟨r',rfl,by rw[er],by rw[er];exact K,E,a⟩
theorem Rs{r:SR}(h:X4 w r s)(hl:s.mv.length<=16)(k:Nat)(hk:k<s.mv.length)(v:VR)(x:Option MvM)(hx:Lb x v):Xf prog 156 #[.agg (Zv r).toArray,.int .i64 (k:Nat),.agg (Cf v).toArray] w
 (λu w'=>∃r',u=.agg (Zv r').toArray/\r'.rr=r.rr/\Cw w r {s with mv:=s.mv.set k x} r' w'):=by
 have af:=h.mn;have ag:maxLen=9223372036854775807:=rfl;refine ζe func156 ntmps156 ϱ (ζn ϱ λrb w1 e1 E F ah=>ζn ϱ λvb w2 e2 i j ai=>ζn ϱ λob I e3 U f aj=>?_);replace i:w2.heap[vb]?=some (.cells (Cf v).toArray 109 (0,0)):=i;refine Xa.buildSlice Xb rfl λb4 w4 e4 V l ak=>ζa ϱ ?_;have m:=(j.trans f).trans l;have J:=F.trans m;have K:=m.heap' E;refine ζl K ϱ ?_;have B:Xl I.heap.size 109 12 w4 (.slice (some ⟨b4,0,none⟩) 0 0) 0 (fl Cf []):=Xl.empty (by omega) V;refine Xa.appendA (base:=I.heap.size) (xs:=fl Cf []) (news:=fl Cf r.ms) Xb rfl B l.size h.mr.noneA (I4 O1 r.ms) ((h.mr.chg J).news O1 (by decide)) (Nt Xnh r.ms) ⟨by omega,by show(0+r.ms.length)*112<=_;omega⟩ ?_;intro v5 W n a0 al;replace n:Xl I.heap.size 109 12 W v5 r.ms.length (fl Cf r.ms):=by
  have h:=n;rw[Ns,ZR,XS] at h;exact h
 have c:=B.since l (XE _) a0;obtain⟨g,o,cur,rfl,am,a1,an,ao,a2⟩:=n.form (by omega);have p:cur.toList=fl Cf r.ms++cur.toList.drop (r.ms.length*12):=by
  have e:=XZ (r.ms.length*12) cur.toList;rw[a2] at e;exact e.symm
 obtain⟨rest,C⟩:∃rest,rest=cur.toList.drop (r.ms.length*12):=⟨_,rfl⟩;rw[<-C] at p;have L:W.heap[g]?=some (.cells (fl Cf r.ms++rest).toArray 109 (0,0)):=by rw[<-p];exact a1
 have M:=c.heap' (f.heap' (j.heap' E));have N:=c.heap' (f.heap' i);have O:=c.heap' U;refine ζa ϱ (ζl N ϱ (ζi (k*12) ϱ (ζS ϱ L (Pm (cells:=Cf) (y:=v) O1 (by omega)) ϱ λw6 a3 q ap=>?_)));have P:=q.heap M (by omega);have Q:=q.heap O (by omega);refine ζs P ϱ λw7 d t aq=>?_;obtain⟨r',er⟩:∃r':SR,r'={r with ms:=r.ms.set k v,ma:=some ⟨g,0,none⟩,mcap:=o}:=⟨_,rfl⟩;replace d:Zg w7 rb r':=by
  rw[er];have a4:(r.ms.set k v).length=r.ms.length:=XG;unfold Zg Zv;simp only[a4];exact d
 have R:=t.heap Q (by omega);have a5:=t.heap a3 (by omega);refine ζl d ϱ (ζs R ϱ λw8 T G ar=>?_);have H:=G.heap a5 (by omega);have A:Xc Xe w w8:=(((((F.trans j).trans f).trans c).since q (λz D e=>by omega)).since t (λz D e=>by omega)).since G (λz D e=>by omega);have hO:=h.putMv A (k:=k) (v:=v) (x:=x) (a:=some ⟨g,0,none⟩) (cap:=o) (K2 H O1) (by intro b off s e;cases e;exact Xg H) (by rw[XG];omega) hx;have a6:Zs w r r':=⟨by rw[er],by rw[er],λS hS B=>by
  rw[er];exact {B with ma:=λb off s e D=>by cases e;have:=hS _ D;omega}⟩
 exact ζR func156 T ϱ ⟨r',rfl,by rw[er],by rw[er];exact hO,a6,A⟩
variable {r r1:SR}
theorem Oh{w:World}{r:SR}{s:StM}(h:X4 w r s)(hl:s.th.length<=4096)(k:Nat)(hk:k<s.th.length)(v:TR)(x:Option ThM)(hx:Ow x v)(hq:Zl w v.q/\Yj w v.q.pa):Xf prog 94 #[.agg (Zv r).toArray,.int .i64 (k:Nat),.agg (C6 v).toArray] w
 (λu w'=>∃r',u=.agg (Zv r').toArray/\X4 w' r' {s with th:=s.th.set k x}/\(r'.c=r.c/\r'.cp=r.cp/\∀S:Nat->Prop,(∀z,S z->z<w.heap.size)->Am S r->Xj S v.q.pa->Am S r')/\Xc Xe w w'):=by
 have aj:=h.tn;have ak:maxLen=9223372036854775807:=rfl;refine ζe func94 ntmps94 ϱ (ζn ϱ λrb w1 e1 G H al=>ζn ϱ λvb w2 e2 j l am=>ζn ϱ λob K e3 W i an=>?_);replace j:w2.heap[vb]?=some (.cells (C6 v).toArray 100 (0,0)):=j;refine Xa.buildSlice Xb rfl λb4 w4 e4 a0 m ao=>ζa ϱ ?_;have n:=(l.trans i).trans m;have L:=H.trans n;have M:=n.heap' G;refine ζl M ϱ ?_;have p:Xl K.heap.size 100 5 w4 (.slice (some ⟨b4,0,none⟩) 0 0) 0 (fl C6 []):=Xl.empty (by omega) a0;refine Xa.appendA (base:=K.heap.size) (xs:=fl C6 []) (news:=fl C6 r.ts) Xb rfl p m.size h.tr.noneA (I4 Oy r.ts) ((h.tr.chg L).news Oy (by decide)) (Nt Xm0 r.ts) ⟨by omega,by show(0+r.ts.length)*56<=_;omega⟩ ?_;intro v5 w5 q a2 ap;replace q:Xl K.heap.size 100 5 w5 v5 r.ts.length (fl C6 r.ts):=by
  have h:=q;rw[Ns,ZR,XS] at h;exact h
 have c:=p.since m (XE _) a2;obtain⟨g,A,cur,rfl,aq,a3,ar,au,a4⟩:=q.form (by omega);have B:cur.toList=fl C6 r.ts++cur.toList.drop (r.ts.length*5):=by
  have e:=XZ (r.ts.length*5) cur.toList;rw[a4] at e;exact e.symm
 obtain⟨rest,E⟩:∃rest,rest=cur.toList.drop (r.ts.length*5):=⟨_,rfl⟩;rw[<-E] at B;have N:w5.heap[g]?=some (.cells (fl C6 r.ts++rest).toArray 100 (0,0)):=by rw[<-B];exact a3
 have O:=c.heap' (i.heap' (l.heap' G));have P:=c.heap' (i.heap' j);have Q:=c.heap' W;refine ζa ϱ (ζl P ϱ (ζi (k*5) ϱ (ζS ϱ N (Pm (cells:=C6) (y:=v) Oy (by omega)) ϱ λw6 a5 C av=>?_)));have R:=C.heap O (by omega);have T:=C.heap Q (by omega);refine ζs R ϱ λw7 f D aw=>?_;obtain⟨r',er⟩:∃r':SR,r'={r with ts:=r.ts.set k v,ta:=some ⟨g,0,none⟩,tcap:=A}:=⟨_,rfl⟩;replace f:Zg w7 rb r':=by
  rw[er];have a6:(r.ts.set k v).length=r.ts.length:=XG;unfold Zg Zv;simp only[a6];exact f
 have U:=D.heap T (by omega);have a7:=D.heap a5 (by omega);refine ζl f ϱ (ζs U ϱ λw8 V I ax=>?_);have J:=I.heap a7 (by omega);have d:Xc Xe w w8:=(((((H.trans l).trans i).trans c).since C (λz F e=>by omega)).since D (λz F e=>by omega)).since I (λz F e=>by omega);have hO:=h.putTh d (o:=k) (t:=v) (x:=x) (a:=some ⟨g,0,none⟩) (cap:=A) (K2 J Oy) (by intro b off s e;cases e;exact Xg J) (by rw[XG];omega) hx ⟨hq.1.grow d,hq.2.grow d.size⟩;have a8:r'.c=r.c/\r'.cp=r.cp/\∀S:Nat->Prop,(∀z,S z->z<w.heap.size)->Am S r->Xj S v.q.pa->Am S r':=⟨by rw[er],by rw[er],λS hS p hv=>by
  rw[er];exact {p with ta:=λb off s e F=>by cases e;have:=hS _ F;omega,tq:=λt ht=>(ZM ht).elim (p.tq t) (λe=>e▸hv)}⟩
 exact ζR func94 V ϱ ⟨r',rfl,by rw[er];exact hO,a8,d⟩
section
variable {w:World}{r:SR}{s:StM}{pd:Option (Nat×PlcM)}
theorem Jj(hs:s.OkP c pd):s.th.length<=4096:=by
 have h:=hs.may;have a:=hs.tl;unfold X6 at h;simp only[XJ,decide_eq_true_eq,Qv] at h;omega
theorem XbW(hs:s.OkP c pd){t:ThM}(h:Bt s (o:Nat)=some t):1<=t.size/\t.size<=2097152:=by
 obtain⟨j,e,_,a⟩:=Xca h;have:=hs.size j t a;have:=(Yp hs.may).most;omega
end
theorem Ue{w:World}{r:SR}{s:StM}{pd:Option (Nat×PlcM)}(h:X4 w r s)(hs:s.OkP c pd)(o:Int):Xf prog 89 #[.agg (Zv r).toArray,.int .i64 o] w (Grow (.int .i64 (Yl s o)) w):=by
 have m:=h.tn;refine ζe func89 ntmps89 ϱ (ζn ϱ λb p e1 g a n=>?_);by_cases i:o<0
 ·have e:Yl s o=1:=by unfold Yl;rw[if_pos (.inl i)]
  rw[e];exact ζy ϱ (ζr func89 ϱ ⟨rfl,a⟩)
 ·obtain⟨j,rfl⟩:=XD (show 0<=o by omega);refine ζf ϱ (ζl g ϱ ?_);by_cases k:j<r.ts.length
  ·refine ζf ϱ (ζl g ϱ ?_);obtain⟨l,q,off,ea,d⟩:=(h.grow a).trow k;rw[ea];refine ζi (j*5) ϱ (ζk ϱ (d 0 _ rfl) ϱ ?_);rw[l.1];cases f:Bt s (j:Nat) with
   |none=>
    have e:Yl s (j:Nat)=9:=by unfold Yl;rw[if_neg (by omega),f]
    rw[e];exact ζy ϱ (ζr func89 ϱ ⟨rfl,a⟩)
   |some t=>
    have e:Yl s (j:Nat)=0:=by unfold Yl;rw[if_neg (by omega),f]
    have:=XbW hs f;rw[e];exact ζF ϱ (by show(t.size == 0)=false;simp;omega) (ζr func89 ϱ ⟨rfl,a⟩)
  ·have e:Yl s (j:Nat)=1:=by unfold Yl;rw[if_pos (by omega)]
   rw[e];exact ζy ϱ (ζr func89 ϱ ⟨rfl,a⟩)
theorem XfI{w:World}{r:SR}{s:StM}{pd:Option (Nat×PlcM)}(h:X4 w r s)(hs:s.OkP c pd)(o i n:Int)(hi : -9223372036854775808<=i/\i<=9223372036854775807)(hn : -9223372036854775808<=n/\n<=9223372036854775807):Xf prog 101 #[.agg (Zv r).toArray,.int .i64 o,.int .i64 i,.int .i64 n] w (Grow (.int .i64 (Qp s o i n)) w):=by
 have C:=h.tn;refine ζe func101 ntmps101 ϱ (ζn ϱ λb H e1 q k D=>?_);refine ζl q ϱ (ζv (Ue (h.grow k) hs o) ϱ λI l=>?_);have a:=k.trans l;by_cases d:Yl s o=0
 ·obtain⟨j,t,rfl,p⟩:=Hs d;have u:=G6 p;have A:j<r.ts.length:=by have:=(List.getElem?_eq_some_iff.1 p).1;omega
  have J:=XbW hs u;have m:=C4 p;rw[d];refine ζf ϱ (ζl (l.heap' q) ϱ ?_);obtain⟨B,K,off,ea,f⟩:=(h.grow a).trow A;have v:r.ts[j].size=t.size:=by rw[B.1,u];rfl
  rw[ea];refine ζi (j*5) ϱ (ζk ϱ (f 0 _ rfl) ϱ ?_);rw[v];by_cases g:i<0\/n<0\/t.size<n\/t.size-n<i
  ·have e:Qp s (j:Nat) i n=8:=by unfold Qp;rw[if_neg (λh=>h d),m,if_pos g]
   rw[e];refine ζg ϱ (λx=>?_) λx=>?_
   ·exact ζr func101 ϱ ⟨rfl,a⟩
   ·have E:=of_decide_eq_false x;refine ζg ϱ (λy=>?_) λy=>?_
    ·exact ζr func101 ϱ ⟨rfl,a⟩
    ·have F:=of_decide_eq_false y;refine ζg ϱ (λz=>?_) λz=>?_
     ·exact ζr func101 ϱ ⟨rfl,a⟩
     ·have G:=of_decide_eq_false z;exact ζj ϱ (ζy ϱ (ζr func101 ϱ ⟨rfl,a⟩))
  ·have e:Qp s (j:Nat) i n=0:=by unfold Qp;rw[if_neg (λh=>h d),m,if_neg g]
   rw[e];exact ζf ϱ (ζf ϱ (ζf ϱ (ζj ϱ (ζf ϱ (ζr func101 ϱ ⟨rfl,a⟩)))))
 ·have e:Qp s o i n=Yl s o:=by unfold Qp;rw[if_pos d]
  rw[e];exact ζY ϱ (by simpa using d) (ζr func101 ϱ ⟨rfl,a⟩)
def Jn(t:Int)(M1 M0:RmM):Prop:={M0 with tot:=Xx t M0.tot}=M1/\0<=M0.tot/\M0.tot<=10000
theorem W7{n:Int}(h:0<=n/\n<=4611686018427387904):Xx 0 n=n:=by unfold Xx;split <;> omega
theorem I3(M:RmM):Jn M.tot M (Qa M):=⟨by show({M with tot:=Xx M.tot 0}:RmM)=M;rw[Ni],ZO _,show(0:Int)<=10000 by decide⟩
theorem Xdt(h1:Zn M.pl<=1024){q:PlM}(h2:Zn q<=1024):Jn M.tot (Fz M k x q) (Fz (Qa M) k x q):=by
 have a:0<=H8 M.pl q/\H8 M.pl q<=10000:=by unfold H8;omega
 have e:(Fz (Qa M) k x q).tot=H8 M.pl q:=W7 (n:=H8 M.pl q) (by omega);refine⟨?_,by rw[e];exact a.1,by rw[e];exact a.2⟩;rw[e];rfl
theorem Pp(h:Yx c M):Zn M.pl<=1024:=by
 have a:=h.mok.good.many;have b:=h.mok.good.len;unfold Zn;omega
theorem Xag(h:Yx c M)(k who:Int):Jn M.tot (Z9 M k who) (Z9 (Qa M) k who):=by
 have a:=Pp (h.take k who);unfold Z9 at a⊢;have e:Zc (Qa M) k=Zc M k:=rfl;rw[e];cases b:Zc M k with
 |none=>exact I3 M
 |some x=>
  rw[b] at a;simp only at a⊢
  split
  ·rename_i d
   rw[if_pos d] at a;exact Xdt (Pp h) a
  ·exact I3 M
theorem Xaf(h:Yx c M)(k n i:Int):Jn M.tot (Qb M k n i) (Qb (Qa M) k n i):=by
 have a:=Pp (h.give k n i);unfold Qb at a⊢;have e:Zc (Qa M) k=Zc M k:=rfl;rw[e];cases b:Zc M k with
 |none=>exact I3 M
 |some x=>
  rw[b] at a;simp only at a⊢
  split
  ·rename_i d
   rw[if_pos d] at a;exact Xdt (Pp h) a
  ·exact I3 M
theorem Rw(h:Yx c M):Yx c (Qa M):=⟨{h.ok with tot:=by show(0:Int)<=0/\(0:Int)<=4611686018427387904;decide},⟨h.mok.sh,h.mok.good⟩,h.pos⟩
theorem XkX(opn keep:Int)(w:World)(hk : -4611686018427387904<=keep/\keep<=4611686018427387904):Xf prog 25 #[.int .i64 opn,.int .i64 keep] w (Za (.bool (E6 opn keep)) w):=by
 refine ζe func25 ntmps25 ϱ (ζg ϱ (λa=>?_) λa=>?_)
 ·have e:E6 opn keep=decide (keep+1<opn):=by unfold E6;rw[a,YI]
  rw[e];exact ζj ϱ (ζr func25 ϱ ⟨rfl,rfl⟩)
 ·have e:E6 opn keep=false:=by unfold E6;rw[a,YQ]
  rw[e];exact ζr func25 ϱ ⟨rfl,rfl⟩
theorem XfE(h:X4 w r s)(hs:s.Ok r.c)(k:Nat)(hk:k<s.mv.length)(ht:0<=s.rm.tot/\s.rm.tot<=1000000000000):Xf prog 102 #[.agg (Zv r).toArray,.int .i64 (k:Nat)] w
 (λv w'=>∃r',v=.agg (Zv r').toArray/\Cw w r (Yc r.c s k) r' w'):=by
 have hl:=h.mn;have a2:s.mv.length<=16:=by have:=hs.ml;have:=(Yp hs.may).n;omega
 have S:k<s.keep.length:=by have:=hs.ml;have:=hs.kl;omega
 have bm:k<r.c.classes.length:=by have:=hs.ml;omega
 have c8:k<r.keep.length:=by rw[h.ke];exact S
 have cn:0<=s.keep.getD k 0/\s.keep.getD k 0<=1024:=by
  rw[XC,XB S];exact hs.kr _ (XK S)
 have a3:=Rw hs.rm;have aj:∀who,Jn s.rm.tot (Z9 s.rm k who) (Z9 (Qa s.rm) k who):=λwho=>Xag hs.rm k who;refine ζe func102 ntmps102 ϱ (ζn ϱ λb w1 e1 hb bn co=>ζn ϱ λqb w2 e2 a4 ar cp=>?_);have B:=ar.heap' hb;have C:=bn.trans ar;have h2:=h.grow C;obtain⟨kb,koff,eka,F⟩:=h2.kr k (by rw[h.ke];exact S);have bo:r.keep.getD k 0=s.keep.getD k 0:=by rw[h.ke]
 rw[bo] at F;cases hm:(Xt s (k:Nat)).isSome with
 |true=>
  have g:Aw s k=false:=by
   unfold Aw;cases hx:Xt s (k:Nat) with
   |none=>rw[hx] at hm;cases hm
   |some x=>rfl
  have eS:Yc r.c s k=s:=by unfold Yc;rw[g];rfl
  rw[eS];refine ζd 13 Xe (by kernel_rfl) ϱ λc=>δl c B ϱ (δv c (λw' q=>K0 (h2.grow q) a2 (k:Nat)) ϱ (Xd.yes Xb c rfl hm rfl (δn c ϱ λw3 i=>?_)));exact ζl (i.heap' B) ϱ (ζs (i.heap' a4) ϱ λwr G H au=>ζR func102 G ϱ ⟨r,rfl,.self h ((C.trans i).since H (λz I e=>by omega))⟩)
 |false=>
  have bp:(Xt s (k:Nat)).isNone=true:=by
   cases hx:Xt s (k:Nat) with
   |none=>rfl
   |some x=>rw[hx] at hm;cases hm
  refine ζd 13 Xe (by kernel_rfl) ϱ λc=>δl c B ϱ (δv c (λw' q=>K0 (h2.grow q) a2 (k:Nat)) ϱ (Xd.no Xb c rfl hm rfl (δl c B ϱ (δv c (λw' q=>Ub r.rr (Qa s.rm) (k:Nat) w' (h2.rr.grow q)) ϱ (δl c B ϱ ?_)))));rw[eka];refine δi k c ϱ (δk c F ϱ (δn c ϱ λw3 i=>?_));have a5:=i.heap' B;have a6:=i.heap' a4;have N:=C.trans i;have eo:Zf (Qa s.rm) (k:Nat)=Zf s.rm (k:Nat):=rfl;rw[eo];refine ζw (XkX (Zf s.rm (k:Nat):Nat) (s.keep.getD k 0) w3 (by omega)) ϱ ?_;cases hd:E6 (Zf s.rm (k:Nat):Nat) (s.keep.getD k 0) with
  |false=>
   have g:Aw s k=false:=by unfold Aw;rw[hd,QA,YQ]
   have eS:Yc r.c s k=s:=by unfold Yc;rw[g];rfl
   rw[eS];refine ζy ϱ ?_;exact ζl a5 ϱ (ζs a6 ϱ λwr G H au=>ζR func102 G ϱ ⟨r,rfl,.self h (N.since H (λz I e=>by omega))⟩)
  |true=>
   refine ζf ϱ (ζl a5 ϱ ?_);have av:=Xk8 r.rr (Qa s.rm) (k:Nat) w3 (h.grow N).rr a3.mok;obtain⟨⟨pf,fa,pt,ta⟩,ePl⟩:∃p,p=Ye s.rm (k:Nat):=⟨_,rfl⟩;have b9:Mf (Qa s.rm) (k:Nat)=J1 pf fa pt ta:=by rw[XfT,show Ye (Qa s.rm) (k:Nat)=Ye s.rm (k:Nat) from rfl,<-ePl]
   have ePb:Gz (Qa s.rm) (k:Nat)=Gz s.rm (k:Nat):=rfl;rw[b9,ePb] at av;refine ζv av ϱ λw4 aw=>ζn ϱ λxb w5 e5 ba br cq=>ζs ba ϱ λw6 O bs cr=>?_;have z3:=i.size;have z4:=aw.size;have u:=(aw.trans br).since bs (λz I e=>by omega);have J:=u.heap' a5;have a7:=u.heap' a6;have y:=N.trans u;cases hp:Gz s.rm (k:Nat) with
   |false=>
    have g:Aw s k=false:=by unfold Aw;rw[hp,QA]
    have eS:Yc r.c s k=s:=by unfold Yc;rw[g];rfl
    rw[eS];refine ζy ϱ ?_;exact ζl J ϱ (ζs a7 ϱ λwr G H au=>ζR func102 G ϱ ⟨r,rfl,.self h (y.since H (λz I e=>by omega))⟩)
   |true=>
    have g:Aw s k=true:=by unfold Aw;rw[bp,hd,hp];rfl
    refine ζf ϱ ?_;obtain⟨P,_,c7,⟨o,t,K,cs,ax⟩,hf,ay⟩:=Sp hs g;have P2:=P.n (o:Int) (by omega);have P3:=P.a (o:Int) (by omega);rw[<-ePl] at P2 P3 K ax hf ay;simp only at P2 P3 K ax hf ay
    have T:=StM.OkP.begin hs k;have eB:Yc r.c s k={s with rm:=Z9 s.rm (k:Nat) (o:Nat),mv:=s.mv.set k (some (I9 r.c s.rm k))}:=by unfold Yc;rw[if_pos g,<-ePl];simp only;rw[K]
    rw[eB] at T⊢;obtain⟨m,em⟩:∃m,m=I9 r.c s.rm k:=⟨_,rfl⟩;rw[<-em] at T⊢;obtain⟨_,_,_,mf,mt,ms,_⟩:=T.mv k m (by show(s.mv.set k _)[k]?=_;rw[XF hk]);have bx:m.who=o/\m.pf=pf/\m.fa=fa/\m.pt=pt/\m.ta=ta/\m.gone=0:=by rw[em];unfold I9;rw[<-ePl];exact⟨K,rfl,rfl,rfl,rfl,rfl⟩
    obtain⟨bz,az,b0,b1,b2,c0⟩:=bx;rw[az,b0] at mf;rw[b1,b2] at mt;have h6:=h.grow y;refine ζl J ϱ (ζl O ϱ (ζl O ϱ ?_));have b3:=Xk7 r.rr (Qa s.rm) (k:Nat) pf fa w6 h6.rr a3.mok;rw[show Zh (Qa s.rm) (k:Nat) pf fa=(o:Int) from K] at b3;refine ζv b3 ϱ λw7 L=>?_;refine ζl (L.heap' J) ϱ (ζc ϱ (XfA r.rr (Qa s.rm) (k:Nat) (o:Nat) w7 (h6.grow L).rr a3.mok ⟨ZO _,show(0:Int)<=4611686018427000000 by decide⟩) ?_);rintro _ w8 ⟨ct,rfl,bb,c2,c3⟩;refine ζa ϱ (ζn ϱ λab w9 e9 bc c4 cu=>ζs bc ϱ λcv al bd ce=>?_);have be:=L.trans c3;have a8:=c4.since bd (λz I e=>by omega);have D:=be.trans a8;have hT:=aj (o:Nat);refine ζl (D.heap' J) ϱ (ζl al ϱ (ζc ϱ (Og (h.grow (y.trans D)) (bb.grow a8) c2 ⟨hT.2.1,ht.1,by have:=hT.2.2;omega⟩) ?_));rintro _ cw ⟨A,rfl,cf,a9,bg,aa⟩;refine ζa ϱ (ζn ϱ λtb cx cy am ac cg=>ζs am ϱ λc5 an ad ch=>?_);rw[hT.1] at a9;have cz:=aa.size;have f:=D.trans ((aa.trans ac).since ad (λz I e=>by omega));have U:=y.trans f;have Q:=f.heap' J;have l:=f.heap' O;have ae:=h.grow U;refine ζl Q ϱ (ζl l ϱ (ζl l ϱ (ζb ϱ ?_)));have M:=Xbr r.c r.cp ⟨(k:Nat),pf,fa,none,0,[]⟩ c5 ae.conf (Il _ _ _) hs.may;rw[show Ag r.c ⟨(k:Nat),pf,fa,none,0,[]⟩=(m.f:Int) from mf.symm] at M;refine ζv M ϱ λc6 E=>?_;have V:=E.heap' l;refine ζl (E.heap' Q) ϱ (ζl V ϱ (ζl V ϱ (ζb ϱ ?_)));have M:=Xbr r.c r.cp ⟨(k:Nat),pt,ta,none,0,[]⟩ c6 (ae.grow E).conf (Il _ _ _) hs.may;rw[show Ag r.c ⟨(k:Nat),pt,ta,none,0,[]⟩=(m.t:Int) from mt.symm] at M;refine ζv M ϱ λd0 bh=>?_;have a:=E.trans bh;have W:=a.heap' an;have R:=(a9.grow (ac.since ad (λz I e=>by omega))).grow a;obtain⟨cb,coff,eca,b4⟩:=((ae.grow a).conf).classes k bm;have esz:r.c.classes.getD k 0=(m.size:Int):=by rw[ms];unfold Yb;rw[XA]
    rw[esz] at b4;have d1:A.ra.bs.length=s.bs.length:=by rw[R.rb]
    have bi:N5 A.ra.bs.length m.f m.t m.size=true:=Tt.2 (by obtain⟨l1,l2,l3,l4⟩:=(Jz T (k:=k) (m:=m) (by show(s.mv.set k _)[k]?=_;rw[XF hk]));simp only at l1 l2;omega);refine ζd 16 Xe (by kernel_rfl) ϱ λc=>δl c W ϱ (δl c (a.heap' Q) ϱ ?_);rw[eca];refine Xd.index Xb c rfl (j:=k) (by omega) (by omega) (by first|rfl|omega|(simp;done)|(simp;omega)) rfl ?_;refine Xd.load Xb c rfl b4 (by first|exact λh=>h|(intro h;omega)|assumption) rfl ?_;refine Xd.call Xb c rfl (λw' q=>XkY A.ra m.f m.t m.size w' ((R.ra).grow q) bi) rfl ?_;refine Xd.turn1 c rfl λd2 af=>Xp.alloc Xb c rfl (λ_=>rfl) λyb d3 d4 ao bj ck=>?_;have d5:=af.size;refine Xd.turn1 c rfl λd6 ag=>Xp.store Xb c rfl (ag.heap' ao) (by first|(intro h;exact rfl)|(intro h;omega)) rfl rfl rfl λd7 ap bk cl=>δn c ϱ λd8 ah=>?_;have d:=(((af.trans bj).trans ag).since bk (λz I e=>by omega)).trans ah;have bl:Lb (some m) ⟨true,(o:Nat),pf,fa,pt,ta,A.ra.a,A.ra.bs.length,A.ra.cap,A.ra.steps,m.f,m.t,m.size,0⟩:=⟨rfl,λm' e=>by cases e;exact⟨bz.symm,az.symm,b0.symm,b1.symm,b2.symm,rfl,rfl,rfl,by rw[c0];rfl⟩⟩;refine ζl (d.heap' W) ϱ (ζl (d.heap' (a.heap' l)) ϱ (ζl (ah.heap' ap) ϱ (ζb ϱ (ζc ϱ ((Rs (R.grow d) a2 k hk _ (some m) bl)) ?_))));rintro _ d9 ⟨b5,rfl,_,n⟩;have da:=(y.trans L).size;refine ζa ϱ (ζs (n.2.2.heap' (d.heap' (a.heap' (f.heap' a7)))) ϱ λdb aq ai cm=>?_);have a0:=(((U.trans a).trans d).trans n.2.2).since ai (λz I e=>by omega);have b6:Zs w2 r b5:=(bg.back (by have:=(u.trans L).size;omega)).trans n.2.1 (by have:=((u.trans f).trans (a.trans d)).size;omega);exact ζR func102 aq ϱ ⟨b5,rfl,(h.box b6 n.1 (by omega) (by have:=Xg a4;omega) ai a0),b6.back C.size,a0⟩
theorem Xbv(h:X4 w r s)(hs:s.Ok r.c)(hm:s.mv[k]?=some (some m))(n:Int)(ht:0<=s.rm.tot/\s.rm.tot<=1000000000000):Xf prog 103 #[.agg (Zv r).toArray,.int .i64 (k:Nat),.int .i64 n] w
 (λv w'=>∃r',v=.tuple #[.agg (Zv r').toArray,.int .i64 (Z1 m n:Nat)]/\Cw w r (Yo s k n) r' w'):=by
 have hl:=h.mn;have bs:s.mv.length<=16:=by have:=hs.ml;have:=(Yp hs.may).n;omega
 have hk:=(List.getElem?_eq_some_iff.1 hm).1;have bt:k<r.ms.length:=by omega
 obtain⟨⟨o,t,ew,et,eq⟩,ea,en,_,_,_,f3⟩:=hs.mv k m hm;have f4:Z1 m n<=m.size-m.gone:=Td m n;obtain⟨l1,l2,l3,_⟩:=Jz hs hm;obtain⟨sa,sl,sc,sst,ev⟩:∃sa sl sc sst,r.ms[k]=⟨true,m.who,m.pf,m.fa,m.pt,m.ta,sa,sl,sc,sst,m.f,m.t,m.size,m.gone⟩:=by
  obtain⟨⟨a1,a2⟩,_⟩:=h.mrow bt;obtain⟨b1,b2,b3,b4,b5,b6,b7,b8,b9⟩:=a2 m (Cr hm);rw[Cr hm] at a1;generalize r.ms[k]=v at *
  obtain⟨i1,i2,i3,i4,i5,i6,i7,i8,i9,dc,f5,f7,f8,f9⟩:=v;simp only at a1 b1 b2 b3 b4 b5 b6 b7 b8 b9
  subst b1;subst b2;subst b3;subst b4;subst b5;subst b6;subst b7;subst b8;subst b9;exact⟨i7,i8,i9,dc,by rw[a1];rfl⟩
 refine ζe func103 ntmps103 ϱ (ζn ϱ λb w1 e1 hb dd fa=>ζn ϱ λqb w2 e2 bu bv fb=>?_);replace hb:Zg w1 b r:=hb;have ai:=bv.heap' hb;have W:=dd.trans bv;have z2:=W.size;obtain⟨_,a0,off,ema,a7⟩:=(h.grow W).mrow bt;rw[ev] at a7;refine ζl ai ϱ ?_;rw[ema];refine ζi (k*12) ϱ (Xa.loadC Xb (Cf ⟨true,m.who,m.pf,m.fa,m.pt,m.ta,sa,sl,sc,sst,m.f,m.t,m.size,m.gone⟩) rfl (by first|rfl|(simp;done)|(simp[*];done)|(simp;omega)) (a7) rfl (ζn ϱ λxb w3 e3 df dg fc=>ζs df ϱ λw4 c8 dh fd=>?_));have aj:Xc Xe w2 w4:=dg.since dh (λz l e=>by omega);have di:=aj.heap' ai;refine ζl di ϱ (ζs c8 ϱ λw5 ak dj fe=>?_);have H:Xc Xe w2 w5:=aj.since dj (λz l e=>by omega);have a3:=W.trans H;have dk:=H.heap' ai;have c9:=H.heap' bu;have h5:=h.grow a3;have hM:Ki w5 ⟨r.ra,m.f,m.t,m.size,m.gone⟩:=⟨h5.ra,l3,by show m.gone<=m.size;omega,by rw[h.rb];exact l1,by rw[h.rb];exact l2⟩;refine ζl ak ϱ (ζc ϱ (XkZ ⟨r.ra,m.f,m.t,m.size,m.gone⟩ n w5 hM ⟨by show 0<=r.ra.steps;rw[h.rs];exact ht.1,by show r.ra.steps<=_;rw[h.rs];exact ht.2⟩) ?_);rintro _ w6 ⟨⟨a,f6,t6,ff,g6⟩,rfl,x1,x2,x3,x4,x5,x6,u,M,am⟩;refine ζa ϱ ?_;simp only at x1 x2 x3 x4 x5 x6 u am
 subst x3;subst x4;subst x5;subst x6;have cc:=a3.trans M;have z5:=a3.size;have bw:=H.size;have z6:=M.size;have eg:Du n (m.size-m.gone)=Z1 m n:=rfl;rw[eg] at x1 x2;rw[h.rb] at x1;have dq:0<a.bs.length:=by
  rw[x1,XbR (size:=m.size) (by omega) l1 l2];omega
 have cd:Yj w6 a.a:=λb' off' s' e=>u.rd.block dq e;refine ζn ϱ λyb w7 e7 ce dr fg=>ζs ce ϱ λw8 an ds fh=>?_;have D:Xc Xe w6 w8:=dr.since ds (λz l e=>by omega);have lq:=Xg bu;have dt:=(M.trans D).heap' dk;have cf:=(M.trans D).heap' ak;have cg:=(M.trans D).heap' c9;refine ζl an ϱ (ζs dt ϱ λw9 ao N fi=>?_);obtain⟨O,p⟩:∃O:SR,O={r with ra:=a}:=⟨_,rfl⟩;replace ao:Zg w9 b O:=by rw[p];exact ao
 have ap:=N.heap an (by omega);have ch:=N.heap cf (by omega);refine ζl ap ϱ (ζs ch ϱ λP A E eu=>?_);obtain⟨v,ev'⟩:∃v:VR,v=⟨true,m.who,m.pf,m.fa,m.pt,m.ta,a.a,a.bs.length,a.cap,a.steps,m.f,m.t,m.size,(m.gone+Z1 m n:Nat)⟩:=⟨_,rfl⟩;replace A:P.heap[xb]?=some (.cells (Cf v).toArray 109 (0,0)):=by rw[ev'];exact A
 have a8:=E.heap ap (by omega);have a4:=E.heap ao (by omega);have a9:=E.heap (N.heap cg (by omega)) (by omega);have I:Xc Xe w P:=(((cc.trans D).since N (λz l e=>by omega)).since E (λz l e=>by omega));have aa:Xc (λz=>z=b\/z=xb) w6 P:=(D.gr.trans (N.mono λ_ _ e=>.inl e)).trans (E.mono λ_ _ e=>.inr e);have bd:Xj (λz=>z=b\/z=xb) a.a:=λb' off' s' e l=>by
  rcases am with⟨g,eg',ci⟩|eg'
  ·rw[eg'] at e;cases e;omega
  ·have:=h.la b' off' s' (eg'▸e);omega
 have be:Z0 P a:=⟨u.rd.far bd aa,u.len,u.lc,u.rng⟩;have ex:s.bs.length<=4194304:=by rw[<-h.rb];exact h.ra.len
 have cj:a.steps=Xx s.rm.tot (Z1 m n:Nat):=by
  rw[x2,h.rs,Bl (by omega)]
 have aq:X4 P O (Q7 s m n):=p▸h.putRa I be x1 cj (cd.grow aa.size);have ar:∀{w0:World},w0.heap.size<=w5.heap.size->Zs w0 r O:=λl=>⟨by rw[p],by rw[p],λS hS ho=>by
  have dv:Xj S a.a:=λb' off' s' e bx=>by
   rcases am with⟨g,eg',ci⟩|eg'
   ·rw[eg'] at e;cases e;have:=hS _ bx;omega
   ·exact ho.ra b' off' s' (eg'▸e) bx
  rw[p];exact {ho with ra:=dv}⟩
 refine ζl a8 ϱ (ζl a8 ϱ ?_);by_cases bz:m.gone+Z1 m n<m.size
 ·have eG:Yo s k n={Q7 s m n with mv:=s.mv.set k (some {m with gone:=m.gone+Z1 m n})}:=by unfold Yo;rw[Cr hm];simp only;rw[if_pos bz]
  rw[eG];have ck:Lb (some {m with gone:=m.gone+Z1 m n}) v:=by rw[ev'];exact⟨rfl,λm' e=>by cases e;exact⟨rfl,rfl,rfl,rfl,rfl,rfl,rfl,rfl,rfl⟩⟩
  refine ζY ϱ (decide_eq_true (show((m.gone+Z1 m n:Nat):Int)<((m.size:Nat):Int) by omega)) (ζl a4 ϱ (ζl A ϱ (ζc ϱ (Rs aq bs k hk v (some {m with gone:=m.gone+Z1 m n}) ck) ?_)));rintro _ c0 ⟨F,rfl,_,i⟩;refine ζa ϱ (ζs (i.2.2.heap' a9) ϱ λc1 bf au cl=>?_);have ac:Xc Xe w c1:=(I.trans i.2.2).since au (λz l e=>by omega);have Q:Zs w2 r F:=(ar bw).trans i.2.1 (by omega);exact ζR func103 bf ϱ ⟨F,rfl,h.box Q i.1 (by omega) (by omega) au ac,Q.back z2,ac⟩
 ·have eG:Yo s k n={Q7 s m n with mv:=s.mv.set k none,th:=s.th.set m.who.toNat (some ⟨Qy s m.who,⟨k,m.pt,m.ta,[]⟩⟩),rm:=Qb (Q7 s m n).rm k m.pf m.fa}:=by unfold Yo;rw[Cr hm];simp only;rw[if_neg bz]
  have dw:m.who.toNat=o:=by omega
  have dx:Qy s m.who=t.size:=by unfold Qy;rw[ew,G6 et]
  rw[eG,dw,dx];have dy:o<s.th.length:=(List.getElem?_eq_some_iff.1 et).1;have av:o<r.ts.length:=by have:=h.tn;omega
  refine ζF ϱ (decide_eq_false (show ¬((m.gone+Z1 m n:Nat):Int)<((m.size:Nat):Int) by omega)) (ζl a4 ϱ (ζb ϱ (ζc ϱ (Rs aq bs k hk G8 none ⟨rfl,λ_ e=>by cases e⟩) ?_)));rintro _ c0 ⟨F,rfl,_,i⟩;refine ζa ϱ ?_;have fj:=i.2.2.size;refine ζn ϱ λtb c1 fk bg cm cl=>ζs bg ϱ λaw B cn ey=>?_;replace B:Zg aw tb F:=B;have R:Xc Xe c0 aw:=cm.since cn (λz l e=>by omega);have c:=i.2.2.trans R;have co:=c.heap' a4;have f:=c.heap' A;have bh:=c.heap' a9;have dz:=i.1.grow R;have e0:=aq.grow c;have T:Zs w2 r F:=(ar bw).trans i.2.1 (by omega);obtain⟨cp,fm,toff,eta,ax⟩:=(e0.trow (by rw[p];exact av):Ow (Bt (Q7 s m n) (o:Nat)) (O.ts[o]'(by rw[p];exact av))/\_);have e4:(O.ts[o]'(by rw[p];exact av)).size=t.size:=by
   rw[cp.1,show Bt (Q7 s m n) (o:Nat)=Bt s (o:Nat) from rfl,G6 et];rfl
  rw[ev'] at f;refine ζd 19 Xe (by kernel_rfl) ϱ λG=>δl G B ϱ (δl G f ϱ (δl G co ϱ (δl G f ϱ ?_)));rw[eta,ew];refine Xd.index Xb G rfl (j:=o*5) (show(0:Int)<=(o:Int) by omega) (show(o:Int)<(O.ts.length:Nat) by rw[p];show(o:Int)<(r.ts.length:Nat);omega) (by simp) rfl (δk G (ax 0 _ rfl) ϱ ?_);rw[e4];refine δl G f ϱ (δl G f ϱ (Xd.build Xb G rfl rfl (Xd.build Xb G rfl rfl (δn G ϱ λfn d=>?_))));have bi:=d.heap' f;have bj:=d.heap' bh;have bk:=d.heap' B;have e5:=dz.grow d;have e6:=Oh e5 (show s.th.length<=4096 from Jj hs) o dy ⟨t.size,⟨(k:Nat),m.pt,m.ta,none,0,[]⟩⟩ (some ⟨t.size,⟨(k:Nat),m.pt,m.ta,[]⟩⟩) ⟨rfl,λy e=>by cases e;rfl⟩ ⟨Il _ _ _,λ_ _ _ e=>by cases e⟩;refine ζc ϱ (e6) ?_;rintro _ e8 ⟨U,rfl,e9,⟨a5,a6,ay⟩,x⟩;have ee:=(d.trans x).size;refine ζa ϱ (ζs (x.heap' bk) ϱ λaz C J ez=>?_);replace C:Zg az tb U:=C;have ad:=J.heap (x.heap' bi) (by omega);have bl:=J.heap (x.heap' bj) (by omega);have fo:=d.size;have eb:Zs w2 r U:=⟨a5.trans T.1,a6.trans T.2.1,λS hS ho=>ay S (λz l=>by have:=hS z l;omega) (T.2.2 S hS ho) (λ_ _ _ e=>by cases e)⟩;have cq:Zs aw F U:=⟨a5,a6,λS hS ho=>ay S (λz l=>by have:=hS z l;have:=d.size;omega) ho (λ_ _ _ e=>by cases e)⟩;have cr:Am (λz=>z=tb) F:=i.1.out (λz e=>by omega);have cs:Am (λz=>z=tb) U:=cq.2.2 _ (λz e=>by omega) cr;have bm:Xc Xe w e8:=((I.trans c).trans d).trans x;have K:Xc Xe w az:=bm.since J (λz l e=>by omega);have c2:=e9.far cs (by have:=h.conf.chg K;rw[a5.trans T.1,a6.trans T.2.1];exact this) J;have c3:Yx r.c (Q7 s m n).rm:=(StM.OkP.step hs hm n).rm;have hG:=Xaf c3 (k:Nat) m.pf m.fa;refine ζl C ϱ (ζl ad ϱ (ζl ad ϱ (ζc ϱ (Xfy U.rr (Qa (Q7 s m n).rm) (k:Nat) m.pf m.fa az c2.rr (Rw c3).mok ⟨ZO _,show(0:Int)<=4611686018427000000 by decide⟩) ?_)));rintro _ ec ⟨cu,rfl,bn,cv,cw⟩;refine ζa ϱ (ζn ϱ λab fp fq bo cx f0=>ζs bo ϱ λc4 L cy f1=>?_);replace L:Yg c4 ab cu:=L;have V:Xc Xe ec c4:=cx.since cy (λz l e=>by omega);have q:=cw.trans V;refine ζl (q.heap' C) ϱ (ζl L ϱ ?_);have bp:0<=(Q7 s m n).rm.tot/\(Q7 s m n).rm.tot<=1000004194304:=by
   show 0<=Xx s.rm.tot (Z1 m n:Nat)/\Xx s.rm.tot (Z1 m n:Nat)<=_
   rw[Bl (by omega)];omega
  refine ζc ϱ (Og (c2.grow q) (bn.grow V) cv ⟨hG.2.1,bp.1,by have:=hG.2.2;show(Q7 s m n).rm.tot+_<=_;omega⟩) ?_;rintro _ fr ⟨c5,rfl,_,b0,cz,ba⟩;refine ζa ϱ ?_;rw[hG.1] at b0;have bq:=ba.heap' (q.heap' bl);have fs:=K.size;refine ζs bq ϱ λed br bb f2=>?_;have ae:Xc Xe w ed:=((K.trans q).trans ba).since bb (λz l e=>by omega);have Q:Zs w2 r c5:=eb.trans cz (by have:=x.size;omega);exact ζR func103 br ϱ ⟨c5,rfl,h.box Q b0 (by omega) (by omega) bb ae,Q.back z2,ae⟩
theorem Va(hs:s.Ok c)(k:Nat)(ht:0<=s.rm.tot/\s.rm.tot<=1000000000000):0<=(Yc c s k).rm.tot/\(Yc c s k).rm.tot<=s.rm.tot+10000:=by
 unfold Yc;split
 ·have:=Xag hs.rm (k:Nat) (Zh s.rm k (Ye s.rm k).1 (Ye s.rm k).2.1);show 0<=(Z9 s.rm k _).tot/\(Z9 s.rm k _).tot<=_
  rw[<-this.1];show 0<=Xx s.rm.tot _/\Xx s.rm.tot _<=_
  rw[Bl (by have:=this.2;omega)];have:=this.2;omega
 ·omega
theorem XiV(m:MvM)(n:Int):Z1 m n<=m.size:=by have:=Td m n;omega
theorem XjQ(hs:s.OkP c pd)(hm:s.mv[k]?=some (some m)):m.size<=4096:=by
 have a:=(hs.mv k m hm).2.2.2.2.2.1;have b:=(List.getElem?_eq_some_iff.1 hm).1;have d:=(Pc (by have:=hs.may;unfold X6 at this;simp only[XJ] at this;exact this.1.1.1.1.1.2) k (by have:=hs.ml;omega)).2.2;have:=(Yp hs.may).size;unfold Yb at a;rw[XA] at a;omega
theorem Xce(hs:s.Ok c)(k:Nat)(n:Int)(ht:0<=s.rm.tot/\s.rm.tot<=1000000000000):0<=(Yo s k n).rm.tot/\(Yo s k n).rm.tot<=s.rm.tot+20000:=by
 unfold Yo;cases d:Xt s (k:Nat) with
 |none=>simp only;omega
 |some m=>
  obtain⟨j,ej,_,a⟩:=Qr d;obtain rfl:k=j:=by omega
  have e:=XjQ hs a;have f:=XiV m n;have g:(Q7 s m n).rm.tot=s.rm.tot+Z1 m n:=by
   show Xx s.rm.tot (Z1 m n:Nat)=_
   rw[Bl (by omega)]
  have b:=Xaf (StM.OkP.step hs a n).rm (k:Nat) m.pf m.fa;simp only
  split
  ·show 0<=(Q7 s m n).rm.tot/\(Q7 s m n).rm.tot<=_
   omega
  ·show 0<=(Qb (Q7 s m n).rm k m.pf m.fa).tot/\(Qb (Q7 s m n).rm k m.pf m.fa).tot<=_
   rw[<-b.1];show 0<=Xx (Q7 s m n).rm.tot _/\Xx (Q7 s m n).rm.tot _<=_
   rw[Bl (by have:=b.2;omega)];have:=b.2;omega
theorem XbP{x:SR}(h:X4 w r s)(h2:X4 w2 x s')(hk:Zs w' r x):∀b,w.heap.size<=b->(b<w'.heap.size\/w2.heap.size<=b)->Am (λz=>z=b) x:=λb c a=>by
 rcases a with hb'|hb'
 ·exact hk.2.2 _ (λz e=>by omega) (h.out λz e=>by omega)
 ·exact h2.out λz e=>by omega
abbrev srF(g:Int)(x:SR):Value:=.tuple #[.agg (Zv x).toArray,.int .i64 g]
abbrev Or(w:World)(r:SR)(s':StM)(x:SR)(w2:World):Prop:=X4 w2 x s'/\Zs w r x/\Xc Xe w w2
abbrev Uy(x:SR)(b:Nat):Prop:=Am (λz=>z=b) x
theorem Xgp:∀x w2 w3,Or w r s' x w2->Xc Xe w2 w3->Or w r s' x w3:=λ_ _ _ ⟨a,b,c⟩ d=>⟨a.grow d,b,c.trans d⟩
theorem XfF(h:X4 w r s)(hs:s.Ok r.c)(κ:Int)(ht:0<=s.rm.tot/\s.rm.tot<=1000000000000):Xf prog 92 #[.agg (Zv r).toArray,.int .i64 κ] w (λv w'=>∃r',v=.agg (Zv r').toArray/\Cw w r (X7 s κ) r' w'):=by
 have hl:=h.mn;have L:s.mv.length<=16:=by have:=hs.ml;have:=(Yp hs.may).n;omega
 refine ζe func92 ntmps92 ϱ (ζn ϱ λb w1 e1 W M ab=>ζn ϱ λqb g e2 B C ac=>?_);have D:=C.heap' W;have d:=M.trans C;refine ζl D ϱ (ζv (K0 (h.grow d) L κ) ϱ λu f=>?_);have i:=f.heap' D;have j:=f.heap' B;have a:=d.trans f;cases y:Xt s κ with
 |none=>
  have e:X7 s κ=s:=by unfold X7;rw[y]
  rw[e];refine ζy ϱ ?_;exact ζl i ϱ (ζs j ϱ λwr N O ad=>ζR func92 N ϱ ⟨r,rfl,.self h (a.since O (λz P e=>by omega))⟩)
 |some m=>
  obtain⟨k,rfl,hk,Q⟩:=Qr y;have e:X7 s (k:Nat)=Yo s k ((m.size:Nat):Int):=by
   unfold X7;rw[y];simp only[XA]
  rw[e];have H:=h.grow a;obtain⟨hv,a0,off,ema,A⟩:=H.mrow (show k<r.ms.length by omega);obtain⟨_,_,_,_,_,_,_,v8,_⟩:=hv.2 m y;refine ζf ϱ (ζd 15 Xe (by kernel_rfl) ϱ λc=>δl c i ϱ (δl c i ϱ ?_));rw[ema];refine δi (k*12) c ϱ (δk c (A 10 _ rfl) ϱ ?_);rw[v8,<-ema];have hd:∀w',Xc Xe u w'->Xf prog 103 #[.agg (Zv r).toArray,.int .i64 (k:Nat),.int .i64 (m.size:Nat)] w' (λv g=>Xc Xe w' g/\∃x,v=srF (Z1 m (m.size:Nat):Nat) x/\Or u r (Yo s k (m.size:Nat)) x g/\∀b,u.heap.size<=b->(b<w'.heap.size\/g.heap.size<=b)->Uy x b):=λw' l=>
   (Xbv (H.grow l) hs Q (m.size:Nat) ht).mono λv g ⟨x,a1,R,S,T⟩=>⟨T,x,a1,⟨R,S.back l.size,l.trans T⟩,XbP H R S⟩
  refine Xd.callAllocG (srF (Z1 m (m.size:Nat):Nat)) (Or u r (Yo s k (m.size:Nat))) (Uy) Xb c rfl rfl rfl (λ_=>rfl) rfl (λ_=>rfl) (λ_=>rfl) rfl rfl (λ_ _=>rfl) rfl (λ_ _=>rfl) (hd) (Xgp) ((λ_ h=>h.elim)) ?_;rintro nb x w4 ae U V ⟨q1,I,q3⟩ hG;refine Xd.turn1 c rfl λw5 n=>Xp.store Xb c rfl (n.heap' U) (by first|(intro h;exact rfl)|(intro h;omega)) rfl rfl rfl λw6 J E af=>δn c ϱ λw7 o=>?_;have z3:=a.size;have p:=(V.trans n).since E (λz P e=>by omega);have q:=p.trans o;refine ζl (o.heap' J) ϱ (ζs (q.heap' j) ϱ λw8 K F ag=>?_);have lq:=Xg B;have t:=(a.trans q).since F (λz P e=>by omega);have G:=I.back f.size;exact ζR func92 K ϱ ⟨x,rfl,h.box G (((q1.grow n).far hG (by have:=h.conf.chg (a.trans p);rw[I.1,I.2.1];exact this) E).grow o) (by omega) (by omega) F t,G.back d.size,t⟩
theorem Xjm(h:Yx c M){r:List Nat}(hm:(n,r)∈M.lg):r.length<=1024:=by
 have a:=XaD hm;have b:=h.ok.sum;have d:=Pp h;simp only at a
 omega
theorem Xdr(h:Yx c M)(q:PlcM):Jn M.tot (Ym M q) (Ym (Qa M) q):=by
 unfold Ym;split
 ·exact Xaf h _ _ _
 ·show Jn M.tot (match Cz M.lg q.page with|none=>M|some r=>if X1 r=q.pages then Hy M q.page.toNat r else M) (match Cz M.lg q.page with|none=>Qa M|some r=>if X1 r=q.pages then Hy (Qa M) q.page.toNat r else Qa M)
  cases b:Cz M.lg q.page with
  |none=>exact I3 M
  |some r=>
   simp only
   split
   ·obtain⟨k,_,a⟩:=L1 b;have d:=Xjm h a;have e:(Hy (Qa M) q.page.toNat r).tot=(r.length+1:Int)*4+r.length:=W7 (n:=(r.length+1:Int)*4+r.length) (by omega);refine⟨?_,by rw[e];omega,by rw[e];omega⟩;rw[e];rfl
   ·exact I3 M
theorem XfG(h:X4 w r s)(q:Plc)(hs:s.OkP r.c (some (o,Xy q)))(hq:Zl w q)(ht:0<=s.rm.tot/\s.rm.tot<=999999900000):Xf prog 93 #[.agg (Zv r).toArray,.agg (Xv q).toArray] w (λv w'=>∃r',v=.agg (Zv r').toArray/\Cw w r (Au r.c s (Xy q)) r' w'):=by
 have ba:s.mv.length<=16:=by have:=hs.ml;have:=(Yp hs.may).n;omega
 have hd:=hs.dropped;have P:=Xdr hs.rm (Xy q);have ag:=Rw hs.rm;refine ζe func93 ntmps93 ϱ (ζn ϱ λb w1 e1 hb bb c9=>ζn ϱ λpb w2 e2 bc ah ca=>ζn ϱ λqb w3 e3 ai R cb=>?_);have E:=(ah.trans R).heap' hb;have y:=R.heap' bc;have i:=(bb.trans ah).trans R;have h3:=h.grow i;refine ζl E ϱ (ζl y ϱ (ζc ϱ (Xk4 r.rr (Qa s.rm) q w3 h3.rr ag.mok (by rw[h.rc];exact ag.ok) ⟨ZO _,show(0:Int)<=4611686018427000000 by decide⟩ (hq.grow i)) ?_));rintro _ w4 ⟨cc,rfl,aw,bd,aj⟩;refine ζa ϱ (ζn ϱ λab w5 e5 ax be cd=>ζs ax ϱ λw6 ay bf ce=>?_);have z3:=i.size;have z4:=aj.size;have T:=be.since bf (λz Q e=>by omega);have A:=aj.trans T;have b0:=i.trans A;refine ζl (A.heap' E) ϱ (ζl ay ϱ (ζc ϱ (Og (h.grow b0) (aw.grow T) bd ⟨P.2.1,ht.1,by have:=P.2.2;omega⟩) ?_));rintro _ w7 ⟨r7,rfl,_,h7,F,ak⟩;refine ζa ϱ ?_;rw[P.1] at h7;have z7:=ak.size;refine ζn ϱ λtb w8 e8 b2 bg cf=>ζs b2 ϱ λw9 B bh cg=>?_;have U:=bg.since bh (λz Q e=>by omega);have p:=(A.trans ak).trans U;have V:=i.trans p;have h9:=h7.grow U;have bj:=p.heap' E;have C:=p.heap' y;have W:=p.heap' ai;have a0:=F;have lq:=Xg ai;have u:0<=(Ym s.rm (Xy q)).tot/\(Ym s.rm (Xy q)).tot<=999999910000:=by
  rw[<-P.1];show 0<=Xx s.rm.tot _/\Xx s.rm.tot _<=_
  rw[Bl (by have:=P.2;omega)];have:=P.2;omega
 refine ζl C ϱ ?_;by_cases al:q.cls<0
 ·have e:Au r.c s (Xy q)={s with rm:=Ym s.rm (Xy q)}:=by unfold Au;rw[if_pos (show(Xy q).cls<0 from al)]
  rw[e];refine ζy ϱ (ζl B ϱ (ζs W ϱ λbk a8 a1 bz=>?_));have G:=V.since a1 (λz Q e=>by omega);exact ζR func93 a8 ϱ ⟨r7,rfl,h.box a0 h9 (by omega) (by omega) a1 G,a0.back z3,G⟩
 ·obtain⟨_,p2,_,_⟩:=hs.ps o (Xy q) rfl (show q.cls≠-1 by omega);obtain⟨_,k0,k1⟩:=N7 hs (k:=(Xy q).cls) (n:=(Xy q).page) (a:=(Xy q).idx) (by rw[p2];omega);obtain⟨k,hk⟩:=XD (show 0<=q.cls from k0);replace k1:q.cls<r.c.classes.length:=k1;have bm:k<s.mv.length:=by have:=hs.ml;omega
  have e:Au r.c s (Xy q)=Yo (Yc r.c {s with rm:=Ym s.rm (Xy q)} k) k r.c.step:=by
   unfold Au;rw[if_neg (show ¬(Xy q).cls<0 from al),show(Xy q).cls.toNat=k by show q.cls.toNat=k;omega]
  rw[e];refine ζf ϱ (ζl B ϱ (ζl C ϱ ?_));rw[hk];have a2:=F.1;have am:=XfE h9 (by rw[a2];exact hd) k bm ⟨u.1,by have:=u.2;show(Ym s.rm (Xy q)).tot<=_;omega⟩;rw[a2] at am;refine ζc ϱ (am) ?_;rintro _ bk ⟨x,rfl,bn,j,f⟩;have c2:=f.size;refine ζa ϱ (ζs (f.heap' B) ϱ λan g l c3=>?_);replace g:Zg an tb x:=g;have H:Xc Xe w an:=(V.trans f).since l (λz Q e=>by omega);have bo:∀{w':World},Xc Xe w w'->Ys w' x.c x.cp:=λhc=>by have:=h.conf.chg hc;rw[j.1,j.2.1,F.1,F.2.1];exact this
  have ao:=bn.far (j.2.2 _ (λz e=>by omega) (h7.out (S:=λz=>z=tb) (λz e=>by omega))) (bo H) l;have b4:=l.heap (f.heap' bj) (by have:=Xg E;omega);have I:=l.heap (f.heap' C) (by have:=Xg y;omega);have a9:=l.heap (f.heap' W) (by omega);have a3:Zs w3 r x:=a0.trans j (by omega);have bp:=StM.OkP.begin hd k;have b5:(Yc r.c {s with rm:=Ym s.rm (Xy q)} k).mv.length<=16:=by rw[(Kk r.c _ k).2.2.2];exact ba
  have J:=Va hd k ⟨u.1,by have:=u.2;show(Ym s.rm (Xy q)).tot<=_;omega⟩;replace J:0<=(Yc r.c {s with rm:=Ym s.rm (Xy q)} k).rm.tot/\(Yc r.c {s with rm:=Ym s.rm (Xy q)} k).rm.tot<=(Ym s.rm (Xy q)).tot+10000:=J;refine Xa.loads Xb rfl g rfl rfl ?_;refine Xa.loadb Xb rfl I rfl rfl ?_;rw[hk];refine ζc rfl (K0 ao b5 (k:Nat)) ?_;rintro _ ch ⟨rfl,c⟩;refine ζa rfl ?_;have ap:=ao.grow c;have b6:=c.heap' b4;have aa:=c.heap' I;have K:=c.heap' a9;have L:=c.heap' g;have M:=H.trans c;have ci:=c.size;cases hm:Xt (Yc r.c {s with rm:=Ym s.rm (Xy q)} k) (k:Nat) with
  |none=>
   rw[Xgr hm];refine Xa.yes Xb rfl rfl rfl ?_;refine Xa.loads Xb rfl L rfl rfl ?_;refine Xa.store Xb rfl K rfl rfl ?_;intro a4 ac a5 c5;refine ζa rfl ?_;have N:Xc Xe w a4:=M.since a5 (λz Q e=>by omega);exact ζq rfl func93 (Xm.cell rfl rfl rfl ac rfl .nil) ⟨x,rfl,h.box a3 ap (by omega) (by omega) a5 N,a3.back z3,N⟩
  |some m=>
   obtain⟨k',ek',cj,br⟩:=Qr hm;obtain rfl:k=k':=by omega
   refine Xa.no Xb rfl rfl rfl ?_;refine Xa.loads Xb rfl L rfl rfl ?_;refine Xa.loadb Xb rfl aa rfl rfl ?_;rw[hk];refine Xa.loadb Xb rfl b6 rfl rfl ?_;have bs:=Xbv ap (by rw[j.1,a2];exact bp) br r.c.step ⟨J.1,by have:=J.2;have:=u.2;omega⟩;refine ζc rfl (bs) ?_;rintro _ a4 ⟨a6,rfl,bt,b7,D⟩;refine ζa rfl ?_;refine Xa.alloc Xb rfl ?_;intro yb ck cl ad b8 c6;refine ζa rfl ?_;refine Xa.store Xb rfl ad rfl rfl ?_;intro aq t b9 c7;refine ζa rfl ?_;replace t:Zg aq yb a6:=t;have cm:=D.size;have d:Xc Xe a4 aq:=b8.since b9 (λz Q e=>by omega);have ae:=(D.trans d).heap' K;have cn:=d.size;refine Xa.loads Xb rfl t rfl rfl ?_;refine Xa.store Xb rfl ae rfl rfl ?_;intro bu af a7 c8;refine ζa rfl ?_;have O:Xc Xe w bu:=((M.trans D).trans d).since a7 (λz Q e=>by omega);have ar:Zs w3 r a6:=a3.trans b7 (by omega);exact ζR func93 af ϱ ⟨a6,rfl,h.box ar (bt.grow d) (by omega) (by omega) a7 O,ar.back z3,O⟩
theorem Ud(h:X4 w r s)(hs:s.OkP r.c pd)(size:Int):Xf prog 90 #[.agg (Zv r).toArray,.int .i64 size] w (Grow (.int .i64 (Qg r.c s size)) w):=by
 have k:=Yp hs.may;have C:=k.n;have A:=k.most;have n:s.mv.length<=16:=by have:=hs.ml;omega
 refine ζe func90 ntmps90 ϱ (ζn ϱ λb x e1 o p B=>?_);refine ζl o ϱ (ζv (Ua r.c r.cp size x) ϱ λy l=>?_);have d:=l.heap' o;have c:=p.trans l;by_cases g:size<1\/r.c.most<size
 ·have e:Qg r.c s size=3:=by unfold Qg;rw[if_pos g]
  rw[e];have eb:(decide (1<=size) && decide (size<=r.c.most))=false:=by
   rw[Bool.and_eq_false_iff,decide_eq_false_iff_not,decide_eq_false_iff_not];omega
  rw[eb];exact ζy ϱ (ζr func90 ϱ ⟨rfl,c⟩)
 ·have e:Qg r.c s size=if (Xt s (Xk r.c.classes size)).isSome then 0 else Qd r.c s.rm size:=by unfold Qg;rw[if_neg g]
  rw[e];have eb:(decide (1<=size) && decide (size<=r.c.most))=true:=by
   rw[XJ,decide_eq_true_iff,decide_eq_true_iff];omega
  rw[eb];have i:=h.grow c;have q:∀w',Xc Xe y w'->Xf prog 151 #[.agg (A5 r.rr).toArray,.int .i64 size] w' (Grow (.int .i64 (Xk r.c.classes size)) w'):=λw' f=>by
   have:=Rq r.rr size w' (by rw[h.rc,h.rp];exact(i.grow f).conf.classes) (by rw[h.rc];omega);rw[h.rc] at this;exact this
  refine ζf ϱ (ζd 5 Xe (by kernel_rfl) ϱ λj=>δl j d ϱ (δl j d ϱ (δv j (λw' f=>q w' f) ϱ (δn j ϱ λD m=>?_))));refine ζv (K0 (i.grow m) n (Xk r.c.classes size)) ϱ λz t=>?_;have a:=m.trans t;cases E:(Xt s (Xk r.c.classes size)).isSome with
  |true=>
   exact ζy ϱ (ζr func90 ϱ ⟨rfl,c.trans a⟩)
  |false=>
   refine ζf ϱ (ζl (a.heap' d) ϱ ?_);have u:=Xbo r.rr (Qa s.rm) size z (i.grow a).rr (by rw[h.rc,h.rp];exact(i.grow a).conf.classes) (by rw[h.rc];omega) (by rw[h.rc];omega);rw[h.rc] at u;exact ζv u ϱ λF v=>ζr func90 ϱ ⟨rfl,(c.trans a).trans v⟩
theorem Xlm(h:X4 w r s)(hs:s.OkP r.c pd)(old size:Int)(ho:old<=9223372036854775807)(hz:size<=9223372036854775807):Xf prog 95 #[.agg (Zv r).toArray,.int .i64 old,.int .i64 size] w (Grow (.bool (Af r.c old size)) w):=by
 have y:=(Yp hs.may).n;have g:∀(n:Int) w',Xc Xe w w'->Xf prog 151 #[.agg (A5 r.rr).toArray,.int .i64 n] w' (Grow (.int .i64 (Xk r.c.classes n)) w'):=λn w' i=>by
  have:=Rq r.rr n w' (by rw[h.rc,h.rp];exact(h.grow i).conf.classes) (by rw[h.rc];omega);rw[h.rc] at this;exact this
 have v:=Rh r.c.classes old;refine ζe func95 ntmps95 ϱ (ζn ϱ λb t e1 p j x=>?_);refine ζl p ϱ (ζv (g old t j) ϱ λu k=>?_);have d:=j.trans k;have l:=k.heap' p;refine ζl l ϱ (ζv (g size u d) ϱ λz m=>?_);have c:=d.trans m;have o:=m.heap' l;by_cases e1:Xk r.c.classes old=Xk r.c.classes size
 ·refine ζF ϱ (by simpa using e1) ?_;by_cases e2:Xk r.c.classes old=-1
  ·have e:Af r.c old size=decide (Z2 old r.c.size=Z2 size r.c.size):=by unfold Af;rw[decide_eq_true e1,YI,decide_eq_false (λh=>h e2),Bool.false_or]
   rw[e];exact ζd 12 Xe (by kernel_rfl) ϱ λa=>Xd.no Xb a rfl (by rw[e2];rfl) rfl (δl a o ϱ (δw a (λw' i=>Rp old r.c.size w' ho) ϱ (δl a o ϱ (δn a ϱ λq f=>ζw (Rp size r.c.size q hz) ϱ (ζr func95 ϱ ⟨rfl,c.trans f⟩)))))
  ·have e:Af r.c old size=true:=by unfold Af;rw[decide_eq_true e1,YI,decide_eq_true e2,Bool.true_or]
   rw[e];exact ζd 12 Xe (by kernel_rfl) ϱ λa=>Xd.yes Xb a rfl (decide_eq_true (by omega)) rfl (δn a ϱ λq f=>ζr func95 ϱ ⟨rfl,c.trans f⟩)
 ·have e:Af r.c old size=false:=by unfold Af;rw[decide_eq_false e1,YQ]
  rw[e];exact ζY ϱ (by simpa using e1) (ζr func95 ϱ ⟨rfl,c⟩)
theorem XfJ(h:X4 w r s)(hs:s.OkP r.c pd)(o:Nat){t:ThM}(het:s.th[o]?=some (some t))(i n:Nat)(hi:∀m,Xt s t.q.cls=some m->i+n<=m.size)(ht:0<=s.rm.tot/\s.rm.tot<=1000000000000):Xf prog 98 #[.agg (Zv r).toArray,.int .i64 (o:Nat),.int .i64 (i:Nat),.int .i64 (n:Nat)] w (λv w'=>∃r',v=.agg (Zv r').toArray/\Cw w r (Qt s (o:Nat) i n) r' w'):=by
 have hl:=h.mn;have ab:s.mv.length<=16:=by have:=hs.ml;have:=(Yp hs.may).n;omega
 have cl:=(List.getElem?_eq_some_iff.1 het).1;have ac:o<r.ts.length:=by have:=h.tn;omega
 have hQ:=Yq het;have ak:r.ts[o].q.cls=t.q.cls:=by
  have:=(h.trow ac).1.2 t (G6 het);exact congrArg PlcM.cls this
 refine ζe func98 ntmps98 ϱ (ζn ϱ λb w1 e1 hb ax cm=>ζn ϱ λqb w2 e2 ad ae cn=>?_);have N:=ae.heap' hb;have u:=ax.trans ae;obtain⟨_,t0,toff,eta,ay⟩:=(h.grow u).trow ac;refine ζl N ϱ ?_;rw[eta];refine ζi (o*5) ϱ (ζk ϱ (ay 1 _ rfl) ϱ ?_);rw[ak,<-eta];refine ζl N ϱ (ζv (K0 (h.grow u) ab t.q.cls) ϱ λw3 p=>?_);have q:=p.heap' N;have G:=p.heap' ad;have d:=u.trans p;cases M:Xt s t.q.cls with
 |none=>
  have e:Qt s (o:Nat) i n=s:=by unfold Qt;rw[hQ,M]
  rw[e];refine ζy ϱ ?_;exact ζl q ϱ (ζs G ϱ λwr O P az=>ζR func98 O ϱ ⟨r,rfl,.self h (d.since P (λz C e=>by omega))⟩)
 |some m=>
  obtain⟨k,ek,hk,D⟩:=Qr M;have af:k<r.ms.length:=by omega
  have ba:=hi m M;rw[ek] at M⊢;obtain⟨sa,sl,sc,sst,ev⟩:∃sa sl sc sst,r.ms[k]=⟨true,m.who,m.pf,m.fa,m.pt,m.ta,sa,sl,sc,sst,m.f,m.t,m.size,m.gone⟩:=by
   obtain⟨⟨a1,a2⟩,_⟩:=h.mrow af;obtain⟨b1,b2,b3,b4,b5,b6,b7,b8,b9⟩:=a2 m (Cr D);rw[Cr D] at a1;generalize r.ms[k]=v at *
   obtain⟨i1,i2,i3,i4,i5,i6,i7,i8,i9,bk,co,cp,cq,cr⟩:=v;simp only at a1 b1 b2 b3 b4 b5 b6 b7 b8 b9
   subst b1;subst b2;subst b3;subst b4;subst b5;subst b6;subst b7;subst b8;subst b9;exact⟨i7,i8,i9,bk,by rw[a1];rfl⟩
  obtain⟨_,a0,off,ema,x⟩:=(h.grow d).mrow af;rw[ev] at x;obtain⟨l1,l2,l3,_⟩:=Jz hs D;have cs:=(hs.mv k m D).2.2.2.2.2.2;refine ζf ϱ (ζl q ϱ ?_);rw[ema];refine ζi (k*12) ϱ (ζk ϱ (x 1 _ rfl) ϱ ?_);rw[<-ema];by_cases H:m.who=o
  ·have e:Qt s (o:Nat) i n=Y1 {s with bs:=D7 s.bs m.f m.t m.gone i n} (Q2 i n m.gone):=by unfold Qt;rw[hQ,ek,M];simp only;rw[if_pos H]
   have emv:s.mv.set k (some m)=s.mv:=by
    apply QF
    intro j;by_cases ej:k=j
    ·subst ej;rw[XF hk,D]
    ·rw[XQ ej]
   rw[e];refine ζF ϱ (by rw[H];simp) (ζl q ϱ ?_);rw[ema];refine ζi (k*12) ϱ (Xa.loadC Xb (Cf ⟨true,m.who,m.pf,m.fa,m.pt,m.ta,sa,sl,sc,sst,m.f,m.t,m.size,m.gone⟩) rfl (by first|rfl|(simp;done)|(simp[*];done)|(simp;omega)) (x) rfl (ζn ϱ λxb w4 e4 bl bm ct=>ζs bl ϱ λw5 am bn cu=>?_));have Q:=bm.since bn (λz C e=>by omega);refine ζl (Q.heap' q) ϱ (ζs am ϱ λw6 R bp cv=>?_);have y:=Q.since bp (λz C e=>by omega);have T:=d.trans y;have hM:Ki w6 ⟨r.ra,m.f,m.t,m.size,m.gone⟩:=⟨(h.grow T).ra,l3,by show m.gone<=m.size;omega,by rw[h.rb];exact l1,by rw[h.rb];exact l2⟩;refine ζl R ϱ (ζc ϱ (Xk0 ⟨r.ra,m.f,m.t,m.size,m.gone⟩ i n w6 hM ⟨by show 0<=r.ra.steps;rw[h.rs];exact ht.1,by show r.ra.steps<=_;rw[h.rs];exact ht.2⟩ ba) ?_);rintro _ w7 ⟨⟨a,f7,t7,cw,g7⟩,rfl,x1,x2,x3,x4,x5,x6,c,E,U⟩;refine ζa ϱ ?_;simp only at x1 x2 x3 x4 x5 x6 c U
   subst x3;subst x4;subst x5;subst x6;have z3:=d.size;have cx:=y.size;have z7:=E.size;rw[h.rb] at x1;have an:(D7 s.bs m.f m.t m.gone i n).length=s.bs.length:=by
    unfold D7;split
    ·rfl
    ·unfold Q2;exact Pd (by omega) (by omega)
   have bx:0<a.bs.length:=by rw[x1,an];omega
   have ao:Yj w7 a.a:=λb' off' s' e=>c.rd.block bx e;refine ζn ϱ λyb w8 e8 ap bz cy=>ζs ap ϱ λw9 V c0 cz=>?_;have f:=bz.since c0 (λz C e=>by omega);have lq:=Xg ad;have zy:=p.size;refine ζl V ϱ (ζs ((E.trans f).heap' (y.heap' q)) ϱ λc1 I l cg=>?_);obtain⟨r1,F⟩:∃r1:SR,r1={r with ra:=a}:=⟨_,rfl⟩;replace I:Zg c1 b r1:=by rw[F];exact I
   refine ζl (l.heap V (by omega)) ϱ (ζs (l.heap ((E.trans f).heap' R) (by omega)) ϱ λW A B ch=>?_);obtain⟨v,ev'⟩:∃v:VR,v=⟨true,m.who,m.pf,m.fa,m.pt,m.ta,a.a,a.bs.length,a.cap,a.steps,m.f,m.t,m.size,m.gone⟩:=⟨_,rfl⟩;replace A:W.heap[xb]?=some (.cells (Cf v).toArray 109 (0,0)):=by rw[ev'];exact A
   have J:=(((T.trans E).trans f).since l (λz C e=>by omega)).since B (λz C e=>by omega);have K:Xc (λz=>z=b\/z=xb) w7 W:=(f.gr.trans (l.mono λ_ _ e=>.inl e)).trans (B.mono λ_ _ e=>.inr e);have a8:Xj (λz=>z=b\/z=xb) a.a:=λb' off' s' e C=>by
    rcases U with⟨g,eg',aq⟩|eg'
    ·rw[eg'] at e;cases e;omega
    ·have:=h.la b' off' s' (eg'▸e);omega
   have a9:Z0 W a:=⟨c.rd.far a8 K,c.len,c.lc,c.rng⟩;have d0:Q2 i n m.gone<=m.size:=by unfold Q2;omega
   have ci:s.bs.length<=4194304:=by rw[<-h.rb];exact h.ra.len
   have ar:a.steps=Xx s.rm.tot (Q2 i n m.gone:Nat):=by
    rw[x2,h.rs,Bl (by omega)]
   have c2:=F▸h.putRa J a9 x1 ar (ao.grow K.size);have au:Zs w2 r r1:=⟨by rw[F],by rw[F],λS hS H=>by
    have c3:Xj S a.a:=λb' off' s' e ag=>by
     rcases U with⟨g,eg',aq⟩|eg'
     ·rw[eg'] at e;cases e;have:=hS _ ag;have:=p.size;omega
     ·exact H.ra b' off' s' (eg'▸e) ag
    rw[F];exact {H with ra:=c3}⟩
   have av:Lb (some m) v:=by rw[ev'];exact⟨rfl,λm' e=>by cases e;exact⟨rfl,rfl,rfl,rfl,rfl,rfl,rfl,rfl,rfl⟩⟩
   have c4:=Rs c2 ab k hk v (some m) av;refine ζl (B.heap I (by omega)) ϱ (ζl A ϱ (ζc ϱ (c4) ?_));rintro _ c5 ⟨ah,rfl,_,a3,aw,a4⟩;refine ζa ϱ ?_;replace a3:X4 c5 ah (Y1 {s with bs:=D7 s.bs m.f m.t m.gone i n} (Q2 i n m.gone)):=by
    have e2:({Y1 {s with bs:=D7 s.bs m.f m.t m.gone i n} (Q2 i n m.gone) with mv:=s.mv.set k (some m)}:StM)=Y1 {s with bs:=D7 s.bs m.f m.t m.gone i n} (Q2 i n m.gone):=by rw[emv];rfl
    rw[<-e2];exact a3
   refine ζs (a4.heap' (B.heap (l.heap ((E.trans f).heap' (y.heap' G)) (by omega)) (by omega))) ϱ λd1 aa a5 ck=>?_;have L:=(J.trans a4).since a5 (λz C e=>by omega);have ai:=au.trans aw (by have:=p.size;omega);exact ζR func98 aa ϱ ⟨ah,rfl,h.box ai a3 (by omega) (by omega) a5 L,ai.back u.size,L⟩
  ·have e:Qt s (o:Nat) i n=s:=by unfold Qt;rw[hQ,ek,M];simp only;rw[if_neg H]
   rw[e];refine ζY ϱ (by simpa using H) ?_;exact ζl q ϱ (ζs G ϱ λwr O P az=>ζR func98 O ϱ ⟨r,rfl,.self h (d.since P (λz C e=>by omega))⟩)
theorem Xlj(h:X4 w r s)(hs:s.OkP r.c pd)(k keep:Int):Xf prog 46 #[.agg (Zv r).toArray,.int .i64 k,.int .i64 keep] w
 (λv w'=>∃r',v=.tuple #[.agg (Zv r').toArray,.int .i64 (Cv s k keep)]/\Cw w r (Dj s k keep) r' w'):=by
 have a3:maxLen=9223372036854775807:=rfl;have hn:=(Yp hs.may).n;have ac:=hs.kl;have ad:=hs.ml;have ae:r.keep.length=s.keep.length:=by rw[h.ke]
 refine ζe func46 ntmps46 ϱ (ζn ϱ λb w1 e1 hb O af=>ζn ϱ λqb P e2 i E ag=>?_);have d:=E.heap' hb;have c:=O.trans E;by_cases g:k<0\/(s.mv.length:Int)<=k\/keep<0\/1024<keep
 ·have e:Cv s k keep=1:=by unfold Cv;rw[if_pos g]
  have eS:Dj s k keep=s:=by unfold Dj;rw[if_neg (by rw[e];decide)]
  rw[e,eS];by_cases g1:k<0
  ·exact ζy ϱ (ζl d ϱ (ζs i ϱ λJ a f o=>ζR func46 a ϱ ⟨r,rfl,.self h (c.since f (λz l e=>by omega))⟩))
  ·refine ζf ϱ (ζl d ϱ ?_);by_cases g2:(r.keep.length:Int)<=k
   ·exact ζy ϱ (ζl d ϱ (ζs i ϱ λJ a f o=>ζR func46 a ϱ ⟨r,rfl,.self h (c.since f (λz l e=>by omega))⟩))
   ·refine ζf ϱ ?_;by_cases g3:keep<0
    ·exact ζy ϱ (ζl d ϱ (ζs i ϱ λJ a f o=>ζR func46 a ϱ ⟨r,rfl,.self h (c.since f (λz l e=>by omega))⟩))
    ·exact ζf ϱ (ζy ϱ (ζl d ϱ (ζs i ϱ λJ a f o=>ζR func46 a ϱ ⟨r,rfl,.self h (c.since f (λz l e=>by omega))⟩)))
 ·have e:Cv s k keep=0:=by unfold Cv;rw[if_neg g]
  obtain⟨j,rfl⟩:=XD (show 0<=k by omega);have eS:Dj s (j:Nat) keep={s with keep:=s.keep.set j keep}:=by unfold Dj;rw[if_pos e,XA]
  rw[e,eS];refine ζf ϱ (ζl d ϱ (ζf ϱ (ζf ϱ (ζf ϱ (Xa.buildSlice Xb rfl λb4 w4 e4 Q n ah=>ζa ϱ ?_)))));refine ζl (n.heap' d) ϱ ?_;obtain⟨ai,koff,eka,_⟩:=h.kr 0 (by omega);have p:=(h.kr.chg (c.trans n));rw[eka] at p⊢;have C:Xl P.heap.size 3 1 w4 (.slice (some ⟨b4,0,none⟩) 0 0) 0 []:=Xl.empty (by omega) Q;refine Xa.append (base:=P.heap.size) (xs:=[]) (news:=r.keep.map (Value.int .i64)) Xb rfl C n.size (by simp) p.cells Jb ⟨by omega,by show(0+r.keep.length)*8<=_;omega⟩ λv5 w5 F R aj=>ζa ϱ ?_;rw[XS,ZR] at F;have m:=C.since n (XE _) R;obtain⟨q,K,cur,rfl,ak,T,al,am,G⟩:=F.form (by omega);have t:cur.toList=r.keep.map (Value.int .i64)++cur.toList.drop r.keep.length:=by
   have U:=XZ r.keep.length cur.toList;rw[ZK] at G;rw[G] at U;exact U.symm
  obtain⟨rest,D⟩:∃rest,rest=cur.toList.drop r.keep.length:=⟨_,rfl⟩;rw[<-D] at t;have L:w5.heap[q]?=some (.cells (r.keep.map (Value.int .i64)++rest).toArray 3 (0,0)):=by rw[<-t];exact T
  refine ζi j ϱ (ζS ϱ L (Xf2 (x:=keep) (by omega)) ϱ λw6 V u an=>?_);refine ζs (u.heap (m.heap' d) (by omega)) ϱ λw7 y A ao=>?_;have W:(r.keep.set j keep).length=r.keep.length:=XG;obtain⟨r',er⟩:∃r':SR,r'={r with keep:=r.keep.set j keep,ka:=some ⟨q,0,none⟩,kcap:=K}:=⟨_,rfl⟩;replace y:Zg w7 b r':=by
   rw[er];unfold Zg Zv;simp only[W];exact y
  refine ζl y ϱ (ζs (A.heap (u.heap (m.heap' i) (by omega)) (by omega)) ϱ λM N H ap=>?_);have I:=H.heap (A.heap V (by omega)) (by omega);have B:=(((c.trans m).since u (λz l e=>by omega)).since A (λz l e=>by omega)).since H (λz l e=>by omega);have a0:Rd .i64 M (some ⟨q,0,none⟩) (r.keep.set j keep):=Rd.of_take I (by simp);have a1:Yj M (some ⟨q,0,none⟩):=λb' off' s' e=>by cases e;exact Xg I
  have hO:X4 M r' {s with keep:=s.keep.set j keep}:=by
   rw[er];exact {(h.grow B) with kr:=a0,ke:=by show r.keep.set j keep=s.keep.set j keep;rw[h.ke],lk:=a1}
  have a2:Zs w r r':=⟨by rw[er],by rw[er],λS hS C=>by
   have hk:Xj S (some ⟨q,0,none⟩):=λb' off' s' e l=>by cases e;have:=hS _ l;omega
   rw[er];exact {C with k:=hk}⟩
  exact ζR func46 N ϱ ⟨r',rfl,hO,a2,B⟩
theorem Xcg{c:Conf}{s:StM}(hs:s.Ok c)(ht:0<=s.rm.tot/\s.rm.tot<=999999000000):∀n,n<=16->0<=(tickTo c s n).1.rm.tot/\(tickTo c s n).1.rm.tot<=s.rm.tot+30000*n
 |0,_=>⟨ht.1,by show s.rm.tot<=_;omega⟩
 |n+1,h=>by
  obtain⟨d,f⟩:=Xcg hs ht n (by omega);have a:=StM.OkP.tickTo hs n;have b:=Va a n ⟨d,by omega⟩;rw[Jl];unfold tickK;split
  ·omega
  ·split
   ·exact⟨b.1,by show(Yc c (tickTo c s n).1 n).rm.tot<=_;omega⟩
   ·have e:=Xce (StM.OkP.begin a n) n (tickTo c s n).2 ⟨b.1,by omega⟩;exact⟨e.1,by show(Yo (Yc c (tickTo c s n).1 n) n (tickTo c s n).2).rm.tot<=_;omega⟩
theorem Xlk(h:X4 w r s)(hs:s.Ok r.c)(ht:0<=s.rm.tot/\s.rm.tot<=999999000000):Xf prog 45 #[.agg (Zv r).toArray] w
 (λv w'=>∃r',v=.agg (Zv r').toArray/\Cw w r (C5 r.c s) r' w'):=by
 have ar:=h.mn;have a5:s.mv.length<=16:=by have:=hs.ml;have:=(Yp hs.may).n;omega
 refine ζe func45 ntmps45 ϱ (ζn ϱ λb w1 e1 hb a6 au=>ζn ϱ λqb K e2 N O av=>?_);have P:=O.heap' hb;have l:=a6.trans O;have z2:=l.size;have lq:=Xg N;refine ζl P ϱ ?_;refine Xa.loop (α:=Nat×SR) (λx=>[(1,false,.pointer (some ⟨b,0,none⟩)),(2,false,.pointer (some ⟨qb,0,none⟩)),(3,false,.int .i64 (tickTo r.c s x.1).2),(4,false,.int .i64 x.1)])
  (λx w'=>x.1<=s.mv.length/\Zg w' b x.2/\X4 w' x.2 (tickTo r.c s x.1).1/\Zs K r x.2/\Xc (λz=>z=b) K w') (λx=>s.mv.length-x.1) (0,r) ⟨rfl,rfl,rfl,rfl,trivial⟩ ⟨by omega,P,h.grow l,.refl _ _,Xc.refl _ _⟩ ?_
 rintro⟨k,rk⟩ w5 ⟨n,i,A,a,u⟩ ih;simp only at n i A a
 obtain⟨b1,b2,b3,b4⟩:=Sv hs k;have aw:(tickTo r.c s (k,rk).fst).snd=(tickTo r.c s k).2:=rfl;have B:=StM.OkP.tickTo hs k;have tsucc:=Jl r.c s k;have Q:=Xcg hs ht k (by omega);have o:=l.since u (λz C e=>by omega);have D:=u.heap N (by omega);have R:∀{w':World} {x:SR},Xc Xe w w'->Zs K r x->Ys w' x.c x.cp:=λhc n=>by have:=h.conf.chg hc;rw[n.1,n.2.1];exact this
 have S:∀{x:SR},Zs K r x->Am (λz=>z=b) x:=λn=>n.2.2 _ (λz e=>by omega) (h.out λz e=>by omega);have ax:=A.mn;refine ζa ϱ (ζl i ϱ ?_);by_cases T:k<s.mv.length
 ·refine ζy ϱ ?_;by_cases W:(tickTo r.c s k).2<1
  ·have e:C5 r.c s=(tickTo r.c s k).1:=by
    unfold C5;obtain⟨d,hd⟩:=Nat.exists_eq_add_of_le n;rw[hd,Xcc W d]
   rw[e];refine ζy ϱ (ζl i ϱ (ζs D ϱ λw6 p j a9=>?_));have f:=o.since j (λz C e=>by omega);exact ζR func45 p ϱ ⟨rk,rfl,h.box a A (by omega) (by omega) j f,a.back z2,f⟩
  ·refine ζf ϱ (ζl i ϱ ?_);have U:=XfE A (by rw[a.1];exact B) k (by omega) ⟨Q.1,by omega⟩;rw[a.1] at U;refine ζc ϱ (U) ?_;rintro _ w6 ⟨r6,rfl,h6,aa,E⟩;refine ζa ϱ (ζs (E.heap' i) ϱ λw7 V F ay=>?_);have g:=a.trans aa u.size;have G:=(o.trans E).since F (λz C e=>by omega);have h7:=h6.far (S g) (R G g) F;have a0:(Yc r.c (tickTo r.c s k).1 k).mv.length<=16:=by rw[(Kk r.c _ k).2.2.2,b2];exact a5
   refine ζl V ϱ (ζv (K0 h7 a0 (k:Nat)) ϱ λw8 y=>?_);have H:=y.heap' V;have h8:=h7.grow y;have I:=((u.trans E.gr).trans F).trans y.gr;cases hm:Xt (Yc r.c (tickTo r.c s k).1 k) (k:Nat) with
   |none=>
    have et:tickTo r.c s (k+1)=(Yc r.c (tickTo r.c s k).1 k,(tickTo r.c s k).2):=by rw[tsucc];unfold tickK;rw[if_neg W,hm]
    refine ζf ϱ (ζj ϱ (ih (k+1,r6) _ _ ⟨T,H,by rw[et];exact h8,g,I⟩ (by simp only;omega) ?_));rw[et];exact⟨rfl,rfl,rfl,rfl,trivial⟩
   |some m=>
    obtain⟨k',ek',az,ad⟩:=Qr hm;obtain rfl:k=k':=by omega
    have et:tickTo r.c s (k+1)=(Yo (Yc r.c (tickTo r.c s k).1 k) k (tickTo r.c s k).2,(tickTo r.c s k).2-Z1 m (tickTo r.c s k).2):=by rw[tsucc];unfold tickK;rw[if_neg W,hm]
    have b0:(Z1 m (tickTo r.c s k).2:Int)<=(tickTo r.c s k).2:=by unfold Z1 Du;omega
    have ae:=Va B k ⟨Q.1,by omega⟩;refine ζy ϱ (ζl H ϱ (ζc ϱ (Xbv h8 (by rw[g.1];exact(StM.OkP.begin B k)) ad (tickTo r.c s k).2 ⟨ae.1,by omega⟩) ?_));rintro _ w9 ⟨r9,rfl,h9,af,J⟩;refine ζa ϱ (ζn ϱ λyb b5 b6 L a2 ao=>ζs L ϱ λb7 M a3 ap=>?_);have c:=a2.since a3 (λz C e=>by omega);have q:=g.trans af I.size;refine ζl M ϱ (ζs ((J.trans c).heap' H) ϱ λb8 a4 t aq=>?_);refine ζj ϱ (ζj ϱ (ih (k+1,r9) _ _ ⟨T,a4,by rw[et];exact((h9.grow c).far (S q) (R ((((G.trans y).trans J).trans c).since t (λz C e=>by omega)) q) t),q,((I.trans ((J.trans c).gr)).trans t)⟩ (by simp only;omega) ?_));rw[et];exact⟨rfl,rfl,rfl,rfl,trivial⟩
 ·refine ζf ϱ ?_;have e:C5 r.c s=(tickTo r.c s k).1:=by unfold C5;rw[show s.mv.length=k by omega]
  rw[e];refine ζl i ϱ (ζs D ϱ λw6 p j a9=>?_);have f:=o.since j (λz C e=>by omega);exact ζR func45 p ϱ ⟨rk,rfl,h.box a A (by omega) (by omega) j f,a.back z2,f⟩
theorem XmU{l:List (Option ThM)}(h:k<l.length):Ze (l.take (k+1))=Ze (l.take k)++(match l[k] with|some t=>[t.size]|none=>[]):=by
 unfold Ze;rw[List.take_succ_eq_append_getElem h,List.filterMap_append]
 congr 1
 cases l[k] <;> rfl
theorem Xb7(l:List (Option ThM)):(Ze l).length<=l.length:=List.length_filterMap_le _ _
theorem Xbw(h:X4 w r s)(hs:s.OkP c pd):Xf prog 18 #[.agg (Zv r).toArray] w
 (λv w'=>Xl w.heap.size 3 1 w' v (Ze s.th).length ((Ze s.th).map (Value.int .i64))/\Xc Xe w w'):=by
 have H:maxLen=9223372036854775807:=rfl;have I:=h.tn;have J:=Jj hs;refine ζe func18 ntmps18 ϱ (ζn ϱ λb p e1 D i K=>?_);refine Xa.loop (α:=Nat×Value) (λx=>[(1,false,.pointer (some ⟨b,0,none⟩)),(3,false,x.2),(4,false,.int .i64 x.1)])
  (λx w'=>x.1<=s.th.length/\Xl p.heap.size 3 1 w' x.2 (Ze (s.th.take x.1)).length ((Ze (s.th.take x.1)).map (Value.int .i64))/\Xc Xe p w') (λx=>s.th.length-x.1) (0,.slice none 0 0) ⟨rfl,rfl,rfl,trivial⟩ ⟨by omega,⟨rfl,.inl ⟨rfl,rfl⟩⟩,Xc.refl _ _⟩ ?_
 rintro⟨k,v⟩ N ⟨E,j,f⟩ ih;simp only at E j
 have l:=f.heap' D;refine ζa ϱ (ζl l ϱ ?_);by_cases a:k<s.th.length
 ·have q:k<r.ts.length:=by omega
  obtain⟨u,O,off,ea,d⟩:=((h.grow i).grow f).trow q;have et:Bt s (k:Nat)=s.th[k]:=by
   unfold Bt;rw[if_pos (by omega),XA,XC,XB a];rfl
  have g:=XmU a;refine ζy ϱ (ζl l ϱ ?_);rw[ea];refine ζi (k*5) ϱ (ζk ϱ (d 0 _ rfl) ϱ ?_);rw[u.1,et];cases n:s.th[k] with
  |none=>
   rw[n,YB] at g;refine ζf ϱ (ζj ϱ ?_);refine ih (k+1,v) _ _ ⟨a,by rw[g];exact j,f⟩ (by simp only;omega) ⟨rfl,rfl,rfl,trivial⟩
  |some t=>
   rw[n] at g;simp only at g
   have P:=XbW hs (et.trans n);have y:r.ts[k].size=t.size:=by rw[u.1,et,n];rfl
   refine ζY ϱ (decide_eq_true (show t.size>0 by omega)) (ζl l ϱ ?_);rw[ea];refine ζi (k*5) ϱ (ζk ϱ (d 0 _ rfl) ϱ ?_);rw[y];refine Xa.buildSlice Xb rfl λQ R e3 A m L=>ζa ϱ ?_;have o:=j.chg m (λ_ _=>id);have F:(Ze (s.th.take k)).length<=4096:=by have:=Xb7 (s.th.take k);have S:(s.th.take k).length<=k:=List.length_take_le _ _;omega
   refine Xa.append (base:=p.heap.size) (xs:=(Ze (s.th.take k)).map (Value.int .i64)) (news:=[.int .i64 t.size]) Xb rfl o ((f.trans m).size) (by simp) (Gl A) (by simp[Value.oneCell']) ⟨by omega,by show((Ze (s.th.take k)).length+1)*8<=_;omega⟩ λG T B C M=>ζa ϱ (ζj ϱ ?_);have eL:(Ze (s.th.take (k+1))).length=(Ze (s.th.take k)).length+1:=by rw[g,XO];rfl
   have eM:(Ze (s.th.take (k+1))).map (Value.int .i64)=(Ze (s.th.take k)).map (Value.int .i64)++[.int .i64 t.size]:=by rw[g,XI];rfl
   refine ih (k+1,G) _ _ ⟨a,by simp only;rw[eL,eM];exact B,((f.trans m).since C (λz U e=>by have:=(World.ownsRow.lt o _ e.symm).1;omega))⟩ (by simp only;omega) ⟨rfl,rfl,rfl,trivial⟩
 ·refine ζf ϱ ?_;have e:s.th.take k=s.th:=ZE (by omega);rw[e] at j;exact ζr func18 ϱ ⟨j.from' (by have:=i.size;omega),i.trans f⟩
theorem Xl.ints{m:Nat}{x:List Int}(h:Xl base 3 1 w v m (x.map (Value.int .i64)))(hm:x.length=m):∃a cap,v=.slice a m cap/\Rd .i64 w a x:=by
 rcases h.2 with⟨rfl,c⟩|⟨g,cap,cur,rfl,i,d,e,f,_,b⟩
 ·subst c;have:x=[]:=List.length_eq_zero_iff.1 hm;subst this;exact⟨none,0,rfl,Rd.nil _ _ _⟩
 ·exact⟨_,cap,rfl,Rd.of_take d (by rw[hm];rw[ZK] at b;exact b)⟩
end Go.Proofs.YtohjeeapehmkcaaGreatDoor
