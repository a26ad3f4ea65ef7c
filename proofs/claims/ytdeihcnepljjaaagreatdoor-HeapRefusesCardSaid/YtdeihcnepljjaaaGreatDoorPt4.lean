/-
  Texts put together: Slices3, Plc, Room4, Room5, Room6, Flat, Ref20, Ref20b, Ref20c, Ref20d, Ref3, Ref20e, Ref20f.
-/
import Derived.Test.YtdeihcnepljjaaaGreatDoorPt3
import Derived.Test.YtdeihcnepljjaaaGreatDoorQRule17
import Derived.Test.YtdeihcnepljjaaaGreatDoorQRule18
import Derived.Test.YtdeihcnepljjaaaGreatDoorQRule19
set_option linter.unusedVariables false
set_option maxRecDepth 100000
namespace Go.Proofs.YtdeihcnepljjaaaGreatDoor
open Go.RowKit
open Go renaming World→dD,Value→dE,Addr→dF
open Bool renaming and_eq_true->XK,and_false->YE,true_and->YJ,false_and->YZ
open Int renaming toNat_natCast->XB,eq_ofNat_of_zero_le->XE,mul_le_mul->ZG,mul_nonneg->ZJ,ediv_nonneg->YM,ediv_le_self->QI
open List renaming getD_eq_getElem?_getD->XA,getElem?_eq_some_iff->XC,getElem?_eq_getElem->XD,length_set->XG,getElem?_set_self->XH,length_replicate->XI,getElem?_set_ne->XJ,map_append->XL,getElem_mem->XM,getElem?_map->XN,length_cons->XO,nodup_append->XR,mem_append->XS,length_map->XV,mem_of_getElem?->XW,length_take->XX,take_append_drop->XY,getElem?_append_left->XZ,mem_cons->ZB,length_append->ZC,take_add_one->ZH,take_length->ZL,length_range->ZM,mem_or_eq_of_mem_set->ZO,nil_append->ZS,drop_eq_getElem_cons->ZV,flatMap_cons->ZY,length_eq_zero_iff->YB,getElem?_append_right->YD,mem_singleton->YH,take_of_length_le->YP,getElem?_toArray->YW,nodup_nil->YX,range_succ->QB,any_eq_false->QE,append_nil->QP,any_eq_true->QS,length_tail->QT,getElem_of_mem->QU,mem_filter->QX
open Nat renaming le_refl->XF,zero_le->XQ,zero_add->XT,mul_one->ZQ,add_assoc->YR,div_add_mod->QA,mul_comm->QC,mod_lt->QJ
open Option renaming map_eq_some_iff->QK,map_some->QY
open Go.Proofs.Tryz (func118 func128 func132 func133 func145 func146 func147 func148 func154 func156 func162 func176 func196 func205 func216 func220 func221 func227 func275 func28 func74 func89 func92 func93 ntmps118 ntmps128 ntmps132 ntmps133 ntmps145 ntmps146 ntmps147 ntmps148 ntmps154 ntmps156 ntmps162 ntmps176 ntmps196 ntmps205 ntmps216 ntmps220 ntmps221 ntmps227 ntmps275 ntmps28 ntmps74 ntmps89 ntmps92 ntmps93 prog)
variable {c:Conf}{l':IL}{ahead by' cS h cH size cN u who z:Int}{lg:List (Nat×List Nat)}{ps:List IL}{bs l p zs:List Int}{l2 ws:List Nat}{cs rest xs:List dE}{N at' b base cap d fuel g i j k lm lo m n o qb sz t tm ty vb xb y:Nat}{fz:Nat×Nat}{f:Nat->Int}{G:Nat->Pg}{B C F F' Fr Q S S' T X:Nat->Prop}{pd pd2:Option (Nat×PlcM)}{a:Option dF}{pg:PgL}{pl':PlM}{R:Rm}{M:RmM}{x x':Sm}{α:Type}{v:dE}{w w' w'' w0 w1 w2:dD}{cells:α->List dE}
theorem Xm5(k:Nat)(w:dD)(hk:0<k)(hb:k<=1048576):Xf prog 275 #[.slice none 0 0,.int .i64 (k:Int)] w
 (λv w'=>Xl w.heap.size 3 1 w' v 0 []/\Xc Xe w w'/\v.ownBlock=some w.heap.size/\v≠.slice none 0 0):=by
 refine aR func275 ntmps275 aA (aS aA (Xa.cap Xb rfl (aN aA (aV aA (aV aA (bI aA (Xa.cap Xb rfl (aN aA ?_))))))));rw[show(k:Int)-(((0:Nat):Int)-((0:Nat):Int))=(k:Nat) from by omega];refine Xa.slice Xb rfl (l:=0) (h:=0) (by first|rfl|omega|simp[Dw]) (by first|rfl|omega|simp[Ds]) (by omega) (by omega) rfl (Xa.appendZ (k:=k) Xb rfl hk (by show k*8<=_;omega) (by omega) λcap cur i a d f b c g=>aN aA (Xa.slice Xb rfl (l:=0) (h:=0) (by first|rfl|omega|simp[Dw]) (by first|rfl|omega|simp[Ds]) (by omega) (by omega) rfl ?_));have es:Aa (some ⟨w.heap.size,0,none⟩) cap 0 1=some ⟨w.heap.size,0,none⟩:=by
  unfold Aa;split
  .omega
  .rfl
 show Xa _ _ _ _ _ _ ((4,false,.slice (Aa (some ⟨w.heap.size,0,none⟩) cap 0 1) 0 cap)::_) _
 rw[es];exact bE func275 aA ⟨⟨rfl,.inr ⟨w.heap.size,cap,cur,rfl,XF _,c,by omega,b,by omega,by simp⟩⟩,a,rfl,by simp⟩
structure Sl where
 a:Option dF
 cap:Nat
 x:List Int
abbrev slV(l:Sl):dE:=.slice l.a l.x.length l.cap
def C3(ls:List Sl):List Int:=(ls.map (·.x)).flatten
theorem Xat{ls:List Sl}(h:i<ls.length):C3 (ls.take (i+1))=C3 (ls.take i)++ls[i].x:=by
 unfold C3;rw[ZH,XD h,XL,List.flatten_append]
 simp
theorem XdH(ls:List Sl)(i:Nat):(C3 (ls.take i)).length<=(C3 ls).length:=by
 have:C3 ls=C3 (ls.take i)++C3 (ls.drop i):=by
  unfold C3;rw[<-List.flatten_append,<-XL,XY]
 rw[this,ZC];omega
theorem Xm2(ob:Nat)(ls:List Sl)(w:dD)(h:∀i (hi:i<ls.length),w.cell? ⟨ob,i,none⟩=some (slV ls[i]))(hr:∀l∈ls,Rd .i64 w l.a l.x)(hn:ls.length<=1024)(hpos:0<(C3 ls).length)(hb:(C3 ls).length<=1048576):Xf prog 227 #[.slice (some ⟨ob,0,none⟩) ls.length ls.length] w
 (λv w'=>∃g c,v=.slice (some ⟨g,0,none⟩) (C3 ls).length c/\w.heap.size<=g/\Rd .i64 w' (some ⟨g,0,none⟩) (C3 ls)/\Xc Xe w w'):=by
 have M:maxLen=9223372036854775807:=rfl;refine aR func227 ntmps227 aA ?_;refine Xa.loop (α:=Nat) (λk=>[(0,false,.slice (some ⟨ob,0,none⟩) ls.length ls.length),(3,false,.int .i64 (C3 (ls.take k)).length),(9,false,.slice (some ⟨ob,0,none⟩) ls.length ls.length),(10,false,.int .i64 ls.length),(11,false,.int .i64 k)])
  (λk w'=>w'=w/\k<=ls.length) (λk=>ls.length-k) 0 ⟨rfl,rfl,rfl,rfl,rfl,trivial⟩ ⟨rfl,XQ _⟩ ?_
 rintro k m ⟨G,P⟩ ih;subst G;refine aN aA (aT aA (λr=>?_) λr=>?_)
 .have a:k<ls.length:=by simpa using r
  have t:=XdH ls (k+1);have q:=congrArg List.length (Xat a);rw[ZC] at q;refine aU k aA (aW aA (show m.cell? ⟨ob,0+k,none⟩=_ from by rw[XT];exact h k a) aA (aV aA (aS aA (aV aA ?_))));exact ih (k+1) _ _ ⟨rfl,a⟩ (by omega) ⟨rfl,congrArg (λz=>some (Value.int .i64 z)) (show((C3 (ls.take k)).length:Int)+(ls[k].x.length:Int)=((C3 (ls.take (k+1))).length:Int) from by rw[q];omega),rfl,rfl,rfl,trivial⟩
 .have n:k=ls.length:=by simp at r;omega
  subst n;rw[ZL];refine aP aA (Xm5 (C3 ls).length m hpos hb) ?_;rintro v Q ⟨H,x,N,y⟩;refine aN aA ?_;refine Xa.loop (α:=Nat×dE) (λp=>[(6,false,p.2),(25,false,.slice (some ⟨ob,0,none⟩) ls.length ls.length),(26,false,.int .i64 ls.length),(27,false,.int .i64 p.1)])
   (λp w'=>p.1<=ls.length/\Xl m.heap.size 3 1 w' p.2 (C3 (ls.take p.1)).length ((C3 (ls.take p.1)).map (Value.int .i64))/\p.2≠.slice none 0 0/\Xc Xe m w') (λp=>ls.length-p.1) (0,v) ⟨rfl,rfl,rfl,rfl,trivial⟩ ⟨XQ _,H,y,x⟩ ?_
  rintro⟨i,u⟩ I ⟨hi,d,A,f⟩ ih;simp only at hi d A
  refine aN aA (aT aA (λs=>?_) λs=>?_)
  .have a:i<ls.length:=by simpa using s
   have t:=XdH ls (i+1);have q:=congrArg List.length (Xat a);rw[ZC] at q;have o:=(hr ls[i] (XM a)).bR f;refine aU i aA (aW aA (show I.cell? ⟨ob,0+i,none⟩=_ from by rw[XT];exact f.cell (h i a) id) aA ?_);refine Xa.appendA (base:=m.heap.size) (xs:=(C3 (ls.take i)).map (Value.int .i64)) (news:=ls[i].x.map (Value.int .i64)) Xb rfl d f.size (λe=>by
    by_cases J:0<ls[i].x.length
    .obtain⟨b,off,e',_⟩:=o 0 J;rw[e] at e';cases e'
    .omega) (by simp) (λj u B=>by
    have O:j<ls[i].x.length:=by have:=(XC.1 B).1;simpa using this
    obtain⟨b,off,e',_⟩:=o 0 (by omega);exact⟨_,e',(Rd.cells (e'▸o)) j u B⟩) J1 ⟨by omega,by show(_+_)*8<=_;omega⟩ ?_
   intro u' R C D E;exact aN aA (aV aA (ih (i+1,u') _ _ ⟨a,by rw[Xat a,ZC,XL];exact C,λe=>A (E.1.1 e).1,d.bU f (XF _) D⟩ (by simp only;omega) ⟨rfl,rfl,rfl,rfl,trivial⟩))
  .have n:i=ls.length:=by simp at s;omega
   subst n;rw[ZL] at d;obtain⟨g,c,cur,rfl,K,L,S,T,F⟩:=d.form hpos;exact bE func227 aA ⟨g,c,rfl,K,Rd.of_take L (by rw[ZQ] at F;exact F),f⟩
structure Plc where
 cL:Int
 cR:Int
 idx:Int
 pa:Option dF
 pc:Nat
 bS:List Int
def Xv(q:Plc):List dE:=[.int .i64 q.cL,.int .i64 q.cR,.int .i64 q.idx,.slice q.pa q.bS.length q.pc]
structure Zp(w:dD)(q:Plc):Prop where
 rd:Rd .i64 w q.pa q.bS
 len:q.bS.length<=9223372036854775807
abbrev Je(w:dD)(b:Nat)(q:Plc):Prop:=w.heap[b]?=some (.cells (Xv q).toArray 83 (0,0))
theorem Zp.bQ{q:Plc}(h:Zp w q)(hc:Xc Xe w w'):Zp w' q:=⟨h.rd.bR hc,h.len⟩
variable {q:Plc}
theorem Eh.put{r:List Nat}(h:Eh F w lm lg)(hc:Xc (λz=>z=lm) w w')(hm':∀m,Yx w lm m->Yx w' lm (C2 m n (.slice a r.length cap)))(hnew:∀e∈lg,e.1≠n)(hr:Rd .i64 w' a (X4 r))(hmine:L3 F w' a):Eh F w' lm (lg++[(n,r)]):=by
 have l:=Ig h;obtain⟨m,o,p,q,i⟩:=h;have c:=i n λe he e'=>hnew e he (by omega);refine⟨_,hm' m o,?_,λe he=>?_,λk d=>?_⟩
 .rw[W0,bJ (Td.1 c)];exact XR.2 ⟨p,by simp,λx t y j e=>by
   rw[YH] at j;subst j;subst e;exact Td.1 c t⟩
 .rcases XS.1 he with he|he
  .obtain⟨a',cap',u,v,g⟩:=q e he;have f:∀b off s,a'=some ⟨b,off,s⟩->b≠lm:=λb off s e'=>Xs (g b off s e').1 l (by simp);refine⟨a',cap',by rw[Js,bJ (by have:=hnew e he;omega)];exact u,v.bW f hc,λb off s e'=>⟨Gz hc (g b off s e').1 (f b off s e'),(g b off s e').2⟩⟩
  .rw[YH] at he;subst he;exact⟨a,cap,by rw[Js,bK rfl],hr,hmine⟩
 .rw[Js,bJ (λe=>d (n,r) (by simp) e.symm)];exact i k λe he=>d e (by simp[he])
theorem Eh.del(h:Eh F w lm lg)(hc:Xc (λz=>z=lm) w w')(hm':∀m,Yx w lm m->Yx w' lm (Dp m n)):Eh F w' lm (Dv lg n):=by
 have j:=Ig h;obtain⟨m,l,c,o,p⟩:=h;refine⟨_,hm' m l,by rw[Wy];exact c.erase _,λe d=>?_,λk g=>?_⟩
 .obtain⟨d,a⟩:=QX.1 d;have q:e.1≠n:=by simpa using a
  obtain⟨a',cap',r,t,f⟩:=o e d;have a:∀b off s,a'=some ⟨b,off,s⟩->b≠lm:=λb off s e'=>Xs (f b off s e').1 j (by simp);exact⟨a',cap',by rw[L6 c,bJ (by omega)];exact r,t.bW a hc,λb off s e'=>⟨Gz hc (f b off s e').1 (a b off s e'),(f b off s e').2⟩⟩
 .rw[L6 c];by_cases e:k=n
  .rw[bK e]
  .rw[bJ e];refine p k λe' i e2=>?_;by_cases e3:e'.1=n
   .exact e (by omega)
   .exact g e' (QX.2 ⟨i,by simpa using e3⟩) e2
theorem XmX{l:Nat}{off:Nat}{s}(h:Aa a cap l sz=some ⟨b,off,s⟩):∃off' s',a=some ⟨b,off',s'⟩:=by
 unfold Aa at h;by_cases c:cap=l
 .rw[bK c] at h;exact⟨off,s,h⟩
 .rw[bJ c] at h;cases a with
  |none=>cases h
  |some x=>
   obtain⟨xb,xo,xs⟩:=x;simp only[QY,Option.some.injEq] at h;have:xb=b:=by
    have:=congrArg Addr.block h;unfold Addr.add at this;split at this <;> exact this
   subst this;exact⟨xo,xs,rfl⟩
theorem Xbp{l:List Nat}(h:Xl base 3 1 w v m ((X4 l).map (Value.int .i64)))(hm:l.length=m)(hp:0<m):∃g cap,v=.slice (some ⟨g,0,none⟩) m cap/\base<=g/\m<=cap/\cap<=maxLen/\kd w g=some (some 3)/\Rd .i64 w (some ⟨g,0,none⟩) (X4 l):=by
 obtain⟨g,cap,cur,e,c,a,d,f,b⟩:=h.form hp;have i:(X4 l).length=m:=by unfold X4;rw[XV];exact hm
 exact⟨g,cap,e,c,d,f,X1 a,Rd.of_take a (by rw[i];rw[ZQ] at b;exact b)⟩
theorem Xe8(l r:List Nat):X4 (l++r)=X4 l++X4 r:=by unfold X4;rw[XL]
theorem Er(l:List Nat):(X4 l).length=l.length:=by unfold X4;rw[XV]
def XhV(F:Nat->Prop)(w w':dD)(R:Rm)(M:RmM)(q:Plc):Prop:=∃F',Zn F' w' R M/\(∀z,F' z->F z\/w.heap.size<=z)/\Xc F w w'/\Zp w' q/\Xj F' q.pa/\∀b off s,q.pa=some ⟨b,off,s⟩->w.heap.size<=b/\kd w' b=some (some 3)
def Xx(q:Plc):PlcM:=⟨q.cL,q.cR,q.idx,q.bS⟩
theorem Xms(h:Zn F w R M)(who size:Int):Xf prog 176 #[Cl R,.int .i64 who,.int .i64 size] w
 (λv w'=>∃q:Plc,v=.tuple #[.agg (Xv q).toArray,.int .i64 (C7 R.c M who size)]/\Xx q=Bz R.c M who size/\XhV F w w' R (Av R.c M who size) q):=by
 have d8:maxLen=9223372036854775807:=rfl;have hf:=Ye h.may;have d9:=hf.size;have da:=hf.n;have db:=hf.cH;have noq:∀{F':Nat->Prop} {w':dD} (c i j:Int),Zp w' ⟨c,i,j,none,0,[]⟩/\Xj F' none/\∀b off s,(none:Option dF)=some ⟨b,off,s⟩->w.heap.size<=b/\kd w' b=some (some 3):=λc i j=>⟨⟨Rd.nil _ _ _,by simp⟩,⟨(λ_ _ _ e=>by cases e),(λ_ _ _ e=>by cases e)⟩⟩;refine aR func176 ntmps176 aA (bC aA λb w1 e1 hb O dc=>?_);have A:¬F b:=λd=>by have:=h.low b d;omega
 have bk:Xc F w w1:=O.gr;by_cases C:who<0
 .have ac:C7 R.c M who size=1/\Bz R.c M who size=⟨0,0,0,[]⟩/\Av R.c M who size=M:=by
   unfold C7 Bz Av;rw[bK C,bK C,bK C];exact⟨rfl,rfl,rfl⟩
  rw[ac.1,ac.2.1,ac.2.2];refine bI aA (aO aA (bF hb aA λD P ad dd=>?_));have h2:=h.note (h.bQ O) (X1 hb) (by omega) A ad (by decide);exact aK func176 P aA ⟨⟨0,0,0,none,0,[]⟩,rfl,rfl,F,h2,λz d=>.inl d,bk.sn ad,noq 0 0 0⟩
 .refine aS aA (bG (Xgj (h.bQ O) size) aA λD ae=>?_);have h2:=(h.bQ O).bQ ae;have P:=ae.bP hb;have af:=O.trans ae;by_cases n:Qg R.c M size=0
  .have bm:¬(size<1\/R.c.cH<size)/\Di R.c M size<=M.pl.free.length:=by
    unfold Qg at n;split at n
    .cases n
    .split at n
     .cases n
     .refine⟨by assumption,by omega⟩
   have J:¬(Qg R.c M size≠0):=λh=>h n;refine aI aA (by rw[n];rfl) (bB h2.obj aA (bG (Ob R.p.ca R.p.cc R.c.bT size D h2.cL.1 (by omega)) aA λw3 ag=>?_));have o:=h2.bQ ag;have Q:=ag.bP P;have a1:=af.trans ag;by_cases L:Xm R.c.bT size=-1
   .have G:C7 R.c M who size=0/\Bz R.c M who size=⟨-1,(M.pl.free.getD 0 0:Nat),0,X4 (M.pl.free.take (Z9 size R.c.size).toNat).tail⟩/\Av R.c M who size=Ev M (Z9 size R.c.size).toNat:=by
     exact⟨by unfold C7;rw[bJ C,bJ J,bK L],by unfold Bz;rw[bJ C,bJ J,bK L],by unfold Av;rw[bJ C,bJ J,bK L]⟩
    rw[G.1,G.2.1,G.2.2];have co:Di R.c M size=Z9 size R.c.size:=by unfold Di;rw[bK L]
    have de:2<=Z9 size R.c.size:=by
     have h0:0<=(size-1)/R.c.size:=YM (by omega) (by omega);have h9:(size-1)/R.c.size<=size-1:=QI _ (by omega);have e4:Qp size R.c.size=(size-1)/R.c.size+1:=by unfold Qp;rw[bJ (by omega)]
     unfold Z9;rw[e4,bJ (by omega)];omega
    obtain⟨many,b3⟩:=XE (show 0<=Z9 size R.c.size by omega);have df:2<=many:=by omega
    have K:many<=M.pl.free.length:=by have:=bm.2;omega
    have dg:M.pl.free.length<=1024:=by have:=h.pool.cV.many;have:=h.pool.cV.len;omega
    refine aI aA (by rw[L];rfl) (bB o.obj aA (bH (XdI size R.c.size w3 (by omega)) aA ?_));rw[b3,XB];have ah:¬Ax R.P R.rb:=λd=>h.rf (h.pf _ d);refine Xa.loop (α:=Nat×dE) (λp=>[(0,false,Cl R),(6,false,.pointer (some ⟨b,0,none⟩)),(13,false,p.2),(58,false,.int .i64 many),(59,false,.int .i64 p.1)])
     (λp w'=>p.1<=many/\Xl w3.heap.size 3 1 w' p.2 p.1 ((X4 (M.pl.free.take p.1)).map (Value.int .i64))/\Z2 w' R.P (Az M.pl (M.shs.length:Nat) p.1)/\Xc (Ax R.P) w3 w') (λp=>many-p.1) (0,.slice none 0 0) ⟨rfl,rfl,rfl,rfl,rfl,trivial⟩ ⟨XQ _,⟨rfl,.inl ⟨rfl,rfl⟩⟩,o.pool,Xc.refl _ _⟩ ?_
    rintro⟨i,v⟩ w4 ⟨hi,a4,ai,r⟩ ih;simp only at hi a4 ai
    refine aN aA (aT aA (λaj=>?_) λaj=>?_)
    .have bz:i<many:=by simpa using aj
     have ba:i<M.pl.free.length:=by omega
     obtain⟨q1,q2,q3,q4,q5⟩:=Mz (who:=(M.shs.length:Nat)) (by omega) h.pool.cV i (by omega);have b4:(Az M.pl (M.shs.length:Nat) i).free=M.pl.free[i]::M.pl.free.drop (i+1):=by rw[q2];exact ZV ba
     obtain⟨t1,t2,t3⟩:=Xbz (who:=(M.shs.length:Nat)) (by omega) b4;have hn:=h.ok.n;have E:=r.heap o.obj ah;refine aQ 16 (Ax R.P) (by kernel_rfl) aA λf=>aE f E aA (aE f E aA (Xd.cK f rfl λw5 t=>?_));have hd:=XbC R.P _ (M.shs.length:Nat) w5 (ai.bQ t);rw[t1,t2] at hd;rw[hn] at hd;refine Xn.call rfl hd.fn (Post:=λv D=>v=.tuple #[.int .i64 (M.pl.free[i]:Nat),.int .i64 0]/\Z2 D R.P (Az M.pl (M.shs.length:Nat) (i+1))/\Xc (Ax R.P) w5 D) (λh0=>hd.mono λv D hp=>⟨h0.trans hp.2.2,hp.1,by rw[hn];exact hp.2.1,hp.2.2⟩) ?_;rintro _ w6 _ ⟨rfl,al,u⟩;refine Xd.adv Xb f rfl (aF f aA λw7 B=>Xa.buildSlice Xb rfl λb8 T e8 U bb dh=>aN aA ?_);have a3:Xc (Ax R.P) w4 T:=((t.gr.trans u).trans B.gr).trans bb.gr;have cv:=o.pool.lt;have a5:=a4.bR a3 (λz d hP=>by
      have di:=(World.ownsRow.lt a4 z d.symm).1;rcases hP with e|e <;> omega)
     have bo:w3.heap.size<=T.heap.size:=(r.trans a3).size;refine Xa.append (base:=w3.heap.size) (xs:=(X4 (M.pl.free.take i)).map (Value.int .i64)) (news:=[.int .i64 (M.pl.free[i]:Nat)]) Xb rfl a5 bo (by simp) (Gv U) (by simp[Value.oneCell']) ⟨by omega,by show(i+1)*8<=_;omega⟩ λv9 w9 c6 bc dj=>aN aA (aV aA ?_);exact ih (i+1,v9) _ _ ⟨bz,by
      have e:(X4 (M.pl.free.take (i+1))).map (Value.int .i64)=(X4 (M.pl.free.take i)).map (Value.int .i64)++[.int .i64 (M.pl.free[i]:Nat)]:=by
       rw[ZH,XD ba,Xe8,XL];rfl
      rw[e];exact c6,(al.bQ (B.trans bb)).bR bc (λe=>by have:=(World.ownsRow.lt a5 _ e.symm).1;omega) (λe=>by have:=(World.ownsRow.lt a5 _ e.symm).1;omega),(r.trans a3).bU bc (λz d e=>by have:=(World.ownsRow.lt a5 z e.symm).1;omega)⟩ (by simp only;omega) ⟨rfl,rfl,rfl,rfl,rfl,trivial⟩
    .have bp:i=many:=by simp at aj;omega
     subst bp;have am:(M.pl.free.take i).length=i:=by rw[XX];omega
     obtain⟨g,cap,rfl,hg,cz,dk,c7,bd⟩:=Xbp a4 am (by omega);have a6:¬F g:=λd=>by have:=o.low g d;omega
     have V:∀{w':dD},Rd .i64 w' (some ⟨g,0,none⟩) (X4 (M.pl.free.take i))->w'.cell? ⟨g,0+0,none⟩=some (.int .i64 (M.pl.free.getD 0 0:Nat)):=λ{w'} hr=>by
      obtain⟨b',off',e',hc⟩:=hr 0 (by rw[Er];omega);cases e'
      have e:(X4 (M.pl.free.take i)).getD 0 0=((M.pl.free.getD 0 0:Nat):Int):=by
       cases an:M.pl.free with
       |nil=>rw[an] at K;simp at K;omega
       |cons x y=>
        obtain⟨j,rfl⟩:∃j,i=j+1:=⟨i-1,by omega⟩;rfl
      rw[e] at hc;exact hc
     have W:∀{w':dD},Rd .i64 w' (some ⟨g,0,none⟩) (X4 (M.pl.free.take i))->Rd .i64 w' (Aa (some ⟨g,0,none⟩) cap 1 1) (X4 (M.pl.free.take i).tail):=λ{w'} hr=>by
      have:=hr.shift (cap:=cap) (l:=1) (m:=i-1) (by rw[Er];omega) (by rw[Er];omega);have e:((X4 (M.pl.free.take i)).drop 1).take (i-1)=X4 (M.pl.free.take i).tail:=by
       have e1:(X4 (M.pl.free.take i)).drop 1=X4 (M.pl.free.take i).tail:=by unfold X4;rw[List.drop_one,List.map_tail]
       rw[e1];exact YP (by rw[Er,QT];omega)
      rw[e] at this;exact this
     have dl:¬R.rb=R.lm:=λe=>h.rf (e▸h.lf);have be:¬g=R.lm:=λe=>a6 (e▸h.lf);have E:=r.heap o.obj ah;refine aQ 10 (λz=>z=R.lm) (by kernel_rfl) aA λf=>aE f E aA (aB 0 f aA (aD f (V bd) aA (Xd.slice Xb f rfl (l:=1) (h:=i) (by first|rfl|omega|simp[Dw]) (by first|rfl|omega|simp[Ds]) (by omega) (by omega) rfl (Xd.cK f rfl λw5 t=>?_))));have bf:=o.lg.bR r (λz _ d=>.inl (o.pf z d)) (λd=>by
      have kl:=Ig o.lg;have kp:=o.pool.kds;rcases d with e|e
      .exact Xs kl kp.1 (by simp) e
      .exact Xs kl kp.2 (by simp) e)
     have a7:=bf.bR t (λ_ _ h=>h.elim) id;obtain⟨m,hm,_⟩:=a7;have a7:=bf.bR t (λ_ _ h=>h.elim) id;refine Xn.mapset Xb f rfl (hm) (by first|(intro h;exact rfl)|(intro h;omega)) rfl λw6 c9 u dm=>aF f aA λw7 B=>?_;have ao:kd w6 g=some (some 3):=Gz u (Gz t c7 id) be;have ap:Rd .i64 w6 (some ⟨g,0,none⟩) (X4 (M.pl.free.take i)):=(bd.bR t).bW (λb' off s e=>by cases e;exact be) u;have b7:∀{w':dD},kd w' g=some (some 3)->L3 (R.FX F) w' (Aa (some ⟨g,0,none⟩) cap 1 1):=λ{w'} hk b' off s e=>by
      obtain⟨_,_,e'⟩:=XmX e;cases e'
      exact⟨hk,λd=>d.elim a6 (λhx=>by have:=(o.xl _ hx).1;omega)⟩
     have a0:(M.pl.free.take i).tail.length=i-1:=by rw[QT,am]
     have aq:M.pl.free.getD 0 0∈M.pl.free:=by
      cases an:M.pl.free with
      |nil=>rw[an] at K;simp at K;omega
      |cons x y=>simp
     have ca:Eh (R.FX F) w6 R.lm (M.lg++[(M.pl.free.getD 0 0,(M.pl.free.take i).tail)]):=a7.put (cap:=cap-1) (a:=Aa (some ⟨g,0,none⟩) cap 1 1) u (λm' h'=>by
      rw[h'.uniq hm,a0];exact c9) (λe he e'=>by
       have h8:=(h.ok.lg e.1 (I7 he (by simp))).2;have h9:=(h.pool.cV.free _ aq).2;rw[e'] at h8;omega) (W ap) (b7 ao)
     have bg:=Ig a7;have au:=ai.bQ t;have al:Z2 w6 R.P (Az M.pl (M.shs.length:Nat) i):=au.bR u (Xs au.kds.1 bg (by simp)) (Xs au.kds.2 bg (by simp));have cb:=h.ok.big h.pool.cV (show 1<=i by omega) K;have h6:=o.swap (pl':=Az M.pl (M.shs.length:Nat) i) (lg':=M.lg++[(M.pl.free.getD 0 0,(M.pl.free.take i).tail)]) {cb with tot:=h.ok.tot} (((r.mono λ_ _ h=>.inl h).trans t.gr).trans (u.mono λ_ _ h=>.inr h)) al ca (λk x hx cc=>Xfz (by omega) h.pool.cV K (by have:=(h.ok.cI k x hx).1;omega) cc);have h7:=h6.bQ B;refine bB h7.obj aA (aV aA (aV aA (aV aA (aV aA ?_))));rw[show((i:Nat):Int)*4+(((i:Nat):Int)-1)*1=(i:Int)*4+((i:Int)-1) from by omega];refine aP aA (Vc h7 ((i:Int)*4+((i:Int)-1))) ?_;rintro _ T ⟨h8,a8⟩;refine aN aA ?_;replace h8:Zn F T R (Ev M i):=h8;have a9:=r.heap Q (λd=>A (o.pf b d));have ce:=B.bP (u.heap (t.bP a9) (λe=>A (e▸h.lf)));have U:=a8.heap ce A;have av:=(ap.bR B).bW (λb' off s e=>by cases e;exact a6) a8;have br:=Gz a8 (Gz B ao id) a6;have dn:¬g=b:=λe=>by
      have:=X1 U;rw[<-e,br] at this
      revert this;decide
     have d4:=Xg U;have cf:∀w',Xc Xe T w'->Xf prog 115 #[.slice (Aa (some ⟨g,0,none⟩) cap 1 1) (i-1) (cap-1)] w' (λv D=>Xc (λz=>z=b) w' D/\Xc Xe T D/\∃n c2,v=.slice (some ⟨n,0,none⟩) (i-1) c2/\T.heap.size<=n/\Rd .i64 D (some ⟨n,0,none⟩) (X4 (M.pl.free.take i).tail)/\kd D n=some (some 3)):=λw' ax=>by
      have hd:=Xm1 (Aa (some ⟨g,0,none⟩) cap 1 1) (cap-1) (X4 (M.pl.free.take i).tail) w' ((W av).bR ax) (by rw[Er,a0];omega) (by unfold Aa;split <;> exact⟨_,rfl⟩);rw[Er,a0] at hd;exact hd.mono λv D ⟨n,c2,q1,q2,q3,q4,q5⟩=>⟨q5.gr,ax.trans q5,n,c2,q1,by have:=ax.size;omega,q3,q4⟩
     refine aQ 9 (λz=>z=b) (by kernel_rfl) aA λf=>aB 0 f aA (aD f (V av) aA (Xd.slice Xb f rfl (l:=1) (h:=i) (by first|rfl|omega|simp[Dw]) (by first|rfl|omega|simp[Ds]) (by omega) (by omega) rfl (Xd.callQ f rfl rfl (cf) ?_)));rintro _ w9 _ ⟨ay,n,c2,rfl,dp,cg,ch⟩;refine Xd.adv Xb f rfl (Xd.build Xb f rfl rfl (Xd.cK f rfl λdq H=>?_));have az:=(ay.trans H).bP U;refine Xn.store Xb f rfl az (by first|(intro h;exact rfl)|(intro h;omega)) rfl rfl rfl λdr bs N d5=>aF f aA λci I=>?_;have b0:n≠b:=by omega
     have cj:=h.note (h8.bQ (ay.trans H)) (X1 az) (by omega) A N (by decide);have ck:=cj.bQ I;have bt:=I.bP bs;have bu:=(((cg.bR H).bW (S:=λz=>z=b) (λb' off s e=>by cases e;exact b0) N).bR I);have cl:Xc F w T:=(((((a1.gr.trans (r.mono λz _ d=>o.pf z d)).trans t.gr).trans (u.mono λz _ e=>e▸h.lf)).trans B.gr).trans a8);have b9:Xc F w ci:=((cl.trans ((ay.trans H).gr)).sn N).trans I.gr;exact aK func176 bt aA ⟨⟨-1,(M.pl.free.getD 0 0:Nat),0,some ⟨n,0,none⟩,c2,X4 (M.pl.free.take i).tail⟩,by show Value.tuple #[Value.agg _,_]=Value.tuple #[Value.agg (#[_,_,_,Value.slice _ (X4 (M.pl.free.take i).tail).length _]:Array dE),_];rw[Er,a0],rfl,F,ck,λz d=>.inl d,b9,⟨bu,by rw[Er,a0];omega⟩,λb' off s e d=>by cases e;have:=h.low _ d;omega,λb' off s e=>by cases e;exact⟨by omega,Gz I (Gz N (Gz H ch id) b0) id⟩⟩
   .have G:C7 R.c M who size=Gp M (Xm R.c.bT size) who/\Bz R.c M who size=⟨Xm R.c.bT size,Ex M (Xm R.c.bT size) who,Ew M (Xm R.c.bT size) who,[]⟩/\Av R.c M who size=Qj M (Xm R.c.bT size) who:=by
     exact⟨by unfold C7;rw[bJ C,bJ J,bJ L],by unfold Bz;rw[bJ C,bJ J,bJ L],by unfold Av;rw[bJ C,bJ J,bJ L]⟩
    rw[G.1,G.2.1,G.2.2];refine aM aA (by simpa using L) (aP aA (Xgl o (Xm R.c.bT size) who) ?_);rintro _ w4 ⟨rfl,F4,h4,bh,r⟩;refine aN aA ?_;have bv:¬F4 b:=λd=>(bh b d).elim A (λh=>by have:=Xg Q;omega);have a9:=r.heap Q A;refine aO aA (bF a9 aA λw5 cn bi ds=>?_);have h5:=h.note h4 (X1 a9) (by omega) bv bi (by decide);exact aK func176 cn aA ⟨⟨Xm R.c.bT size,Ex M (Xm R.c.bT size) who,Ew M (Xm R.c.bT size) who,none,0,[]⟩,rfl,rfl,F4,h5,(λz d=>(bh z d).imp id (λh=>by have:=a1.size;omega)),(a1.gr.trans r).sn bi,noq _ _ _⟩
  .have b1:C7 R.c M who size=Qg R.c M size/\Bz R.c M who size=⟨0,0,0,[]⟩/\Av R.c M who size=M:=by
    unfold C7 Bz Av;rw[bJ C,bJ C,bJ C,bK n,bK n,bK n];exact⟨rfl,rfl,rfl⟩
   rw[b1.1,b1.2.1,b1.2.2];refine aM aA (by simpa using n) (aO aA (bF P aA λw3 Q b2 dt=>?_));have o:=h.note h2 (X1 P) (by omega) A b2 (by decide);exact aK func176 Q aA ⟨⟨0,0,0,none,0,[]⟩,rfl,rfl,F,o,λz d=>.inl d,af.gr.sn b2,noq 0 0 0⟩
theorem XjR(h:Eh F w lm lg):∃m,Yx w lm m/\(∀n:Int,Dh lg n=none->Bq m n=none)/\∀(n:Nat) r,(n,r)∈lg -> ∃a cap,Bq m n=some (.slice a r.length cap)/\Rd .i64 w a (X4 r)/\L3 F w a:=by
 obtain⟨m,b,i,c,d⟩:=h;exact⟨m,b,λn f=>d n λe g=>T8 f e g,λn r hm=>c _ hm⟩
theorem Xmo(h:Zn F w R M)(q:Plc)(hq:Zp w q):Xf prog 162 #[Cl R,.agg (Xv q).toArray] w
 (λv w'=>v=.int .i64 (Hz M (Xx q))/\H5 F w w' R (Qd M (Xx q))):=by
 refine aR func162 ntmps162 aA (bC aA λb w1 e1 C W c1=>?_);have b1:¬F b:=λc=>by have:=h.low b c;omega
 have Q:=h.bQ W;replace C:w1.heap[b]?=some (.cells (Xv q).toArray 83 (0,0)):=C;have O:Xc F w w1:=W.gr;refine bB C aA ?_;by_cases D:q.cL=-1
 .have eD:Hz M (Xx q)=(match Dh M.lg q.cR with|none=>1|some r=>if X4 r=q.bS then 0 else 1)/\Qd M (Xx q)=(match Dh M.lg q.cR with|none=>M|some r=>if X4 r=q.bS then Ip M q.cR.toNat r else M):=by
   unfold Hz Qd Xx;exact⟨bJ (λh=>h D),bJ (λh=>h D)⟩
  rw[eD.1,eD.2];refine aI aA (by simp[D]) ?_;obtain⟨m,hm,b2,a6⟩:=XjR Q.lg;cases hg:Dh M.lg q.cR with
  |none=>
   simp only
   exact aQ 12 Xe (by kernel_rfl) aA λf=>aE f Q.obj aA (aE f C aA (Xd.lookup Xb f rfl (hm) (by first|(intro b h;cases h;assumption)|(intro b h hs;cases h;omega)) ((show Bv m _ _ true=.tuple #[.slice none 0 0,.bool false] from by unfold Bv;rw[b2 _ hg];rfl)) rfl (aF f aA λw2 d=>bI aA (bE func162 aA ⟨rfl,.of (Q.bQ d) (O.trans d.gr)⟩))))
  |some r=>
   simp only
   obtain⟨n,hn,j⟩:=Ow hg;obtain⟨a,cap,a8,ac,a9⟩:=a6 n r j;refine aQ 12 Xe (by kernel_rfl) aA λf=>aE f Q.obj aA (aE f C aA (Xd.lookup Xb f rfl (hm) (by first|(intro b h;cases h;assumption)|(intro b h hs;cases h;omega)) ((show Bv m _ _ true=.tuple #[.slice a r.length cap,.bool true] from by unfold Bv;rw[hn,a8];rfl)) rfl (aF f aA λw2 d=>aS aA ?_)));have h2:=Q.bQ d;have ad:=d.bP C;have c2:r.length<=1024:=by
    obtain⟨_,_,p3,_⟩:=O6 (l:=n::r) h.pool.cV (by
     obtain⟨A,B,eA,_⟩:=Ov h.ok.nd j;have e:Y6 M.lg=Y6 A++((n::r)++Y6 B):=by rw[eA,Kp];rfl
     have t:=h.ok.nd;rw[e] at t;exact(XR.1 (XR.1 t).2.1).1) (λm p=>by
     obtain⟨D,g2⟩:=h.ok.lg m (I7 j p);exact⟨D,by omega⟩)
    have:=Oq h.pool.cV;simp only[XO] at p3;omega
   have hd:=Xm4 a q.pa cap q.pc (X4 r) q.bS w2 (ac.bR d) ((hq.rd.bR W).bR d) (by rw[Er];omega);rw[Er] at hd;refine bB ad aA (bG hd aA λw3 E=>?_);have G:=h2.bQ E;have ae:=E.bP ad;have a0:=d.trans E;by_cases S:X4 r=q.bS
   .rw[bK S,bK S,hn,XB];refine aI aA (by rw[bN S];rfl) ?_;have bu:¬R.rb=R.lm:=λe=>h.rf (e▸h.lf);have b6:¬b=R.lm:=λe=>b1 (e▸h.lf);refine aQ 7 (λz=>z=R.lm) (by kernel_rfl) aA λf=>aE f G.obj aA (aE f ae aA (Xd.cK f rfl λw4 y=>?_));have T:=G.bQ y;obtain⟨m4,af,_⟩:=T.lg;refine Xn.mapdel Xb f rfl (af) (by first|(intro h;exact rfl)|(intro h;omega)) rfl λw5 b8 H c3=>aF f aA λw6 ag=>?_;have b9:=ag.bP (H.heap (y.bP ae) b6);refine bB b9 aA (Xa.buildSlice Xb rfl λb7 w7 e7 ba bb c4=>aN aA (Xa.buildSlice Xb rfl λob w8 e8 ah ai c5=>aN aA ?_));have bc:Eh (R.FX F) w5 R.lm (Dv M.lg n):=T.lg.del H (λm' h'=>by
     rw[h'.uniq af,<-hn];exact b8)
    have au:Xc Xe w6 w8:=bb.trans ai;have u:Xc Xe w5 w8:=ag.trans au;have bd:=bc.bR u (λ_ _ h=>h.elim) id;have a1:=Ig T.lg;have be:Z2 w8 R.P M.pl:=(T.pool.bR H (Xs T.pool.kds.1 a1 (by simp)) (Xs T.pool.kds.2 a1 (by simp))).bQ u;have bf:Rd .i64 w5 a (X4 r):=(((ac.bR d).bR E).bR y).bW (λb' off s e=>by
     have hk:=(a9 b' off s e).1;exact Xs (Gz y (Gz E (Gz d hk id) id) id) a1 (by simp)) H
    have bh:=bf.bR u
    let ls:List Sl:=[⟨some ⟨b7,0,none⟩,1,[(n:Int)]⟩,⟨a,cap,X4 r⟩]
    have a2:C3 ls=X4 (n::r):=by show [(n:Int)]++(X4 r++[])=_;rw[QP];rfl
    have bi:(C3 ls).length=r.length+1:=by rw[a2,Er];rfl
    have aj:=Xm2 ob ls w8 (λi U=>by
     replace U:i<2:=U;rcases(show i=0\/i=1 by omega) with rfl|rfl
     .rw[Ys ah];rfl
     .rw[Ys ah];show some (Value.slice a r.length cap)=some (Value.slice a (X4 r).length cap)
      rw[Er]) (λl hl=>by
     rcases ZB.1 hl with rfl|hl
     .have av:=ai.bP ba;exact Rd.of_cells λi U=>by
       have:i=0:=by replace U:i<1:=U;omega
       subst this;rw[Ys av,hn];rfl
     .rw[YH] at hl;subst hl;exact bh) (by show 2<=1024;omega) (by omega) (by omega)
    rw[bi] at aj;refine aP aA (aj) ?_;rintro _ w9 ⟨g,c9,rfl,c6,ak,a3⟩;refine aN aA ?_;rw[a2] at ak;have bk:=be.bQ a3;have I:Xc (λz=>Ax R.P z\/z=R.lm) w3 w9:=(((y.gr.trans (H.mono λ_ _ h=>.inr h)).trans u.gr).trans a3.gr);have al:∀z,(Ax R.P z\/z=R.lm)->F z:=λz c=>c.elim (h.pf z) (λe=>e▸h.lf);have ab:=I.heap G.obj (λc=>h.rf (al _ c));have aw:¬Ax R.P R.rb:=λc=>h.rf (h.pf _ c);refine Xa.loop (α:=Nat) (λi=>[(0,false,Cl R),(5,false,.slice a r.length cap),(54,false,.slice (some ⟨g,0,none⟩) (r.length+1) c9),(55,false,.int .i64 ((r.length+1:Nat):Int)),(56,false,.int .i64 i)])
     (λi w'=>i<=r.length+1/\Z2 w' R.P (Ay M.pl ((n::r).take i))/\Xc (Ax R.P) w9 w') (λi=>r.length+1-i) 0 ⟨rfl,rfl,rfl,rfl,rfl,trivial⟩ ⟨XQ _,bk,Xc.refl _ _⟩ ?_
    rintro i bm ⟨U,J,o⟩ ih;refine aN aA (aT aA (λa4=>?_) λa4=>?_)
    .have am:i<r.length+1:=by have:=bL a4;omega
     have K:i<(n::r).length:=am;obtain⟨b',off',e',P⟩:=ak i (by rw[Er];exact K);cases e'
     have ev:(X4 (n::r)).getD i 0=((n::r)[i]:Int):=by
      unfold X4;rw[XA,XN,XD K];rfl
     rw[ev] at P;have V:=o.cell P (λc=>by
      have:=G.pool.lt;have:=y.size;have:=u.size;rcases c with e|e <;> omega)
     refine aU i aA (aW aA V aA (bB (o.heap ab aw) aA (aP aA (XbB R.P _ (((n::r)[i]:Nat):Int) bm J) ?_)));rintro _ an ⟨_,ax,L⟩;refine aN aA (aV aA ?_);exact ih (i+1) _ _ ⟨am,by
      have e:Ay M.pl ((n::r).take (i+1))=Hx (Ay M.pl ((n::r).take i)) (((n::r)[i]:Nat):Int):=by
       rw[ZH,XD K];unfold Ay;rw[List.foldl_append];rfl
      rw[e];exact ax,o.trans L⟩ (by omega) ⟨rfl,rfl,rfl,rfl,rfl,trivial⟩
    .have bn:i=r.length+1:=by have:=bM a4;omega
     subst bn;have etk:(n::r).take (r.length+1)=n::r:=ZL (l:=n::r);rw[etk] at J;obtain⟨bo,_⟩:=h.ok.cE h.pool.cV j;have ay:=(bd.bR a3 (λ_ _ h=>h.elim) id).bR o (λz _ c=>.inl (h.pf z c)) (λc=>by
      have ao:=Ig G.lg;have kp:=G.pool.kds;rcases c with e|e
      .exact Xs ao kp.1 (by simp) e
      .exact Xs ao kp.2 (by simp) e)
     have t:(n::r).Nodup:=by
      obtain⟨A,B,eA,_⟩:=Ov h.ok.nd j;have e:Y6 M.lg=Y6 A++((n::r)++Y6 B):=by rw[eA,Kp];rfl
      have t:=h.ok.nd;rw[e] at t;exact(XR.1 (XR.1 t).2.1).1
     have N:∀m∈n::r,m<M.pl.own.length/\M.pl.own.getD m 0=(M.shs.length:Int):=λm p=>h.ok.lg m (I7 j p);have ap:=G.swap (pl':=Ay M.pl (n::r)) (lg':=Dv M.lg n) {bo with tot:=h.ok.tot} (I.trans (o.mono λ_ _ h=>.inl h)) J ay (λk x hx bq=>by
      have hk:k<M.shs.length:=(XC.1 hx).1;have c7:=(h.ok.cI k x hx).1;exact Xfy h.pool.cV t (λm p=>⟨(N m p).1,by have:=(N m p).2;omega⟩) bq (λm p=>by have:=(N m p).2;omega))
     refine bB ap.obj aA (aV aA (aV aA (aV aA (aV aA ?_))));rw[show((r.length:Nat):Int)*1=(r.length:Int) from by omega];refine aP aA (Vc ap ((((r.length:Nat):Int)+1)*4+(r.length:Int))) ?_;rintro _ an ⟨a5,L⟩;refine aN aA ?_;replace a5:Zn F an R (Ip M n r):=a5;have az:Xc F w w3:=O.trans a0.gr;exact bE func162 aA ⟨rfl,.of a5 (((az.trans (I.mono λz _ c=>al z c)).trans (o.mono λz _ c=>h.pf z c)).trans L)⟩
   .rw[bJ S,bJ S];exact aM aA (by rw[bO S];rfl) (bE func162 aA ⟨rfl,.of G (O.trans a0.gr)⟩)
 .have eD:Hz M (Xx q)=J4 M q.cL q.cR q.idx/\Qd M (Xx q)=Q2 M q.cL q.cR q.idx:=by
   unfold Hz Qd Xx;exact⟨bK D,bK D⟩
  rw[eD.1,eD.2];refine aM aA (by simpa using D) (bB C aA (bB C aA (bB C aA ?_)));refine aP rfl (Xgk Q q.cL q.cR q.idx) ?_;rintro _ w2 ⟨rfl,hT⟩;exact aN aA (bE func162 aA ⟨rfl,H5.trans (λz c=>.inl c) O hT⟩)
theorem Qs.note{S:Sh}{pl:PlM}(h:Qs w S G x pl){eb:Nat}(hk:kd w eb=some (some t))(hc:Xc (λz=>z=eb) w w')(htb:1≠eb)(ht:t≠291/\t≠337/\t≠314/\t≠352/\t≠357/\t≠359/\t≠348/\t≠375):Qs w' S G x pl:=by
 have d:∀{t':Nat},t≠t'->some (some t)≠some (some t'):=λh e=>h (Option.some.inj (Option.some.inj e));have kp:=h.pool.kds;have ap:=h.at'.apart hk ht.2.2;exact⟨h.ok,h.pos,h.of,h.at'.bR hc (λz e=>e▸ap.1) (λz e=>e▸ap.2) htb,h.pool.bR hc (Xs kp.1 hk (Ne.symm (d ht.1))) (Xs kp.2 hk (Ne.symm (d ht.2.1)))⟩
theorem Qs.own{S:Sh}{pl:PlM}(h:Qs w S G x pl)(ho:Xl base 245 1 w v m xs)(hc:Xc (C6 v) w w')(htb:1<base):Qs w' S G x pl:=by
 rcases ho.2 with⟨rfl,_⟩|⟨g,cap,cur,rfl,b,a,_⟩
 .exact h.bQ (hc.mono λz _ e=>by cases e)
 .exact h.note (X1 a) (hc.mono λz _ e=>Option.some.inj e) (by omega) (by decide)
def G6(c:Conf)(n:Nat):List Sm:=(List.range n).map λk=>Rv (k:Nat) (A5 c (k:Nat)).toNat
def Ii(c:Conf)(tot:Int):RmM:=⟨G6 c c.bT.length,Dz c.bS.toNat,[],tot⟩
theorem O1(h:(G6 c n)[k]?=some x):k<n/\x=Rv (k:Nat) (A5 c (k:Nat)).toNat:=by
 unfold G6 at h;rw[XN,QK] at h;obtain⟨j,d,e⟩:=h;obtain⟨a,b⟩:=XC.1 d;simp only[ZM] at a;rw[List.getElem_range] at b;subst b;exact⟨a,e.symm⟩
theorem Xe9(c:Conf):∀n,Ji (G6 c n)=0
 |0=>rfl
 |n+1=>by
  have:=Xe9 c n;unfold Ji G6 at *;rw[QB,XL,XL,List.sum_append,this];rfl
theorem Xan(h:Zb c=true)(hk:k<c.bT.length):1<=A5 c k/\A5 c k<=512:=by
 have g:=(Ye h).size;have a:Bs c.bT c.size=true:=by
  unfold Zb at h;simp only[XK,decide_eq_true_eq] at h;exact h.1.1.1.1.1.2
 obtain⟨d,_,i⟩:=Xay a k hk;unfold A5;rw[bK (by omega),XB,V0 (by omega) (by omega)];constructor
 .exact(Int.le_ediv_iff_mul_le (by omega)).2 (by omega)
 .have j:c.size/c.bT.getD k 0<=c.size/8:=by
   refine Int.le_ediv_of_mul_le (by omega) ?_;have l:=Int.ediv_mul_le c.size (b:=c.bT.getD k 0) (by omega);have f:0<=c.size/c.bT.getD k 0:=YM (by omega) (by omega);have m:=Int.mul_le_mul_of_nonneg_left d f;omega
  omega
theorem Xkt(h:Zb c=true){tot:Int}(ht:0<=tot/\tot<=4611686018427387904):(Ii c tot).Ok c:=by
 have d:=(Ye h).bS;refine⟨by show(G6 c _).length=_;unfold G6;simp,λk x a=>?_,?_,(λm hm=>by cases hm),YX,?_,ht⟩
 .obtain⟨b,rfl⟩:=O1 a;have:=Xan h b;exact⟨rfl,by show(((A5 c k).toNat:Nat):Int)=_;omega⟩
 .show(((List.replicate c.bS.toNat (-1:Int)).length:Nat):Int)=_
  rw[XI];omega
 .show Zf (Dz c.bS.toNat)=Ji (G6 c _)+0
  rw[Xe9];exact Ij _
theorem Xmp(c:Conf)(p:Y4)(mo:Option Nat)(tot dA:Int)(X:Nat->Prop)(w:dD)(hc:Yu w c p)(ht:Bi w)(hX:∀z,X z->z<w.heap.size/\mo≠some z)(hmo:∀b,mo=some b->Bf w b tot dA/\A3 (λz=>z=b) w p.ca c.bT/\A3 (λz=>z=b) w p.ka c.bV)(htot:0<=tot/\tot<=4611686018427387904):Xf prog 118 #[.agg (Zj c p).toArray,Jf mo] w (λv w'=>Xc Xe w w'/\if Zb c=true then ∃F R,R.c=c/\R.p=p/\R.mo=mo/\v=.tuple #[Cl R,.int .i64 0]/\Zn F w' R (Ii c tot)/\(∀z,F z->w.heap.size<=z\/mo=some z)/\R.dA=dA/\R.X=X else v=.tuple #[.pointer none,.int .i64 1]):=by
 have c7:maxLen=9223372036854775807:=rfl;refine aR func118 ntmps118 aA (bC aA λcb w1 e1 an a7 c8=>?_);refine bB an aA (bG (XaD c p w1 (hc.bR a7)) aA λw2 Q=>?_);have a8:=Q.bP an;by_cases hm:Zb c=true
 .have em:Bw c=0:=by unfold Bw;rw[bK hm]
  have hf:=Ye hm;have c9:=hf.n;have ca:=hf.bS;rw[em];simp only[hm,if_true];refine aS aA (bB a8 aA ?_);obtain⟨N,hN⟩:=XE (show 0<=c.bS by omega);rw[hN];refine aP aA (Xk1 N w2 (by omega)) ?_;rintro _ w3 ⟨P,rfl,⟨cc,cd⟩,ao,a9⟩;have aa:=a9.bP a8;have bq:=ao.lt;refine aN aA (bB aa aA (Xa.mkmap rfl λlm w4 e4 ba ab ce=>aN aA (aO aA (bC aA λrb J e5 aq T cf=>?_))));have cg:=Q.size;have ch:=a9.size;have ac:=T.bP (ab.bP aa);have K:=(((a7.trans Q).trans a9).trans ab).trans T;have br:1<w.heap.size:=World.block_lt_of_cell? w _ (ht 0 (by decide));have bb:Z2 J P (Dz N):=(ao.bQ ab).bQ T;refine Xa.cJ Xb rfl ac rfl rfl ?_;refine Xa.loop (α:=Nat×dE×List Sh) (λx=>[(2,false,.pointer (some ⟨cb,0,none⟩)),(7,false,Fb P),(8,false,.int .i64 0),(9,false,.pointer (some ⟨rb,0,none⟩)),(32,false,.int .i64 c.bT.length),(33,false,.int .i64 x.1)])
   (λx w'=>x.1<=c.bT.length/\x.2.2.length=x.1/\w'.heap[rb]?=some (.cells (Zj c p++[Jf mo,Fb P,x.2.1,.map (some lm)]).toArray 221 (0,0))/\Xl J.heap.size 245 1 w' x.2.1 x.1 (x.2.2.map Cm)/\
    (∀(k:Nat) (S:Sh),x.2.2[k]?=some S->S.P=P/\(∀G,Qs w' S G (Rv (k:Nat) (A5 c (k:Nat)).toNat) (Dz N))/\∀G z,Qh S G [] z->J.heap.size<=z/\z<w'.heap.size)/\
    (∀(j k:Nat) (S S':Sh),j<k->x.2.2[j]?=some S->x.2.2[k]?=some S' -> ∀G G' z,Qh S G [] z -> ¬Qh S' G' [] z)/\Xc (λz=>z=rb) J w') (λx=>c.bT.length-x.1) (0,.slice none 0 0,[]) ⟨rfl,rfl,rfl,rfl,rfl,rfl,trivial⟩ ⟨XQ _,rfl,aq,⟨rfl,.inl ⟨rfl,rfl⟩⟩,(λk S h=>by cases h),(λj k S S' _ h=>by cases h),Xc.refl _ _⟩ ?_
  rintro⟨i,v,ls⟩ I ⟨hi,ad,B,U,n,C,r⟩ ih;simp only at hi ad B U n C
  have f:Xc Xe w I:=K.sn r;have ar:Z2 I P (Dz N):=bb.bR r (by omega) (by omega);refine aN rfl ?_;refine Xa.fork Xb rfl rfl rfl (λae=>?_) (λae=>?_)
  .have af:i<c.bT.length:=by have:=bL ae;omega
   have ci:=Xan hm af;obtain⟨bk,ag⟩:=XE (show 0<=A5 c i by omega);refine Xa.loads Xb rfl (r.heap ac (by omega)) rfl rfl ?_;refine aP rfl (XdR c p (i:Nat) I (hc.bR f)) ?_;rintro _ w7 ⟨rfl,V⟩;refine aN rfl ?_;rw[ag];refine aP rfl (XmL P (Dz N) (i:Nat) bk w7 (ht.bQ (f.trans V)) (by omega) (by omega) (ar.bQ V)) ?_;rintro _ w8 ⟨S,bc,rfl,au,d,av⟩;refine aN rfl ?_;have ah:=V.trans av;refine Xa.cJ Xb rfl (ah.bP B) rfl rfl ?_;refine Xa.buildSlice Xb rfl ?_;intro b9 w9 e9 bd aw cj;refine aN rfl ?_;have t:=ah.trans aw;have W:=U.bR t (λ_ _ h=>h);have bv:=r.size;have bw:=t.size;refine Xa.append (base:=J.heap.size) (xs:=ls.map Cm) (news:=[Cm S]) Xb rfl W (by omega) (by simp) (Gv bd) (by simp[Value.oneCell']) ⟨by omega,by show(i+1)*8<=_;omega⟩ ?_;intro v' ck L D bx;refine aN rfl ?_;have bm:=Xg aq;have b3:¬C6 v rb:=λe=>by have:=(World.ownsRow.lt W _ e.symm).1;omega
   have a0:=D.heap (t.bP B) b3;obtain⟨g',cap',cur',rfl,_⟩:=L.form (by omega);refine Xa.store Xb rfl a0 rfl rfl ?_;intro ai E M bz;refine aN rfl ?_;replace E:ai.heap[rb]?=some (.cells (Zj c p++[Jf mo,Fb P,.slice (some ⟨g',0,none⟩) (i+1) cap',.map (some lm)]).toArray 221 (0,0)):=E;refine Xa.arith Xb rfl (w64 (by omega)) rfl ?_;have bn:=D.size;have ax:∀{S':Sh} {G:Nat->Pg} {x:Sm} {pl:PlM},Qs w9 S' G x pl->Qs ai S' G x pl:=λh=>(h.own W D (by have:=K.size;omega)).note (X1 a0) M (by have:=K.size;omega) (by decide);have al:Xc (λz=>z=rb) J ai:=((r.trans t.gr).bU D (λz hz e=>by have:=(World.ownsRow.lt W _ e.symm).1;omega)).trans M;have c0:=av.size;have c1:=V.size;exact ih (i+1,.slice (some ⟨g',0,none⟩) (i+1) cap',ls++[S]) _ _ ⟨af,by simp[ad],E,by
    have:=L.bR M (λz hz e=>by
     subst e;have:=(World.ownsRow.lt L _ hz.symm).1;omega)
    simpa using this,λk S' m=>by
    by_cases e:k<ls.length
    .rw[XZ e] at m;obtain⟨a1,a2,a3⟩:=n k S' m;exact⟨a1,λG=>ax ((a2 G).bQ t),λG z hz=>by obtain⟨b1,b2⟩:=a3 G z hz;exact⟨b1,by omega⟩⟩
    .rw[YD (by omega)] at m;have e2:k=ls.length:=by
      have:=(XC.1 m).1;simp only[List.length_singleton] at this;omega
     subst e2;simp only[Nat.sub_self,List.getElem?_cons_zero,Option.some.injEq] at m;subst m;refine⟨bc,λG=>ax ?_,λG z hz=>?_⟩
     .rw[ad,ag,XB];exact(d G).bQ aw
     .have g1:=au G z hz;have g2:=(λG=>(d G).foot_lt) G z (.inl hz);exact⟨by omega,by omega⟩,λj k S1 S2 a4 h1 h2 G G' z hz=>by
    by_cases e:k<ls.length
    .rw[XZ e] at h2;rw[XZ (by omega)] at h1;exact C j k S1 S2 a4 h1 h2 G G' z hz
    .rw[YD (by omega)] at h2;have e2:k=ls.length:=by
      have:=(XC.1 h2).1;simp only[List.length_singleton] at this;omega
     subst e2;simp only[Nat.sub_self,List.getElem?_cons_zero,Option.some.injEq] at h2;subst h2;rw[XZ a4] at h1;have g1:=((n j S1 h1).2.2 G z hz).2;exact λu=>by have:=au G' z u;omega,al⟩ (by simp only;omega) ⟨rfl,rfl,rfl,rfl,rfl,rfl,trivial⟩
  .have bh:i=c.bT.length:=by have:=bM ae;omega
   subst bh;obtain⟨g,cap,cur,rfl,cl,ay,_⟩:=U.form (by omega);have cm:=Xg ay;have c4:=r.size
   let q:Nat->Pg:=λ_=>⟨0,0,0⟩
   let R:Rm:=⟨rb,c,p,mo,P,g,cap,lm,λk=>ls.getD k ⟨0,0,⟨0,0,0⟩,P⟩,dA,X⟩
   let F:Nat->Prop:=λz=>(∃(k:Nat) (S:Sh),ls[k]?=some S/\Qh S q [] z)\/Ax P z\/z=lm\/mo=some z
   have o:∀z,F z->(w.heap.size<=z/\z<I.heap.size)\/mo=some z:=λz hz=>by
    rcases hz with⟨k,S,d,hz⟩|hz|hz|hz
    .obtain⟨b1,b2⟩:=(n k S d).2.2 q z hz;exact .inl ⟨by omega,b2⟩
    .rcases hz with e|e <;> exact .inl ⟨by omega,by omega⟩
    .exact .inl ⟨by omega,by omega⟩
    .exact .inr hz
   have O:∀b,mo=some b->b<w.heap.size:=λb A=>by
    obtain⟨hm,_⟩:=hmo b A;exact Xg hm.1
   have aj:∀{a:Option dF} {l:List Int},Rd .i64 w a l->(∀b,mo=some b->A3 (λz=>z=b) w a l)->A3 F I a l:=λ{a l} hr A=>⟨hr.bR f,λhl b off s e hz=>by
    have af:=hr.block hl e;rcases o b hz with⟨h,_⟩|h
    .omega
    .exact(A b h).2 hl b off s e rfl⟩
   have a5:∀(k:Nat) (S:Sh),ls[k]?=some S->R.S k=S:=λk S h=>by
    show ls.getD k _=S
    rw[XA,h];rfl
   have H:∀(k:Nat),k<c.bT.length -> ∃S,ls[k]?=some S:=λk m=>⟨_,XD (by omega)⟩;have az:(G6 c c.bT.length).length=c.bT.length:=by unfold G6;simp
   exact Xa.ret2 Xb rfl func118 rfl rfl rfl ⟨f,F,R,rfl,rfl,rfl,rfl,⟨Xkt hm htot,by show I.heap[rb]?=some (.cells (rmL R (G6 c c.bT.length).length).toArray _ _);rw[az];exact B,aj hc.bT (λb A=>(hmo b A).2.1),aj hc.bV (λb A=>(hmo b A).2.2),hm,
    λb A=>⟨.inr (.inr (.inr A)),by obtain⟨h,_⟩:=hmo b A;exact h.bR f⟩,λk m=>by
     replace m:k<(G6 c c.bT.length).length:=m;rw[az] at m;obtain⟨S,d⟩:=H k m;have:=(World.ownsRow.cells U (g:=g) rfl) k (Cm S) (by rw[XN,d];rfl);rw[Cr] at this;rw[a5 k S d]
     simpa using this,by show Z2 I P (Dz c.bS.toNat);rw[hN,XB];exact ar,λz hz=>.inr (.inl hz),⟨λ_=>q,λk x hx=>by
     obtain⟨m,rfl⟩:=O1 hx;obtain⟨S,d⟩:=H k m;obtain⟨a1,a2,a3⟩:=n k S d;rw[a5 k S d];refine⟨a1,by show Qs I S q _ (Dz c.bS.toNat);rw[hN,XB];exact a2 q,λz hz=>⟨.inl ⟨k,S,d,hz⟩,λe=>?_⟩⟩;have:=(a3 q z hz).1;have e':z=lm:=e;omega,λj k x y a4 hx hy z hz u=>by
     obtain⟨hj,rfl⟩:=O1 hx;obtain⟨m,rfl⟩:=O1 hy;obtain⟨S,d⟩:=H j hj;obtain⟨S',ak⟩:=H k m;rw[a5 j S d] at hz;rw[a5 k S' ak] at u;rcases Nat.lt_or_gt_of_ne a4 with h|h
     .exact C j k S S' h d ak q q z hz u
     .exact C k j S' S h ak d q q z u hz⟩,⟨[],(ba.bR T id).bR r (by omega),YX,(λe he=>by cases he),λ_ _=>rfl⟩,.inr (.inr (.inl rfl)),λhz=>by
     rcases hz with⟨k,S,d,hz⟩|hz|hz|hz
     .have:=((n k S d).2.2 q _ hz).1;replace this:J.heap.size<=rb:=this;omega
     .rcases hz with e|e
      .replace e:rb=P.pb:=e;omega
      .replace e:rb=P.ab:=e;omega
     .replace hz:rb=lm:=hz;omega
     .have:=O _ hz;replace this:rb<w.heap.size:=this;omega,λhz=>by
     rcases hz with⟨k,S,d,hz⟩|hz|hz|hz
     .have ap:=((n k S d).2.1 q).at'.apart (X1 ay) (by decide);rcases hz with e|e|e|⟨e,he,_⟩
      .exact ap.1.1 e
      .exact ap.1.2.1 e
      .exact ap.1.2.2.2 e
      .cases he
     .rcases hz with e|e
      .replace e:g=P.pb:=e;omega
      .replace e:g=P.ab:=e;omega
     .replace hz:g=lm:=hz;omega
     .have:=O _ hz;replace this:g<w.heap.size:=this;omega,λz hz=>by
     rcases o z hz with⟨_,h⟩|h
     .exact h
     .have:=O z h;have:=f.size;omega,ht.bQ f,λhz=>by
     rcases o _ hz with⟨h,_⟩|h
     .omega
     .obtain⟨bj,_⟩:=hmo _ h;exact Lu ht (λv e=>by rw[Ys bj.1] at e;simp at e) rfl,λz hz=>⟨by have:=(hX z hz).1;have:=f.size;omega,λu=>by
     rcases o z u with⟨h,_⟩|h
     .have:=(hX z hz).1;omega
     .exact(hX z hz).2 h⟩⟩,λz hz=>(o z hz).imp (·.1) id,rfl,rfl⟩
 .have em:Bw c=1:=by unfold Bw;rw[bJ hm]
  rw[em];simp only[hm];exact bI aA (bE func118 aA ⟨a7.trans Q,rfl⟩)
section
variable {α:Type}{cells:α->List dE}{sz:Nat}
def fl(cells:α->List dE)(xs:List α):List dE:=xs.flatMap cells
theorem Oi:fl cells []=[]:=rfl
theorem Oh(xs ys:List α):fl cells (xs++ys)=fl cells xs++fl cells ys:=by unfold fl;rw[List.flatMap_append]
theorem Rf(x:α):fl cells [x]=cells x:=by unfold fl;simp
theorem Jw(hl:∀x,(cells x).length=sz):∀xs:List α,(fl cells xs).length=xs.length*sz
 |[]=>by simp[fl]
 |x::r=>by
  have:=Jw hl r;unfold fl at *;rw[ZY,ZC,this,hl,XO,Nat.succ_mul];omega
theorem Ty(hl:∀x,(cells x).length=sz){j:Nat}(hj:j<sz):∀(xs:List α) (i:Nat) (x:α),xs[i]?=some x->(fl cells xs)[i*sz+j]?=(cells x)[j]?
 |[],i,x,h=>by simp at h
 |y::r,0,x,h=>by
  cases h
  unfold fl;rw[ZY,Nat.zero_mul,XT,XZ (by rw[hl];exact hj)]
 |y::r,i+1,x,h=>by
  have:=Ty hl hj r i x h;unfold fl at *;rw[ZY,YD (by rw[hl,Nat.succ_mul];omega),hl,<-this]
  congr 1
  rw[Nat.succ_mul];omega
theorem Rows.news{xs:List α}(h:Rows cells sz w a xs)(hl:∀x,(cells x).length=sz)(hz:0<sz):∀i u,(fl cells xs)[i]?=some u -> ∃a',a=some a'/\w.cell? (a'.add i)=some u:=λi u c=>by
 have g:i<xs.length*sz:=by rw[<-Jw hl];exact(XC.1 c).1
 have d:i/sz<xs.length:=(Nat.div_lt_iff_lt_mul hz).2 g;have hr:i%sz<sz:=QJ _ hz;have e:i/sz*sz+i%sz=i:=by rw[QC];exact QA i sz
 obtain⟨b,off,rfl,j⟩:=h (i/sz) xs[i/sz] (XD d);have f:=Ty hl hr xs (i/sz) xs[i/sz] (XD d);rw[e,c] at f;refine⟨_,rfl,?_⟩;rw[Cr];have:=j (i%sz) u f.symm;rw[YR,e] at this;exact this
theorem Rows.noneA{xs:List α}(h:Rows cells sz w a xs):a=none->xs.length=0:=λe=>by
 cases xs with
 |nil=>rfl
 |cons l r=>
  obtain⟨b,off,e',_⟩:=h 0 l rfl;rw[e] at e';cases e'
theorem Oj(hp:∀x,∀u∈cells x,u.oneCell'=true)(xs:List α):∀u∈fl cells xs,u.oneCell'=true:=λu a=>by
 unfold fl at a;obtain⟨x,_,h⟩:=List.mem_flatMap.1 a;exact hp x u h
theorem Pk{xs:List α}(h:w.heap[g]?=some (.cells (fl cells xs++rest).toArray t fz))(hl:∀x,(cells x).length=sz):Rows cells sz w (some ⟨g,0,none⟩) xs:=λi x a=>by
 refine⟨g,0,rfl,λj v b=>?_⟩;have c:j<sz:=by have:=(XC.1 b).1;rw[hl] at this;exact this
 rw[Ys h,XT,YW,XZ,Ty hl c xs i x a]
 .exact b
 .rw[Jw hl];have:(i+1)*sz<=xs.length*sz:=Nat.mul_le_mul_right _ ((XC.1 a).1);rw[Nat.succ_mul] at this;omega
theorem Xl.rowsN{xs:List α}(h:Xl base t sz w v n (fl cells xs))(hl:∀x,(cells x).length=sz)(hn:xs.length=n):∃a cap,v=.slice a xs.length cap/\Rows cells sz w a xs/\Yr w a/\xs.length<=cap/\∀b off s,a=some ⟨b,off,s⟩->base<=b:=by
 rcases h.2 with⟨rfl,m⟩|⟨g,cap,cur,rfl,j,d,c,k,_,f⟩
 .have:xs=[]:=YB.1 (by omega);subst this;exact⟨none,0,rfl,(λi l hl=>by simp at hl),(by intro b off s e;cases e),XF _,(by intro b off s e;cases e)⟩
 .subst hn;refine⟨some ⟨g,0,none⟩,cap,rfl,Pk (rest:=cur.toList.drop (xs.length*sz)) (t:=t) (fz:=(0,0)) ?_ hl,(by intro b off s e;cases e;exact Xg d),c,(by intro b off s e;cases e;exact j)⟩;rw[d,<-f,XY]
theorem Xb8:∀(A old vs B:List dE),old.length=vs.length->Z4 (A++(old++B)) A.length vs=some (A++(vs++B))
 |[],[],[],B,_=>by cases B <;> rfl
 |[],o::old,v::vs,B,h=>by
  have:=Xb8 [] old vs B (by simpa using h);simp only[ZS,List.length_nil] at this;show Z4 (o::(old++B)) 0 (v::vs)=_
  unfold Z4;rw[this];rfl
 |x::A,old,vs,B,h=>by
  have:=Xb8 A old vs B h;show Z4 (x::(A++(old++B))) (A.length+1) vs=_
  unfold Z4;rw[this];rfl
theorem Rh(hl:∀x,(cells x).length=sz){xs:List α}{y:α}(hk:k<xs.length):Z4 (fl cells xs++rest) (0+k*sz) (cells y)=some (fl cells (xs.set k y)++rest):=by
 have e1:xs=xs.take k++(xs[k]::xs.drop (k+1)):=by rw[<-ZV hk,XY]
 have a:(fl cells (xs.take k)).length=0+k*sz:=by rw[Jw hl,XX,Nat.min_eq_left (by omega),XT]
 have f1:∀z,fl cells (xs.take k++(z::xs.drop (k+1)))++rest=fl cells (xs.take k)++(cells z++(fl cells (xs.drop (k+1))++rest)):=λz=>by
  rw[Oh];unfold fl;rw[ZY];simp only[List.append_assoc]
 rw[(List.set_eq_take_append_cons_drop.trans (bK hk)),f1 y,<-a]
 conv=>lhs;rw[e1,f1 xs[k]]
 rw[show(xs.take k++xs[k]::xs.drop (k+1)).take k=xs.take k from by rw[<-e1]];exact Xb8 _ _ _ _ (by rw[hl,hl])
end
structure RR where
 c:Conf
 cp:Y4
 p:RP
 ss:List RS
 sa:Option dF
 scap:Nat
 lg:List Plc
 la:Option dF
 lcap:Nat
 cM:Int
def A7(r:RR):List dE:=Zj r.c r.cp++[Xr r.p.o,Xr r.p.f,.slice r.sa r.ss.length r.scap,.slice r.la r.lg.length r.lcap,.int .i64 r.cM]
def lgP(e:Nat×List Nat):PlcM:=⟨-1,(e.1:Nat),0,X4 e.2⟩
structure Jp(M:RmM):Prop where
 sh:∀(k:Nat) (x:Sm),M.shs[k]?=some x->x.Ok/\x.Of M.pl
 cV:M.pl.Good
theorem Zn.cU(h:Zn F w R M):Jp M:=⟨λk x b=>by
 obtain⟨G,_,a,_⟩:=h.shelf b;exact⟨a.ok,a.of⟩,h.pool.cV⟩
structure Qe(w:dD)(r:RR)(M:RmM):Prop where
 p:Ao w r.p M.pl
 sr:Rows X9 7 w r.sa r.ss
 sl:Yr w r.sa
 sc:r.ss.length<=r.scap
 n:r.ss.length=M.shs.length
 few:r.ss.length<=16
 cI:∀(k:Nat) (s:RS) (x:Sm),r.ss[k]?=some s->M.shs[k]?=some x -> ∃pk,Qb w s x pk/\x.Of pk
 lr:Rows Xv 4 w r.la r.lg
 ll:Yr w r.la
 lc:r.lg.length<=r.lcap
 lm:r.lg.length<=1024
 lge:r.lg.map Xx=M.lg.map lgP
 lgo:∀q∈r.lg,Zp w q/\Yr w q.pa
 st:r.cM=M.tot
structure De(S:Nat->Prop)(r:RR):Prop where
 o:Xj S r.p.o.a
 f:Xj S r.p.f.a
 sa:Xj S r.sa
 cI:∀s∈r.ss,Yi S s
 la:Xj S r.la
 lgo:∀q∈r.lg,Xj S q.pa
theorem Rows.bW{xs:List α}(h:Rows cells sz w a xs)(hs:Xj S a)(hc:Xc S w w'):Rows cells sz w' a xs:=λi x d=>by
 obtain⟨b,off,e,c⟩:=h i x d;exact⟨b,off,e,λj v f=>hc.cell (c j v f) (hs b off _ e)⟩
theorem Qe.bQ{w w':dD}{r:RR}{M:RmM}(h:Qe w r M)(hc:Xc Xe w w'):Qe w' r M:=
 ⟨h.p.bQ hc,h.sr.bR hc,h.sl.bQ hc.size,h.sc,h.n,h.few,λk s x d f=>by obtain⟨pk,a,b⟩:=h.cI k s x d f;exact⟨pk,a.bQ hc,b⟩,h.lr.bR hc,h.ll.bQ hc.size,h.lc,h.lm,h.lge,λq c=>⟨(h.lgo q c).1.bQ hc,(h.lgo q c).2.bQ hc.size⟩,h.st⟩
theorem Qe.bW{w w':dD}{r:RR}{M:RmM}{S:Nat->Prop}(h:Qe w r M)(ho:De S r)(hc:Xc S w w'):Qe w' r M:=
 ⟨⟨h.p.o.bW ho.o hc,h.p.f.bW ho.f hc,h.p.eo,h.p.ef⟩,h.sr.bW ho.sa hc,h.sl.bQ hc.size,h.sc,h.n,h.few,λk s x d f=>by obtain⟨pk,a,b⟩:=h.cI k s x d f;exact⟨pk,a.bW (ho.cI s (XW d)) hc,b⟩,h.lr.bW ho.la hc,h.ll.bQ hc.size,h.lc,h.lm,h.lge,λq c=>⟨⟨(h.lgo q c).1.rd.bW (ho.lgo q c) hc,(h.lgo q c).1.len⟩,(h.lgo q c).2.bQ hc.size⟩,h.st⟩
theorem Qe.out{w:dD}{r:RR}{M:RmM}{S:Nat->Prop}(h:Qe w r M)(hs:∀z,S z->w.heap.size<=z):De S r:=
 ⟨h.p.o.lt.out hs,h.p.f.lt.out hs,h.sl.out hs,λs hm=>by
  obtain⟨k,b,rfl⟩:=QU hm;obtain⟨pk,a,_⟩:=h.cI k _ _ (XD b) (XD (by rw[<-h.n];exact b));exact a.out hs,h.ll.out hs,λq c=>(h.lgo q c).2.out hs⟩
def A4(w:dD)(r r':RR):Prop:=r'.c=r.c/\r'.cp=r.cp/\∀S:Nat->Prop,(∀z,S z->z<w.heap.size)->De S r->De S r'
theorem A4.refl(w:dD)(r:RR):A4 w r r:=⟨rfl,rfl,λ_ _ h=>h⟩
theorem Qb.setP{s:RS}{pl:PlM}{p':RP}(h:Qb w s x pl)(hp:Ao w p' pl'):Qb w {s with p:=p'} x pl':=⟨hp,h.cP,h.cG,h.rp,h.plt,h.pcap,h.cI,h.e1,h.e2,h.e3,h.e4,h.e5⟩
abbrev Yn(w:dD)(b:Nat)(r:RR):Prop:=w.heap[b]?=some (.cells (A7 r).toArray 38 (0,0))
theorem Pb(r:RR)(k:Int)(w:dD):Xf prog 216 #[.agg (A7 r).toArray,.int .i64 k] w (Grow (.bool (decide (0<=k) && decide (k<r.ss.length))) w):=by
 refine aR func216 ntmps216 aA (bC aA λb g e1 d a f=>?_);refine aT aA (λc=>?_) λc=>?_
 .refine bB d aA ?_;rw[bN (bL c),YJ];exact bE func216 aA ⟨rfl,a⟩
 .rw[bO (bM c),YZ];exact bE func216 aA ⟨rfl,a⟩
theorem XbO(r:RR)(M:RmM)(k:Nat)(s:RS)(w:dD)(h:Qe w r M)(hk:r.ss[k]?=some s):Xf prog 220 #[.agg (A7 r).toArray,.int .i64 (k:Int)] w (Grow (.agg (X9 {s with p:=r.p}).toArray) w):=by
 have A:=(XC.1 hk).1;refine aR func220 ntmps220 aA (bC aA λb H e1 m n B=>bC aA λob I e2 o c C=>?_);have d:=n.trans c;obtain⟨sb,soff,q,f⟩:=(h.sr.bR d) k s hk;refine bB (c.bP m) aA ?_;rw[q];refine aU (k*7) aA (Xa.loadC Xb (X9 s) rfl (by first|rfl|(simp;done)|(simp[*];done)|(simp;omega)) (f) rfl (bC aA λtb J e3 t u D=>bF t aA λK i v E=>?_));have a:=u.sn v;refine bB (a.bP (c.bP m)) aA (bF i aA λL j g F=>?_);refine bB j aA ?_;refine bF (g.heap (a.bP o) (by omega)) aA λN l y G=>?_;exact aK func220 l aA ⟨rfl,((d.trans a).sn g).sn y⟩
theorem Sj(s:RS):(X9 s).length=7:=rfl
theorem Xb6(s:RS):∀u∈X9 s,u.oneCell'=true:=λu a=>by
 simp only[X9,ZB,List.mem_nil_iff,or_false] at a;rcases a with rfl|rfl|rfl|rfl|rfl|rfl|rfl <;> rfl
theorem Xl1(r:RR)(k:Nat)(s:RS)(w:dD)(hsr:Rows X9 7 w r.sa r.ss)(hk:k<r.ss.length)(hl:r.ss.length<=16)(h1:r.p.f.x.length<=1024)(h2:s.p.f.x.length<=1024)(h3:0<=r.cM/\r.cM<=4611686018427387904):Xf prog 221 #[.agg (A7 r).toArray,.int .i64 (k:Int),.agg (X9 s).toArray] w
 (λv w'=>∃sa' scap',v=.agg (A7 {r with sa:=sa',scap:=scap',ss:=r.ss.set k s,p:=s.p,cM:=r.cM+(3+(max (r.p.f.x.length:Int) s.p.f.x.length-min (r.p.f.x.length:Int) s.p.f.x.length)*4)}).toArray/\Rows X9 7 w' sa' (r.ss.set k s)/\Yr w' sa'/\(r.ss.set k s).length<=scap'/\Be w sa'/\Xc Xe w w'):=by
 have ai:maxLen=9223372036854775807:=rfl;obtain⟨c,cp,p,ss,sa,scap,lg,la,lcap,cM⟩:=r;simp only at hk hl hsr h1 h3
 refine aR func221 ntmps221 aA (bC aA λrb w1 e1 f H aj=>bC aA λqb w2 e2 m n ak=>bC aA λob K e3 a2 i al=>?_);replace f:w1.heap[rb]?=some (.cells (Zj c cp++[Xr p.o,Xr p.f,.slice sa ss.length scap,.slice la lg.length lcap,.int .i64 cM]).toArray 38 (0,0)):=f;replace m:w2.heap[qb]?=some (.cells (X9 s).toArray 253 (0,0)):=m;refine Xa.buildSlice Xb rfl ?_;intro b4 w4 e4 a3 o am;refine aN rfl ?_;have q:=(n.trans i).trans o;have L:=H.trans q;have M:=q.bP f;refine Xa.cJ Xb rfl M rfl rfl ?_;have ho:Xl K.heap.size 253 7 w4 (.slice (some ⟨b4,0,none⟩) 0 0) 0 (fl X9 []):=Xl.empty (by omega) a3;refine Xa.appendA (base:=K.heap.size) (xs:=fl X9 []) (news:=fl X9 ss) Xb rfl ho o.size hsr.noneA (Jw Sj ss) ((hsr.bR L).news Sj (by decide)) (Oj Xb6 ss) ⟨by omega,by show(0+ss.length)*136<=_;omega⟩ ?_;intro v5 w5 t a6 an;replace t:Xl K.heap.size 253 7 w5 v5 ss.length (fl X9 ss):=by
  have h:=t;rw[Oi,ZS,XT] at h;exact h
 have d:=ho.bU o (XF _) a6;obtain⟨g,u,cur,rfl,ao,a7,a8,ap,a9⟩:=t.form (by omega);have x:cur.toList=fl X9 ss++cur.toList.drop (ss.length*7):=by
  have e:=XY (ss.length*7) cur.toList;rw[a9] at e;exact e.symm
 obtain⟨rest,F⟩:∃rest,rest=cur.toList.drop (ss.length*7):=⟨_,rfl⟩;rw[<-F] at x;have N:w5.heap[g]?=some (.cells (fl X9 ss++rest).toArray 253 (0,0)):=by rw[<-x];exact a7
 have O:=d.bP (i.bP (n.bP f));have A:=d.bP (i.bP m);have P:=d.bP a2;refine aN aA (bB A aA (aU (k*7) aA (aL aA N (Rh (cells:=X9) (y:=s) Sj hk) aA λw6 aa j aq=>?_)));have B:=j.heap O (by omega);have Q:=j.heap A (by omega);have R:=j.heap P (by omega);refine bB B aA (bF B aA λw7 S l ar=>?_);have T:=l.heap Q (by omega);refine bB T aA (bF S aA λw8 a C au=>?_);replace a:w8.heap[rb]?=some (.cells (Zj c cp++[Xr s.p.o,Xr s.p.f,.slice (some ⟨g,0,none⟩) ss.length u,.slice la lg.length lcap,.int .i64 cM]).toArray 38 (0,0)):=a;refine bB a aA (bB a aA (aV aA ?_));have em:(if ((s.p.f.x.length:Nat):Int)>(p.f.x.length:Nat) then ((s.p.f.x.length:Nat):Int) else (p.f.x.length:Nat))=max ((p.f.x.length:Nat):Int) (s.p.f.x.length:Nat):=by split <;> omega
 have en:(if ((s.p.f.x.length:Nat):Int)<(p.f.x.length:Nat) then ((s.p.f.x.length:Nat):Int) else (p.f.x.length:Nat))=min ((p.f.x.length:Nat):Int) (s.p.f.x.length:Nat):=by split <;> omega
 rw[em,en];refine aV aA (aV aA (aV aA ?_));rw[show cM+3+4*(max ((p.f.x.length:Nat):Int) (s.p.f.x.length:Nat)-min ((p.f.x.length:Nat):Int) (s.p.f.x.length:Nat))=cM+(3+(max ((p.f.x.length:Nat):Int) (s.p.f.x.length:Nat)-min ((p.f.x.length:Nat):Int) (s.p.f.x.length:Nat))*4) from by omega];refine bF a aA λw9 U D av=>bB U aA ?_;have V:=D.heap (C.heap (l.heap R (by omega)) (by omega)) (by omega);refine bF V aA λwa W E aw=>?_;have I:=E.heap (D.heap (C.heap (l.heap aa (by omega)) (by omega)) (by omega)) (by omega);have J:(ss.set k s).length=ss.length:=XG;have a0:Xc Xe w w6:=(((H.trans n).trans i).trans d).sn j;have a1:Xc Xe w wa:=(((a0.sn l).sn C).sn D).sn E;exact aK func221 W aA ⟨some ⟨g,0,none⟩,u,by show _=Value.agg (Zj c cp++[Xr s.p.o,Xr s.p.f,.slice _ (ss.set k s).length _,_,_]).toArray;rw[J];rfl,Pk I Sj,(by intro b off s e;cases e;exact Xg I),by rw[J];exact a8,(by intro b off s e;cases e;omega),a1⟩
theorem Qe.sout{r:RR}(h:De S r){s:RS}(hk:r.ss[k]?=some s)(_:Qe w r M):Yi S {s with p:=r.p}:=by
 have:=h.cI s (XW hk);exact⟨h.o,h.f,this.cP,this.cG,this.pa,this.cI⟩
theorem Qe.put{r:RR}(h:Qe w r M)(hc:Xc Xe w w'){s:RS}{t:Int}{sa':Option dF}{scap':Nat}(hk:k<r.ss.length)(hs:Qb w' s x' pl')(hof:x'.Of pl')(hrow:Rows X9 7 w' sa' (r.ss.set k s))(hlt:Yr w' sa')(hcap:(r.ss.set k s).length<=scap'):Qe w' {r with sa:=sa',scap:=scap',ss:=r.ss.set k s,p:=s.p,cM:=t} {M with shs:=M.shs.set k x',pl:=pl',tot:=t}:=by
 have a:=h.bQ hc;refine⟨hs.p,hrow,hlt,hcap,by show(r.ss.set k s).length=(M.shs.set k x').length;rw[XG,XG];exact h.n,by show(r.ss.set k s).length<=16;rw[XG];exact h.few,λj d f b c=>?_,a.lr,a.ll,a.lc,a.lm,a.lge,a.lgo,rfl⟩;by_cases e:k=j
 .subst e;rw[XH hk] at b;rw[XH (by rw[<-h.n];exact hk)] at c;cases b;cases c
  exact⟨pl',hs,hof⟩
 .rw[XJ e] at b c;exact a.cI j d f b c
theorem A4.put{r:RR}(h:Qe w r M){s0 s:RS}{t:Int}{sa':Option dF}{scap':Nat}(hk:r.ss[k]?=some s0)(hs:w.heap.size<=w1.heap.size)(hkeep:Fg w1 {s0 with p:=r.p} s)(hf:Be w' sa')(hs':w.heap.size<=w'.heap.size):A4 w r {r with sa:=sa',scap:=scap',ss:=r.ss.set k s,p:=s.p,cM:=t}:=⟨rfl,rfl,λS f b=>by
 have a:=hkeep S (λz c=>by have:=f z c;omega) (Qe.sout b hk h);refine⟨a.o,a.f,hf.out (λz c=>by have:=f z c;omega),λg d=>?_,b.la,b.lgo⟩;rcases ZO d with d|rfl
 .exact b.cI g d
 .exact a⟩
theorem XiF{p q:PlM}(hp:p.Good)(hq:q.Good)(ho:q.own.length=p.own.length){t:Int}(ht:0<=t/\t<=4611686018427000000):Xw t (I0 p q)=t+(3+(max (p.free.length:Int) q.free.length-min (p.free.length:Int) q.free.length)*4):=by
 have a:=hp.many;have b:=hq.many;have c:=hp.len;have e:max (Zf q:Int) (Zf p)-min (Zf q:Int) (Zf p)=max (p.free.length:Int) q.free.length-min (p.free.length:Int) q.free.length:=by unfold Zf;omega
 unfold I0 Xw;rw[e,bJ (by omega)];have:max (p.free.length:Int) q.free.length-min (p.free.length:Int) q.free.length<=1024:=by omega
 omega
theorem Hl.cV{p q:PlM}{c:Int}(h:Hl p q c)(hg:p.Good)(hc:0<=c):q.Good:=by
 rcases h with rfl|⟨n,r,hf,rfl⟩|⟨n,a,b,rfl⟩
 .exact hg
 .exact hg.take hc hf
 .exact hg.give a (by omega)
theorem Pi(r:RR)(M:RmM)(k:Int)(hn:r.ss.length=M.shs.length):(Zq M k=none/\(decide (0<=k) && decide (k<r.ss.length))=false)\/∃(j:Nat) (x:Sm) (s:RS),k=j/\Zq M k=some x/\M.shs[j]?=some x/\r.ss[j]?=some s/\(decide (0<=k) && decide (k<r.ss.length))=true:=by
 by_cases h:0<=k/\k<r.ss.length
 .obtain⟨j,rfl⟩:=XE h.1;have a:j<M.shs.length:=by omega
  refine .inr ⟨j,M.shs[j],r.ss[j],rfl,Pe a,XD a,XD (by omega),?_⟩;rw[bN h.1,bN h.2];rfl
 .refine .inl ⟨Sg (by omega),?_⟩;by_cases b:0<=k
  .rw[bO (λe:k<r.ss.length=>h ⟨b,e⟩),YE]
  .rw[bO b];rfl
theorem A4.dC{r r':RR}(h:A4 w2 r r')(hs:w.heap.size<=w2.heap.size):A4 w r r':=⟨h.1,h.2.1,λS a b=>h.2.2 S (λz c=>by have:=a z c;omega) b⟩
theorem Xhd(x:Sm)(pl:PlM)(who:Int)(hof:x.Of pl)(hg:pl.Good):(Ad x pl who).Of (B2 x pl who):=by
 rcases Ni x pl who with⟨_,a,b⟩|⟨_,_,⟨n,r,_,a,b,_⟩|⟨n,r,_,hf,a,b,_⟩⟩
 .rw[a,b];exact hof
 .rw[a,b];exact hof.set rfl (λe c=>Pn c)
 .rw[a,b];exact(hof.fresh hg hf).set rfl (λe c=>Pn c)
theorem Xer(x:Sm)(pl:PlM)(n i:Int)(hok:x.Ok)(hof:x.Of pl):(Af x n i).Of (Bm x pl n i):=by
 unfold Af Bm;cases c:Zg x.pg n with
 |none=>exact hof
 |some p=>
  simp only
  by_cases a:Q1 p i=0
  .rw[bK a];have:=Sm.Of.giveAt hok hof (n:=n.toNat) (p:=p) (i:=i);by_cases b:Xu (Yj p i)=0
   .rw[bK b] at this;rw[bK ⟨a,b⟩];exact this
   .rw[bJ b] at this;rw[bJ (λh=>b h.2)];exact this
  .rw[bJ a,bJ (λh=>a h.1)];exact hof
theorem Xfm(x:Sm)(pl:PlM)(n i who:Int)(hof:x.Of pl):(Ba x n i who).Of pl:=by
 unfold Ba;split
 .exact hof.set rfl (λe a=>Pn a)
 .exact hof
theorem XbP(r:RR)(M:RmM)(j:Nat)(x x':Sm)(s s5:RS)(pl':PlM)(w0 w1 w:dD)(h:Qe w0 r M)(hc:Xc Xe w0 w)(hm:Jp M)(ht:0<=M.tot/\M.tot<=4611686018427000000)(hs:r.ss[j]?=some s)(hx:M.shs[j]?=some x)(hS:Qb w s5 x' pl')(hof':x'.Of pl')(hE:Hl M.pl pl' x.cL)(hk:Fg w1 {s with p:=r.p} s5)(hw1:w0.heap.size<=w1.heap.size):Xf prog 221 #[.agg (A7 r).toArray,.int .i64 (j:Int),.agg (X9 s5).toArray] w (λv w'=>∃r',v=.agg (A7 r').toArray/\Qe w' r' (J5 M j x' pl')/\A4 w0 r r'/\Xc Xe w w'):=by
 obtain⟨i,o⟩:=hm.sh j x hx;have c:=(XC.1 hs).1;have k:r.p.f.x.length=M.pl.free.length:=by rw[h.p.ef,XV]
 have d:s5.p.f.x.length=pl'.free.length:=by rw[hS.p.ef,XV]
 have a:=hE.cV hm.cV i.cL;have q:=hm.cV.many;have u:=hm.cV.len;have y:=a.many;have z:=a.len;refine(Xl1 r j s5 w (h.sr.bR hc) c h.few (by omega) (by omega) (by rw[h.st];omega)).mono λv w' ⟨sa',scap',e,f,l,g,m,b⟩=>?_;have n:Xw M.tot (I0 M.pl pl')=r.cM+(3+(max (r.p.f.x.length:Int) s5.p.f.x.length-min (r.p.f.x.length:Int) s5.p.f.x.length)*4):=by
  rw[XiF hm.cV a (hE.own hm.cV).1 ht,k,d,h.st]
 rw[<-n] at e;exact⟨_,e,h.put (t:=Xw M.tot (I0 M.pl pl')) (hc.trans b) c (hS.bQ b) hof' f l g,A4.put (M:=M) h hs hw1 hk m hc.size,b⟩
theorem XfS(r:RR)(M:RmM)(k who:Int)(w:dD)(h:Qe w r M)(hm:Jp M)(ht:0<=M.tot/\M.tot<=4611686018427000000):Xf prog 148 #[.agg (A7 r).toArray,.int .i64 k,.int .i64 who] w
 (λv w'=>∃r',v=.tuple #[.agg (A7 r').toArray,.int .i64 (Ex M k who),.int .i64 (Ew M k who),.int .i64 (Gp M k who)]/\Qe w' r' (Qj M k who)/\A4 w r r'/\Xc Xe w w'):=by
 refine aR func148 ntmps148 aA (bC aA λrb w1 e1 Q R ac=>bC aA λob S e2 T A ad=>?_);have d:=R.trans A;have i:=A.bP Q;refine bB i aA (bG (Pb r k S) aA λw3 c=>?_);have l:=c.bP T;have f:=c.bP i;have a:=d.trans c;unfold Ex Ew Gp Qj;rcases Pi r M k h.n with⟨F,G⟩|⟨j,x,s,rfl,F,H,I,G⟩
 .rw[F,G];simp only
  refine bI aA (bB f aA (bF l aA λJ K U ae=>?_));have m:=a.sn U;exact aK func148 K aA ⟨r,rfl,h.bQ m,A4.refl w r,m⟩
 .rw[F,G];simp only[XB];refine aS aA ?_;obtain⟨pk,V,_⟩:=h.cI j s x I H;obtain⟨B,C⟩:=hm.sh j x H;refine bB f aA (bG (XbO r M j s w3 (h.bQ a) I) aA λJ o=>aP aA (XlL {s with p:=r.p} x M.pl who J (((V.setP h.p).bQ a).bQ o) B C hm.cV) ?_);rintro _ w5 ⟨s5,rfl,W,a0,a1⟩;refine aN aA (bC aA λqb w6 e6 a2 a3 af=>bF a2 aA λw7 L a4 ag=>?_);have q:=a3.sn a4;have b:=(o.trans a1).trans q;have t:=b.bP f;have u:=b.bP l;have y:=a.trans b;by_cases g:Qk x M.pl who=0
  .rw[bK g,g];refine aS aA (bB t aA (bB L aA ?_));obtain⟨e2,_⟩:=Xcv x M.pl who hm.cV B.cL;refine aP aA (XbP r M j x _ s s5 _ S J w7 (h.bQ d) (c.trans b) hm ht I H (W.bQ q) (Xhd x M.pl who C hm.cV) e2 a0 (c.trans o).size) ?_;rintro _ w8 ⟨r',rfl,hR,hK,D⟩;refine aN aA ?_;have N:De (λz=>z=ob) r':=hK.2.2 _ (λz n=>by omega) (h.out (λz n=>by omega));exact bF (D.bP u) aA λw9 O E ah=>aK func148 O aA ⟨r',rfl,hR.bW N E,hK.dC d.size,((y.trans D).sn E)⟩
  .rw[bJ g];have eN:B1 x M.pl who=0/\B0 x M.pl who=0:=by unfold B1 B0;rw[bJ g,bJ g];exact⟨rfl,rfl⟩
   rw[eN.1,eN.2];refine aM aA (by simpa using g) (bB t aA (bF u aA λw8 P a6 ai=>?_));have m:=y.sn a6;exact aK func148 P aA ⟨r,rfl,h.bQ m,A4.refl w r,m⟩
theorem XfR(r:RR)(M:RmM)(k n i:Int)(w:dD)(h:Qe w r M)(hm:Jp M)(ht:0<=M.tot/\M.tot<=4611686018427000000):Xf prog 154 #[.agg (A7 r).toArray,.int .i64 k,.int .i64 n,.int .i64 i] w
 (λv w'=>∃r',v=.tuple #[.agg (A7 r').toArray,.int .i64 (J4 M k n i)]/\Qe w' r' (Q2 M k n i)/\A4 w r r'/\Xc Xe w w'):=by
 refine aR func154 ntmps154 aA (bC aA λrb w1 e1 S T ae=>bC aA λob U e2 V E af=>?_);have d:=T.trans E;have g:=E.bP S;refine bB g aA (bG (Pb r k U) aA λw3 c=>?_);have l:=c.bP V;have f:=c.bP g;have a:=d.trans c;unfold J4 Q2;rcases Pi r M k h.n with⟨H,I⟩|⟨j,x,s,rfl,H,J,K,I⟩
 .rw[H,I];simp only
  refine bI aA (bB f aA (bF l aA λL N W ag=>?_));have m:=a.sn W;exact aK func154 N aA ⟨r,rfl,h.bQ m,A4.refl w r,m⟩
 .rw[H,I];simp only[XB];refine aS aA ?_;obtain⟨pk,a0,_⟩:=h.cI j s x K J;obtain⟨q,t⟩:=hm.sh j x J;refine bB f aA (bG (XbO r M j s w3 (h.bQ a) K) aA λL u=>aP aA (XlH {s with p:=r.p} x M.pl n i L (((a0.setP h.p).bQ a).bQ u) q t hm.cV) ?_);rintro _ w5 ⟨s5,rfl,a1,a2,a3⟩;refine aN aA (bC aA λqb w6 e6 a4 a5 ah=>bF a4 aA λw7 O a6 ai=>?_);have y:=a5.sn a6;have b:=(u.trans a3).trans y;have A:=b.bP f;have B:=b.bP l;have C:=a.trans b;by_cases D:Cb x n i=0
  .rw[bK D,D];refine aS aA (bB A aA (bB O aA ?_));obtain⟨e2,_⟩:=XaR x M.pl n i q t;refine aP aA (XbP r M j x _ s s5 _ U L w7 (h.bQ d) (c.trans b) hm ht K J (a1.bQ y) (Xer x M.pl n i q t) e2 a2 (c.trans u).size) ?_;rintro _ w8 ⟨r',rfl,hR,hK,F⟩;refine aN aA ?_;have P:De (λz=>z=ob) r':=hK.2.2 _ (λz o=>by omega) (h.out (λz o=>by omega));exact bF (F.bP B) aA λw9 Q G aj=>aK func154 Q aA ⟨r',rfl,hR.bW P G,hK.dC d.size,((C.trans F).sn G)⟩
  .rw[bJ D];refine aM aA (by simpa using D) (bB A aA (bF B aA λw8 R a8 ak=>?_));have m:=C.sn a8;exact aK func154 R aA ⟨r,rfl,h.bQ m,A4.refl w r,m⟩
theorem XmI{n i:Int}(hok:x.Ok)(h:H0 x n i who≠0):Ba x n i who=x:=by
 unfold H0 at h;unfold Ba;cases a:Zg x.pg n with
 |none=>rfl
 |some p=>
  rw[a] at h;obtain⟨m,rfl,hm⟩:=Iq a;have e:By p i who=p:=by unfold By;exact bJ h
  show x.ownAt (m:Int).toNat p i who=x
  unfold Sm.ownAt;rw[e,XB,XgJ hok.nodup hm]
theorem XlW(r:RR)(M:RmM)(k n i who:Int)(w:dD)(h:Qe w r M)(hm:Jp M)(ht:0<=M.tot/\M.tot<=4611686018427000000):Xf prog 205 #[.agg (A7 r).toArray,.int .i64 k,.int .i64 n,.int .i64 i,.int .i64 who] w
 (λv w'=>∃r',v=.tuple #[.agg (A7 r').toArray,.int .i64 (Pf M k n i who)]/\Qe w' r' (Qu M k n i who)/\A4 w r r'/\Xc Xe w w'):=by
 refine aR func205 ntmps205 aA (bC aA λrb w1 e1 a4 a5 au=>bC aA λob N e2 a6 I av=>?_);have f:=a5.trans I;have q:=I.bP a4;refine bB q aA (bG (Pb r k N) aA λw3 d=>?_);have t:=d.bP a6;have g:=d.bP q;have b:=f.trans d;unfold Pf Qu;rcases Pi r M k h.n with⟨O,P⟩|⟨j,x,s,rfl,O,F,Q,P⟩
 .rw[O,P];simp only
  refine bI aA (bB g aA (bF t aA λR T a7 aw=>?_));have u:=b.sn a7;exact aK func205 T aA ⟨r,rfl,h.bQ u,A4.refl w r,u⟩
 .rw[O,P];simp only[XB];refine aS aA ?_;obtain⟨pk,a8,_⟩:=h.cI j s x Q F;have U:=(a8.setP h.p).bQ b;obtain⟨J,K⟩:=hm.sh j x F;refine bB g aA (bG (XbO r M j s w3 (h.bQ b) Q) aA λR y=>aP aA (XlI {s with p:=r.p} x M.pl n i who R (U.bQ y) J K) ?_);rintro _ w5 ⟨s5,rfl,a9,aa,ab⟩;refine aN aA (bC aA λqb w6 e6 ac ad ax=>bF ac aA λw7 V ae ay=>?_);have A:=ad.sn ae;have c:=(y.trans ab).trans A;have m:=c.bP g;have B:=c.bP t;have C:=b.trans c;by_cases W:H0 x n i who=0
  .rw[W];refine aS aA (bB m aA (bB V aA ?_));obtain⟨e2,_⟩:=Xbn x M.pl n i who;refine aP aA (XbP r M j x _ s s5 _ N R w7 (h.bQ f) (d.trans c) hm ht Q F (a9.bQ A) (Xfm x M.pl n i who K) e2 aa (d.trans y).size) ?_;rintro _ w8 ⟨r',rfl,hR,G,D⟩;refine aN aA ?_;refine bC aA λtb w9 e9 ag ah az=>bF ag aA λwa a0 ai b0=>?_;have E:=ah.sn ai;refine bB (E.bP (D.bP m)) aA (bF a0 aA λwb a1 aj b1=>?_);have o:=E.sn aj;refine bB a1 aA (bF (o.bP (D.bP B)) aA λwc a2 L b2=>?_);have a:De (λz=>z=ob) r':=G.2.2 _ (λz l=>by omega) (h.out (λz l=>by omega));have ak:Qe w8 {r' with cM:=r.cM} (Gn M j (Ba x n i who) M.pl):={hR with st:=h.st};have H:De (λz=>z=ob) {r' with cM:=r.cM}:=⟨a.o,a.f,a.sa,a.cI,a.la,a.lgo⟩;have al:A4 N r {r' with cM:=r.cM}:=⟨G.1,G.2.1,λS U ho=>by have:=G.2.2 S U ho;exact⟨this.o,this.f,this.sa,this.cI,this.la,this.lgo⟩⟩;exact aK func205 a2 aA ⟨{r' with cM:=r.cM},rfl,(ak.bQ o).bW H L,al.dC f.size,(((C.trans D).trans o).sn L)⟩
  .rw[XmI J W,Xb4 F];refine aM aA (by simpa using W) (bB m aA (bF B aA λw8 a3 am b3=>?_));have u:=C.sn am;exact aK func205 a3 aA ⟨r,rfl,h.bQ u,A4.refl w r,u⟩
theorem Xlm(a:Option dF)(cap:Nat)(zs:List Int)(n:Int)(w:dD)(hr:Rd .i64 w a zs)(hl:zs.length<=9223372036854775806):Xf prog 156 #[.slice a zs.length cap,.int .i64 n] w (X5 (.int .i64 (Xm zs n)) w):=by
 refine aR func156 ntmps156 aA ?_;refine Xa.loop (α:=Nat) (λk=>[(0,false,.slice a zs.length cap),(1,false,.int .i64 n),(5,false,.int .i64 k)])
  (λk w'=>w'=w/\k<=zs.length/\∀j (h:j<zs.length),j<k->n<1\/decide (n<=zs[j])=false) (λk=>zs.length-k) 0 ⟨rfl,rfl,rfl,trivial⟩ ⟨rfl,XQ _,λ_ _ h=>by omega⟩ ?_
 rintro k s ⟨q,t,d⟩ ih;subst q;refine aN aA (aT aA (λh=>?_) λh=>?_)
 .have c:k<zs.length:=by simpa using h
  refine aT aA (λf=>?_) λf=>?_
  .have m:1<=n:=by have:=bL f;omega
   obtain⟨b,off,rfl,p⟩:=hr k c;rw[I1 c] at p;refine aU k aA (aW aA p aA (aT aA (λo=>?_) λo=>?_))
   .have i:n<=zs[k]:=by have:=bL o;omega
    have e:Xm zs n=k:=by
     unfold Xm;rw[bJ (by omega)];exact Jy c (λj g l=>(d j g l).elim (λh=>by omega) id) (bN i)
    exact bE func156 aA ⟨Xz e.symm,rfl⟩
   .have i:¬n<=zs[k]:=by have:=bM o;omega
    refine aV aA ?_;exact ih (k+1) _ _ ⟨rfl,c,λj g l=>by
     by_cases e:j=k
     .subst e;exact .inr (bO i)
     .exact d j g (by omega)⟩ (by omega) ⟨rfl,rfl,rfl,trivial⟩
  .have m:n<1:=by have:=bM f;omega
   exact aV aA (ih (k+1) _ _ ⟨rfl,c,λj g l=>.inl m⟩ (by omega) ⟨rfl,rfl,rfl,trivial⟩)
 .have r:k=zs.length:=by simp at h;omega
  have e:Xm zs n=-1:=by
   unfold Xm;by_cases f:n<1
   .rw[bK f]
   .rw[bJ f];exact I5 (λj g=>(d j g (by omega)).elim (λh=>absurd h f) id)
  exact bE func156 aA ⟨Xz e.symm,rfl⟩
theorem R7(n q:Int)(w:dD)(hn:n<=9223372036854775807):Xf prog 93 #[.int .i64 n,.int .i64 q] w (X5 (.int .i64 (Qp n q)) w):=by
 exact aR func93 ntmps93 aA (bH (Xlj n q w hn) aA (bE func93 aA ⟨rfl,rfl⟩))
theorem XfQ(n q:Int)(w:dD)(hn:n<=9223372036854775807):Xf prog 92 #[.int .i64 n,.int .i64 q] w (X5 (.int .i64 (Z9 n q)) w):=by
 have f:=Xe1 (q:=q) hn;refine aR func92 ntmps92 aA (bH (R7 n q w hn) aA (aT aA (λa=>?_) λa=>?_))
 .have e:Z9 n q=0:=by unfold Z9;rw[bK (.inl (bL a))]
  exact bE func92 aA ⟨Xz e.symm,rfl⟩
 .have c:=bM a;refine bH (R7 n q w hn) aA (aT aA (λb=>?_) λb=>?_)
  .have e:Z9 n q=0:=by unfold Z9;rw[bK (.inr (bL b))]
   exact bE func92 aA ⟨Xz e.symm,rfl⟩
  .have d:=bM b;have e:Z9 n q=Qp n q+1:=by unfold Z9;rw[bJ (by omega)]
   exact bH (R7 n q w hn) aA (aV aA (bE func92 aA ⟨Xz e.symm,rfl⟩))
theorem XbM(c:Conf)(p:Y4)(n:Int)(w:dD):Xf prog 89 #[.agg (Zj c p).toArray,.int .i64 n] w (Grow (.bool (decide (1<=n) && decide (n<=c.cH))) w):=by
 refine aR func89 ntmps89 aA (bC aA λb h e1 f a g=>?_);refine aT aA (λd=>?_) λd=>?_
 .refine bB f aA ?_;rw[bN (show 1<=n from bL d),YJ];exact bE func89 aA ⟨rfl,a⟩
 .rw[bO (show ¬1<=n from bM d),YZ];exact bE func89 aA ⟨rfl,a⟩
theorem R8(r:RR)(n:Int)(w:dD)(hr:Rd .i64 w r.cp.ca r.c.bT)(hl:r.c.bT.length<=9223372036854775806):Xf prog 132 #[.agg (A7 r).toArray,.int .i64 n] w (Grow (.int .i64 (Xm r.c.bT n)) w):=by
 refine aR func132 ntmps132 aA (bC aA λb c e1 d a f=>?_);exact bB d aA (bH (Xlm r.cp.ca r.cp.cc r.c.bT n c (hr.bR a) hl) aA (bE func132 aA ⟨rfl,a⟩))
theorem U4(r:RR)(M:RmM)(k:Int)(w:dD)(h:Qe w r M):Xf prog 145 #[.agg (A7 r).toArray,.int .i64 k] w (Grow (.int .i64 (Qq M k:Nat)) w):=by
 refine aR func145 ntmps145 aA (bC aA λrb o e1 c l q=>?_);refine bB c aA (bG (Pb r k o) aA λu d=>?_);have a:=l.trans d;unfold Qq;rcases Pi r M k h.n with⟨f,g⟩|⟨j,x,s,rfl,f,p,i,g⟩
 .rw[f,g];exact bI aA (bE func145 aA ⟨rfl,a⟩)
 .rw[f,g];refine aS aA ?_;have t:=(XC.1 i).1;obtain⟨pk,m,_⟩:=h.cI j s x i p;have e5:s.cG.x.length=x.cG.length:=by rw[m.e5,XV]
  obtain⟨sb,soff,n,b⟩:=(h.sr.bR a) j s i;refine bB (d.bP c) aA ?_;rw[n];exact aU (j*7) aA (aW aA (b 6 _ rfl) aA (bE func145 aA ⟨Xz (by rw[e5]),a⟩))
theorem XlX(r:RR)(M:RmM)(k n i:Int)(w:dD)(h:Qe w r M)(hm:Jp M):Xf prog 147 #[.agg (A7 r).toArray,.int .i64 k,.int .i64 n,.int .i64 i] w (Grow (.int .i64 (Zd M k n i)) w):=by
 refine aR func147 ntmps147 aA (bC aA λrb y e1 c m A=>?_);refine bB c aA (bG (Pb r k y) aA λz d=>?_);have a:=m.trans d;unfold Zd;rcases Pi r M k h.n with⟨f,g⟩|⟨j,x,s,rfl,f,o,l,g⟩
 .rw[f,g];exact bI aA (bE func147 aA ⟨rfl,a⟩)
 .rw[f,g];refine aS aA ?_;have B:=(XC.1 l).1;obtain⟨pk,p,q⟩:=h.cI j s x l o;obtain⟨t,_⟩:=hm.sh j x o;obtain⟨sb,soff,u,b⟩:=(h.sr.bR a) j s l;refine bB (d.bP c) aA ?_;rw[u];exact aU (j*7) aA (Xa.loadC Xb (X9 s) rfl (by first|rfl|(simp;done)|(simp[*];done)|(simp;omega)) (b) rfl (bG (XlJ s x pk n i z (p.bQ a) t q) aA λC v=>bE func147 aA ⟨rfl,a.trans v⟩))
theorem XlZ(r:RR)(M:RmM)(k:Int)(w:dD)(h:Qe w r M)(hm:Jp M):Xf prog 146 #[.agg (A7 r).toArray,.int .i64 k] w (Grow (.tuple #[.agg (Nb M k).toArray,.bool (Jg M k)]) w):=by
 refine aR func146 ntmps146 aA (bC aA λrb V e1 A B P=>bC aA λob K e2 C n Q=>?_);have g:=n.bP A;refine bB g aA (bG (Pb r k K) aA λL i=>?_);have l:=i.bP C;have f:=(B.trans n).trans i;unfold Nb Jg;rcases Pi r M k h.n with⟨p,q⟩|⟨j,x,s,rfl,p,D,t,q⟩
 .rw[p,q];exact bI aA (aO aA (bF l aA λN u E R=>aK func146 u aA ⟨rfl,f.sn E⟩))
 .rw[p,q];refine aS aA ?_;have S:=(XC.1 t).1;obtain⟨pk,F,T⟩:=h.cI j s x t D;obtain⟨G,_⟩:=hm.sh j x D;obtain⟨sb,soff,H,m⟩:=(h.sr.bR f) j s t;refine bB (i.bP g) aA ?_;rw[H];refine aU (j*7) aA (Xa.loadC Xb (X9 s) rfl (by first|rfl|(simp;done)|(simp[*];done)|(simp;omega)) (m) rfl ?_);obtain⟨pa,pb,pc,pd,ep⟩:∃a b c d,H1 x=Kt a b c d:=by
   unfold H1;split
   .exact⟨_,_,_,_,rfl⟩
   .exact⟨_,_,_,_,rfl⟩
  have I:=XlK s x pk L (F.bQ f) G;rw[ep] at I;show Xa _ _ (Gc (λv w'=>v=.tuple #[.agg (H1 x).toArray,.bool (Nh x)]/\_)) _ _ _ _ _
  rw[ep];exact bG I aA λN o=>bF (o.bP l) aA λW y J U=>aK func146 y aA ⟨rfl,(f.trans o).sn J⟩
theorem Xoa{n a b:Int}:Qy n a b=true↔a<=n/\n<=b:=by unfold Qy;simp
theorem E8:Zb c=true↔Fd c.size=true/\(1<=c.bS/\c.bS<=1024)/\Bs c.bT c.size=true/\c.bV.length=c.bT.length/\(∀k,k∈c.bV->0<=k/\k<=1024)/\
 (1<=c.step/\c.step<=65536)/\(1<=c.cN/\c.cN<=4096)/\(1<=c.cS/\c.cS<=1023)/\(1<=c.cH/\c.cH<=E7 c):=by
 unfold Zb Mq;simp only[XK,Xoa,decide_eq_true_eq,Bool.not_eq_true',QE,Bool.not_eq_false,and_assoc]
theorem Gi(h:Zb c=true->False):Value.int .i64 1=.int .i64 (Bw c):=by unfold Bw;rw[bJ h]
theorem Xke(h:Zb c=true):Value.int .i64 0=.int .i64 (Bw c):=by unfold Bw;rw[bK h]
theorem XeF:E7 c=0↔Fd c.size=false:=by
 unfold E7;by_cases h:Fd c.size=true
 .rw[bK h,h];have a:=Nk.1 h;have b:64*8<=c.size*(c.size/8):=ZG a.1 (by omega) (by omega) (by omega);constructor
  .intro;omega
  .intro h;cases h
 .rw[bJ h];simpa using h
theorem XfI(c:Conf)(p:Y4)(w:dD):Xf prog 74 #[.agg (Zj c p).toArray] w (Grow (.int .i64 (E7 c)) w):=by
 have no:(64<=c.size/\c.size<=4096/\c.size%8=0->False)->Value.int .i64 0=.int .i64 (E7 c):=λh=>by unfold E7;rw[bJ (λj=>h (Nk.1 j))]
 refine aR func74 ntmps74 aA (bC aA λb m e1 f d l=>bB f aA (aT aA (λg=>?_) λg=>?_))
 .exact bE func74 aA ⟨no (λh=>by have:=bL g;omega),d⟩
 .have n:=bM g;refine bB f aA (aT aA (λi=>?_) λi=>?_)
  .exact bE func74 aA ⟨no (λh=>by have:=bL i;omega),d⟩
  .have o:=bM i;refine bB f aA (Xa.div Xb rfl (by omega) (Hb (by omega)) rfl (aT aA (λa=>?_) λa=>?_))
   .exact bE func74 aA ⟨no (λh=>by have:=h.2.2;simp[this] at a),d⟩
   .have k:c.size%8=0:=by simpa using a
    have a:0<=c.size/8/\c.size/8<=512:=by omega
    have q:0<=c.size*(c.size/8):=ZJ (by omega) a.1;have r:c.size*(c.size/8)<=4096*512:=ZG (by omega) a.2 a.1 (by omega);refine Xa.cJ Xb rfl f rfl rfl ?_;refine Xa.cJ Xb rfl f rfl rfl ?_;refine Xa.div Xb rfl (by omega) (Gm (by omega) (by omega)) rfl ?_;refine Xa.arith Xb rfl (w64 (by omega)) rfl ?_;exact bE func74 aA ⟨Xz (by unfold E7;rw[bK (Nk.2 ⟨by omega,by omega,k⟩)]),d⟩
theorem XfH(c:Conf)(p:Y4)(k:Int)(w:dD)(hc:Yu w c p):Xf prog 196 #[.agg (Zj c p).toArray,.int .i64 k] w (Grow (.int .i64 (A5 c k)) w):=by
 have i:=hc.size;unfold Nx at i;refine aR func196 ntmps196 aA (bC aA λb r e1 f a o=>aT aA (λh=>?_) λh=>?_)
 .have m:=bL h;exact bE func196 aA ⟨Xz (by unfold A5;rw[bJ (by omega)]),a⟩
 .have m:=bM h;refine bB f aA (aT aA (λg=>?_) λg=>?_)
  .have n:=bL g;exact bE func196 aA ⟨Xz (by unfold A5;rw[bJ (by omega)]),a⟩
  .have n:=bM g;obtain⟨s,off,ea,d⟩:=(hc.bR a).bT k.toNat (by omega);obtain⟨ca,cc,ka,kc⟩:=p;simp only at ea
   subst ea;exact Xa.quiet rfl Xo (by kernel_rfl) (Xk.adv Xb rfl (Xk.cJ Xb rfl f rfl rfl (Xk.cJ Xb rfl f rfl rfl (Xk.index Xb rfl (j:=k.toNat) (by omega) (by omega) (by first|rfl|omega|(simp;done)|(simp;omega)) rfl (Xk.load Xb rfl d rfl (Xk.call Xb rfl (λw' q=>(Xlk c.size (c.bT.getD k.toNat 0) w' i.2).bQ) rfl (Xk.nil λt l=>aN aA (bE func196 aA ⟨Xz (by unfold A5;rw[bK (by omega)]),a.trans l⟩))))))))
theorem XbI(c:Conf)(p:Y4)(w:dD)(hc:Yu w c p):Xf prog 28 #[.agg (Zj c p).toArray] w (Grow (.int .i64 (Bw c)) w):=by
 have S:=hc.lc;refine aR func28 ntmps28 aA (bC aA λb T e1 N O ac=>bB N aA (bG (XfI c p T) aA λwL P=>?_));have i:=O.trans P;have l:=P.bP N;have v:=hc.bR i;refine aT aA (λs=>?_) λs=>?_
 .exact bE func28 aA ⟨Gi (λh=>by have:=(E8.1 h).1;rw[XeF.1 (by simpa using s)] at this;cases this),i⟩
 .have U:Fd c.size=true:=by
   cases h:Fd c.size with
   |true=>rfl
   |false=>rw[XeF.2 h] at s;cases s
  refine bB l aA (aT aA (λy=>?_) λy=>?_)
  .exact bE func28 aA ⟨Gi (λh=>by have:=(E8.1 h).2.1;have:=bL y;omega),i⟩
  .refine bB l aA (aT aA (λz=>?_) λz=>?_)
   .exact bE func28 aA ⟨Gi (λh=>by have:=(E8.1 h).2.1;have:=bL z;omega),i⟩
   .refine bB l aA (bB l aA (bG (Xll p.ca p.cc c.bT c.size wL v.bT S) aA λV A=>?_));have o:=i.trans A;have q:=A.bP l;have Q:=v.bR A;refine aT aA (λt=>?_) λt=>?_
    .exact bE func28 aA ⟨Gi (λh=>by have:=(E8.1 h).2.2.1;simp[H8,this] at t),o⟩
    .refine bB q aA (bB q aA (aT aA (λB=>?_) λB=>?_))
     .exact bE func28 aA ⟨Gi (λh=>by have:=(E8.1 h).2.2.2.1;simp[this] at B),o⟩
     .have g2:=bM y;have g3:=bM z;have W:Bs c.bT c.size=true:=by unfold H8 at t;cases hh:Bs c.bT c.size <;> simp[hh] at t⊢
      have g5:c.bV.length=c.bT.length:=by simp at B;omega
      refine Xa.loop (α:=Nat) (λk=>[(1,false,.pointer (some ⟨b,0,none⟩)),(3,false,.int .i64 k)])
       (λk w'=>Xc Xe V w'/\k<=c.bV.length/\∀j (h:j<c.bV.length),j<k->0<=c.bV[j]/\c.bV[j]<=1024) (λk=>c.bV.length-k) 0 ⟨rfl,rfl,trivial⟩ ⟨Xc.refl _ _,XQ _,λ_ _ h=>by omega⟩ ?_
      rintro k w4 ⟨u,hk,r⟩ ih;have f:=o.trans u;have d:=u.bP q;have R:=Q.bR u;refine aN aA (bB d aA (aT aA (λh=>?_) λh=>?_))
      .have m:k<c.bV.length:=by simpa using h
       obtain⟨b1,off,ea,g⟩:=R.bV k m;rw[I1 m] at g;obtain⟨ca,cc,ka,kc⟩:=p;simp only at ea
       subst ea;refine bB d aA (aU k aA (aW aA g aA (aT aA (λC=>?_) λC=>?_)))
       .exact bE func28 aA ⟨Gi (λh=>by have:=(E8.1 h).2.2.2.2.1 _ (XM m);have:=bL C;omega),f⟩
       .refine bB d aA (aU k aA (aW aA g aA (aT aA (λD=>?_) λD=>?_)))
        .exact bE func28 aA ⟨Gi (λh=>by have:=(E8.1 h).2.2.2.2.1 _ (XM m);have:=bL D;omega),f⟩
        .refine aV aA ?_;exact ih (k+1) _ _ ⟨u,m,λj E ad=>by
          by_cases e:j=k
          .subst e;exact⟨by have:=bM C;omega,by have:=bM D;omega⟩
          .exact r j E (by omega)⟩ (by omega) ⟨rfl,rfl,trivial⟩
      .have ae:k=c.bV.length:=by simp at h;omega
       have g6:∀x,x∈c.bV->0<=x/\x<=1024:=λx hx=>by obtain⟨j,E,rfl⟩:=List.mem_iff_getElem.1 hx;exact r j E (by omega)
       refine Xa.quiet rfl Xo (by kernel_rfl) (Xk.adv Xb rfl (Xk.cJ Xb rfl d rfl rfl ?_));refine Xk.fork Xb rfl rfl rfl (λF=>?_) (λF=>?_)
       .exact Xk.nil λn a=>aN aA (bE func28 aA ⟨Gi (λh=>by have:=(E8.1 h).2.2.2.2.2;have:=bL F;omega),f.trans a⟩)
       refine Xk.cJ Xb rfl d rfl rfl ?_;refine Xk.fork Xb rfl rfl rfl (λG=>?_) (λG=>?_)
       .exact Xk.nil λn a=>aN aA (bE func28 aA ⟨Gi (λh=>by have:=(E8.1 h).2.2.2.2.2;have:=bL G;omega),f.trans a⟩)
       refine Xk.cJ Xb rfl d rfl rfl ?_;refine Xk.fork Xb rfl rfl rfl (λH=>?_) (λH=>?_)
       .exact Xk.nil λn a=>aN aA (bE func28 aA ⟨Gi (λh=>by have:=(E8.1 h).2.2.2.2.2;have:=bL H;omega),f.trans a⟩)
       refine Xk.cJ Xb rfl d rfl rfl ?_;refine Xk.fork Xb rfl rfl rfl (λI=>?_) (λI=>?_)
       .exact Xk.nil λn a=>aN aA (bE func28 aA ⟨Gi (λh=>by have:=(E8.1 h).2.2.2.2.2;have:=bL I;omega),f.trans a⟩)
       refine Xk.cJ Xb rfl d rfl rfl ?_;refine Xk.fork Xb rfl rfl rfl (λJ=>?_) (λJ=>?_)
       .exact Xk.nil λn a=>aN aA (bE func28 aA ⟨Gi (λh=>by have:=(E8.1 h).2.2.2.2.2;have:=bL J;omega),f.trans a⟩)
       refine Xk.cJ Xb rfl d rfl rfl ?_;refine Xk.fork Xb rfl rfl rfl (λK=>?_) (λK=>?_)
       .exact Xk.nil λn a=>aN aA (bE func28 aA ⟨Gi (λh=>by have:=(E8.1 h).2.2.2.2.2;have:=bL K;omega),f.trans a⟩)
       refine Xk.cJ Xb rfl d rfl rfl ?_;refine Xk.fork Xb rfl rfl rfl (λL=>?_) (λL=>?_)
       .exact Xk.nil λn a=>aN aA (bE func28 aA ⟨Gi (λh=>by have:=(E8.1 h).2.2.2.2.2;have:=bL L;omega),f.trans a⟩)
       refine Xk.cJ Xb rfl d rfl rfl (Xk.loads Xb rfl d rfl rfl (Xk.call Xb rfl (λw' af=>XfI c p w') rfl (Xk.nil λn a=>aN aA (aT aA (λM=>?_) λM=>?_))))
       .exact bE func28 aA ⟨Gi (λh=>by have:=(E8.1 h).2.2.2.2.2;have:=bL M;omega),f.trans a⟩
       have:=bM F;have:=bM G;have:=bM H;have:=bM I;have:=bM J;have:=bM K;have:=bM L;have:=bM M;exact bE func28 aA ⟨Xke (E8.2 ⟨U,by omega,W,g5,g6,by omega,by omega,by omega,by omega⟩),f.trans a⟩
theorem Rd.of{k:IntKind}{c:Array dE}{t:TypeId}(h:w.heap[b]?=some (.cells c t fz))(hc:c=(zs.map (Value.int k)).toArray):Rd k w (some ⟨b,0,none⟩) zs:=λi a=>
 ⟨b,0,rfl,by rw[Ys h,hc];simp[a]⟩
theorem R3(zs:List Int)(n:Int):-1<=Xm zs n:=by
 unfold Xm;split
 .omega
 .by_cases h:zs.any (λs=>decide (n<=s))=true
  .have:=XaX.2 h;omega
  .rw[I5 (λj b=>by
    by_cases a:n<=zs[j]
    .exact absurd (QS.2 ⟨zs[j],XM b,bN a⟩) h
    .exact bO a)]
   omega
theorem Xi1(c:Conf)(M:RmM)(size:Int)(h:¬(size<1\/c.cH<size)):Qg c M size=if (0<=Xm c.bT size/\Qq M (Xm c.bT size)=0/\M.pl.free.length=0)\/(Xm c.bT size<0/\(M.pl.free.length:Int)<Z9 size c.size) then 5 else 0:=by
 have b:=R3 c.bT size;unfold Qg Di;rw[bJ h];by_cases e:Xm c.bT size=-1
 .rw[bK e];by_cases a:(M.pl.free.length:Int)<Z9 size c.size
  .rw[bK a,bK (.inr ⟨by omega,a⟩)]
  .rw[bJ a,bJ (by omega)]
 .rw[bJ e];by_cases a:Qq M (Xm c.bT size)=0/\M.pl.free.length=0
  .rw[bK (by omega),bK (.inl ⟨by omega,a⟩)]
  .rw[bJ (by omega),bJ (by omega)]
theorem XbN(r:RR)(M:RmM)(size:Int)(w:dD)(h:Qe w r M)(hr:Rd .i64 w r.cp.ca r.c.bT)(hl:r.c.bT.length<=16)(hmost:r.c.cH<=2097152):Xf prog 133 #[.agg (A7 r).toArray,.int .i64 size] w (Grow (.int .i64 (Qg r.c M size)) w):=by
 have j:r.p.f.x.length=M.pl.free.length:=by rw[h.p.ef,XV]
 have A:=R3 r.c.bT size;refine aR func133 ntmps133 aA (bC aA λrb s e1 k p x=>?_);refine bB k aA (bG (XbM r.c r.cp size s) aA λt l=>?_);have i:=l.bP k;have f:=p.trans l;by_cases h0:size<1\/r.c.cH<size
 .have e:Qg r.c M size=3:=by unfold Qg;rw[bK h0]
  rw[e];have y:(!(decide (1<=size) && decide (size<=r.c.cH)))=true:=by
   rcases h0 with h0|h0
   .rw[bO (show ¬1<=size by omega)];rfl
   .rw[bO (show ¬size<=r.c.cH by omega),YE];rfl
  exact bI aA (bE func133 aA ⟨rfl,f⟩)
 .rw[Xi1 r.c M size h0];refine aI aA (by rw[bN (show 1<=size by omega),bN (show size<=r.c.cH by omega)];rfl) (bB i aA (bG (R8 r size t (hr.bR f) (by omega)) aA λu m=>?_));have c:=m.bP i;have d:=f.trans m;by_cases v:0<=Xm r.c.bT size
  .refine bI aA (bB c aA (bG (U4 r M (Xm r.c.bT size) u (h.bQ d)) aA λB n=>?_));have g:=d.trans n;by_cases o:Qq M (Xm r.c.bT size)=0
   .refine aM aA (by rw[o];rfl) (bB (n.bP c) aA ?_);rw[j];by_cases hf:M.pl.free.length=0
    .rw[bK (.inl ⟨v,o,hf⟩)];exact aM aA (by rw[hf];rfl) (bE func133 aA ⟨rfl,g⟩)
    .rw[bJ (by omega)];exact aI aA (by simpa using hf) (aQ 14 Xe (by kernel_rfl) aA λa=>Xd.no Xb a rfl (bO (by omega)) rfl (aF a aA λq b=>bE func133 aA ⟨rfl,g.trans b⟩))
   .rw[bJ (by omega)];exact aI aA (by simpa using o) (aQ 14 Xe (by kernel_rfl) aA λa=>Xd.no Xb a rfl (bO (by omega)) rfl (aF a aA λq b=>bE func133 aA ⟨rfl,g.trans b⟩))
  .refine aS aA (aQ 14 Xe (by kernel_rfl) aA λa=>Xd.yes Xb a rfl (bN (by omega)) rfl (aE a c aA (aE a c aA (aH a (λw' z=>XfQ size r.c.size w' (by omega)) aA (aF a aA λq b=>?_)))));rw[j];by_cases hf:(M.pl.free.length:Int)<Z9 size r.c.size
   .rw[bK (.inr ⟨by omega,hf⟩)];exact bI aA (bE func133 aA ⟨rfl,d.trans b⟩)
   .rw[bJ (by omega)];exact aS aA (bE func133 aA ⟨rfl,d.trans b⟩)
def nilIL:IL:=⟨none,0,[]⟩
def J6(k:Int)(b:Nat):RS:=⟨⟨nilIL,nilIL⟩,k,b,nilIL,none,0,[],nilIL⟩
def Fv(c:Conf)(n:Nat):List RS:=(List.range n).map λk=>J6 (k:Nat) (A5 c (k:Nat)).toNat
theorem Xgm{s:RS}(h:(Fv c n)[k]?=some s):k<n/\s=J6 (k:Nat) (A5 c (k:Nat)).toNat:=by
 unfold Fv at h;rw[XN,QK] at h;obtain⟨j,d,e⟩:=h;obtain⟨a,b⟩:=XC.1 d;simp only[ZM] at a;rw[List.getElem_range] at b;subst b;exact⟨a,e.symm⟩
theorem Xgn(c:Conf)(n:Nat):Fv c (n+1)=Fv c n++[J6 (n:Nat) (A5 c (n:Nat)).toNat]:=by
 unfold Fv;rw[QB,XL];rfl
theorem Xmx(w:dD)(k:Int)(b:Nat):Qb w (J6 k b) (Rv k b) ⟨[],[]⟩:=by
 have a:Q6 w nilIL:=⟨⟨Rd.nil _ _ _,by simp[nilIL]⟩,XF _,(by intro b off s e;cases e)⟩;exact⟨⟨a,a,rfl,rfl⟩,a,a,(λi l c=>by simp[J6] at c),(by intro b off s e;cases e),XF _,(λl c=>by simp[J6] at c),rfl,rfl,rfl,rfl,rfl⟩
theorem Xmy(S:Nat->Prop)(k:Int)(b:Nat):Yi S (J6 k b):=by
 have a:Xj S (none:Option dF):=λb off s e=>by cases e
 exact⟨a,a,a,a,a,λl c=>by simp[J6] at c⟩
theorem P0{l:List dE}{t:TypeId}(h:w.heap[b]?=some (.cells l.toArray t fz)):∀i u,l[i]?=some u -> ∃a',(some ⟨b,0,none⟩:Option dF)=some a'/\w.cell? (a'.add i)=some u:=λi u a=>
 ⟨_,rfl,by rw[Cr,Ys h,XT];simpa using a⟩
theorem XlV(c:Conf)(p:Y4)(w:dD)(hc:Yu w c p)(hm:Zb c=true)(hp:c.bS<=512):Xf prog 128 #[.agg (Zj c p).toArray] w
 (λv w'=>∃r,v=.tuple #[.agg (A7 r).toArray,.int .i64 0]/\r.c=c/\r.cp=p/\Qe w' r (Ii c 0)/\(∀S:Nat->Prop,(∀z,S z->z<w.heap.size)->De S r)/\Xc Xe w w'):=by
 have bn:maxLen=9223372036854775807:=rfl;have hf:=Ye hm;have bo:=hf.n;have bp:=hf.bS;obtain⟨N,hN⟩:=XE (show 0<=c.bS by omega);have em:Bw c=0:=by unfold Bw;rw[bK hm]
 refine aR func128 ntmps128 aA (bC aA λcb w1 e1 ao ap bq=>bC aA λob w2 e2 aq ab br=>?_);have y:=ap.trans ab;have V:=ab.bP ao;refine bB V aA (bG (XbI c p w2 (hc.bR y)) aA λw3 D=>?_);rw[em];have W:=D.bP V;refine aS aA (bB W aA ?_);rw[hN];refine aP aA (Xls N w3 (by omega)) ?_;rintro _ w4 ⟨rp,rfl,a0,ac,ad,P⟩;refine aN aA (bC aA λpb w5 e5 ar au bs=>bF ar aA λw6 ae av bt=>?_);have g:=au.sn av;have a1:=g.bP (P.bP W);refine bB a1 aA (bB ae aA (aO aA (bC aA λtb w7 e7 aw ax bu=>bF aw aA λw8 af ay bv=>?_)));have A:=ax.sn ay;have L:=(((y.trans D).trans P).trans g).trans A;have b9:=((D.trans P).trans g).size;refine Xa.loop (α:=Nat×dE) (λx=>[(1,false,.pointer (some ⟨cb,0,none⟩)),(2,false,.pointer (some ⟨ob,0,none⟩)),(6,false,.pointer (some ⟨tb,0,none⟩)),(7,false,.int .i64 x.1)])
  (λx w'=>x.1<=c.bT.length/\w'.heap[tb]?=some (.cells (Zj c p++[Xr rp.o,Xr rp.f,x.2,.slice none 0 0,.int .i64 0]).toArray 38 (0,0))/\Xl w8.heap.size 253 7 w' x.2 x.1 (fl X9 (Fv c x.1))/\Xc (λz=>z=tb) w8 w') (λx=>c.bT.length-x.1) (0,.slice none 0 0) ⟨rfl,rfl,rfl,rfl,trivial⟩ ⟨XQ _,af,⟨rfl,.inl ⟨rfl,rfl⟩⟩,Xc.refl _ _⟩ ?_
 rintro⟨i,v⟩ w9 ⟨hi,j,Q,m⟩ ih;simp only at hi j Q
 have a3:=m.heap (A.bP a1) (by omega);have a4:=L.bU m (λz a e=>by have:=L.size;omega);have bb:=m.size;refine aN aA (bB a3 aA (aT aA (λa5=>?_) λa5=>?_))
 .have E:i<c.bT.length:=by have:=bL a5;omega
  have bw:=Xan hm E;obtain⟨bk,B⟩:=XE (show 0<=A5 c i by omega);refine aQ 11 (λz=>z=tb\/w8.heap.size<=z) (by kernel_rfl) aA λd=>Xd.loadsAt (3) Xb d rfl rfl rfl a3 (by first|exact λh=>h|(intro h;omega)|assumption) rfl rfl (aG d (λw' az=>XfH c p (i:Nat) w' (hc.bR (a4.bU az (λz a e=>by have:=L.size;rcases e with e|e <;> omega)))) aA (Xd.build Xb d rfl rfl ?_));refine Xd.turn2 d rfl ?_ ?_
  .intro wa F;refine Xn.cJ Xb d rfl (F.bP j) rfl rfl (Xd.cK d rfl λwb T=>Xn.buildSlice Xb d rfl (λ_=>rfl) λb7 wc ec a6 G bx=>Xd.cK d rfl λwd H=>?_);have f:=((F.trans T).trans G).trans H;have l:=Q.bR f (λ_ _ h=>h);have n:=H.bP a6;rw[B] at n;refine Xn.appendS Xb d rfl (base:=w8.heap.size) (xs:=fl X9 (Fv c i)) (news:=X9 (J6 (i:Nat) bk)) l (by have:=f.size;omega) (λe=>by cases e) (λb M _=>.inr (World.ownsRow.lt l b M.symm).1) rfl (P0 n) (Xb6 _) ⟨by omega,by show(i+1)*136<=_;omega⟩ (λ_=>rfl) ?_;intro v2 wf o I b0;obtain⟨va,vn,vc,rfl⟩:=Xl.isSlice o;refine Xd.cK d rfl ?_;intro wg t;refine Xn.store Xb d rfl (t.bP (I.heap (f.bP j) (λe=>by have:=(World.ownsRow.lt l tb (Eq.symm e)).1;omega))) (by first|(intro h;exact rfl)|(intro h;omega)) rfl rfl rfl λwh O J b1=>aF d aA λwi u=>?_;exact aV aA (ih (i+1,.slice va vn vc) _ _ ⟨E,u.bP O,by rw[Xgn,Oh,Rf,B,XB];exact(((o.bR t (λ_ _ h=>h)).bR J (λb M e=>by have:=(World.ownsRow.lt o b M.symm).1;replace e:b=tb:=e;omega)).bR u (λ_ _ h=>h)),(((((m.trans f.gr).bU I (λz a e=>by have:=(World.ownsRow.lt l z e.symm).1;omega)).trans t.gr).trans J).trans u.gr)⟩ (by simp only;omega) ⟨rfl,rfl,rfl,rfl,trivial⟩)
  .intro wa F;refine Xn.buildSlice Xb d rfl (λ_=>rfl) λb7 wb eb a6 T bz=>Xd.cK d rfl λwc G=>Xn.cJ Xb d rfl (((F.trans T).trans G).bP j) rfl rfl (Xd.cK d rfl λwd H=>?_);have f:=((F.trans T).trans G).trans H;have l:=Q.bR f (λ_ _ h=>h);have n:=H.bP (G.bP a6);rw[B] at n;refine Xn.appendS Xb d rfl (base:=w8.heap.size) (xs:=fl X9 (Fv c i)) (news:=X9 (J6 (i:Nat) bk)) l (by have:=f.size;omega) (λe=>by cases e) (λb M _=>.inr (World.ownsRow.lt l b M.symm).1) rfl (P0 n) (Xb6 _) ⟨by omega,by show(i+1)*136<=_;omega⟩ (λ_=>rfl) ?_;intro v2 wf o I b0;obtain⟨va,vn,vc,rfl⟩:=Xl.isSlice o;refine Xd.cK d rfl ?_;intro wg t;refine Xn.store Xb d rfl (t.bP (I.heap (f.bP j) (λe=>by have:=(World.ownsRow.lt l tb (Eq.symm e)).1;omega))) (by first|(intro h;exact rfl)|(intro h;omega)) rfl rfl rfl λwh O J b1=>aF d aA λwi u=>?_;exact aV aA (ih (i+1,.slice va vn vc) _ _ ⟨E,u.bP O,by rw[Xgn,Oh,Rf,B,XB];exact(((o.bR t (λ_ _ h=>h)).bR J (λb M e=>by have:=(World.ownsRow.lt o b M.symm).1;replace e:b=tb:=e;omega)).bR u (λ_ _ h=>h)),(((((m.trans f.gr).bU I (λz a e=>by have:=(World.ownsRow.lt l z e.symm).1;omega)).trans t.gr).trans J).trans u.gr)⟩ (by simp only;omega) ⟨rfl,rfl,rfl,rfl,trivial⟩)
 .have b2:i=c.bT.length:=by have:=bM a5;omega
  subst b2;have C:(Fv c c.bT.length).length=c.bT.length:=by unfold Fv;simp
  obtain⟨sa,scap,rfl,ah,E,a7,U⟩:=Xl.rowsN Q Sj C;rw[C] at j a7
  let R:RR:=⟨c,p,rp,Fv c c.bT.length,sa,scap,[],none,0,0⟩
  have a8:Yn w9 tb R:=by
   show w9.heap[tb]?=some (.cells (Zj c p++[Xr rp.o,Xr rp.f,.slice sa (Fv c c.bT.length).length scap,.slice none 0 0,.int .i64 0]).toArray _ _)
   rw[C];exact j
  refine bB a8 aA ?_;refine bF (m.heap ((((D.trans P).trans g).trans A).bP aq) (by omega)) aA λwa ai K c0=>?_;have b3:∀S:Nat->Prop,Xj S (none:Option dF):=λS b off s e=>by cases e
  have be:=D.size;have b4:Ao wa rp (Dz N):=by
   have h9:Ao w9 rp (Dz N):=by
    have h8:=(a0.bQ g).bQ A;exact⟨h8.o.bW (λb off s e a=>by have:=a0.o.lt b off s e;have:=g.size;replace a:b=tb:=a;omega) m,h8.f.bW (λb off s e a=>by have:=a0.f.lt b off s e;have:=g.size;replace a:b=tb:=a;omega) m,h8.eo,h8.ef⟩
   exact⟨h9.o.bW (λb off s e a=>by have:=ac b off s e;replace a:b=ob:=a;omega) K,h9.f.bW (λb off s e a=>by have:=ad b off s e;replace a:b=ob:=a;omega) K,h9.eo,h9.ef⟩
  have aj:Xj (λz=>z=ob) sa:=λb off s e a=>by have:=U b off s e;replace a:b=ob:=a;omega
  have ak:∀S:Nat->Prop,(∀z,S z->z<w.heap.size)->De S R:=λS hS=>⟨ac.out (λz a=>by have:=hS z a;have:=y.size;omega),ad.out (λz a=>by have:=hS z a;have:=y.size;omega),λb off s e a=>by have:=U b off s e;have:=hS b a;omega,λs hs=>by
   obtain⟨k,hk,rfl⟩:=QU hs;obtain⟨_,e⟩:=Xgm (XD hk);rw[e];exact Xmy S _ _,b3 S,λq hq=>by cases hq⟩
  have b5:Qe wa R (Ii c 0):=by
   refine⟨by show Ao wa rp (Dz c.bS.toNat);rw[hN,XB];exact b4,ah.bW aj K,E.bQ K.size,by show(Fv c c.bT.length).length<=scap;rw[C];exact a7,by show(Fv c _).length=(G6 c _).length;unfold Fv G6;simp,by show(Fv c c.bT.length).length<=16;omega,λk s x h1 h2=>?_,(λi x hx=>by simp[R] at hx),(by intro b off s e;cases e),XF _,by show 0<=1024;omega,rfl,(λq hq=>by cases hq),rfl⟩;obtain⟨_,rfl⟩:=Xgm h1;obtain⟨_,rfl⟩:=O1 h2;exact⟨⟨[],[]⟩,Xmx _ _ _,λe he=>by cases he⟩
  exact aK func128 ai aA ⟨R,rfl,rfl,rfl,b5,ak,(a4.sn K)⟩
end Go.Proofs.YtdeihcnepljjaaaGreatDoor
