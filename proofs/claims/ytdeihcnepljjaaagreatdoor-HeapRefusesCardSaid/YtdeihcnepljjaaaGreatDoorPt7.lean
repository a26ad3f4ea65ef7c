/-
  Texts put together: N1, StOk2, StOk3, Room7, View9, Sto0, Sto1, Plain21, Plain21b, Plain21c, Sto2, Sto3, Sto4.
-/
import Derived.Test.YtdeihcnepljjaaaGreatDoorPt6
import Derived.Test.YtdeihcnepljjaaaGreatDoorQRule18
set_option linter.unusedVariables false
set_option maxRecDepth 100000
namespace Go.Proofs.YtdeihcnepljjaaaGreatDoor
open Go.RowKit
open Go renaming World→dD
open Bool renaming and_eq_true->XK,true_and->YJ,false_and->YZ
open Decidable renaming not_not->YL
open Int renaming toNat_natCast->XB,eq_ofNat_of_zero_le->XE,mul_le_mul_of_nonneg_right->ZD,ediv_nonneg->YM,mul_comm->YQ,toNat_of_nonneg->QG,add_mul->QL,one_mul->QM,le_refl->QN
open List renaming getD_eq_getElem?_getD->XA,getElem?_eq_some_iff->XC,getElem?_eq_getElem->XD,length_set->XG,getElem?_set_self->XH,length_replicate->XI,getElem?_set_ne->XJ,map_append->XL,getElem_mem->XM,getElem?_map->XN,mem_map->XP,length_map->XV,mem_of_getElem?->XW,length_take->XX,mem_of_mem_take->ZA,mem_cons->ZB,getElem?_eq_none->ZF,take_add_one->ZH,map_cons->ZK,take_length->ZL,length_range->ZM,mem_or_eq_of_mem_set->ZO,mem_cons_self->ZP,mem_of_mem_drop->ZT,map_congr_left->ZW,flatMap_cons->ZY,map_set->ZZ,mem_cons_of_mem->YC,eq_nil_of_length_eq_zero->YG,findIdx?_eq_some_iff_getElem->YO,getElem_map->YU,getElem?_take->YV,getElem?_toArray->YW,mem_replicate->Y2,range_succ->QB,any_eq_false->QE,sum_cons->QF,append_nil->QP,mem_append_left->QR,length_tail->QT,mem_filter->QX,map_take->QZ
open Nat renaming le_refl->XF,zero_add->XT,le_trans->ZN,add_assoc->YR,div_add_mod->QA,mul_comm->QC,mod_lt->QJ,strongRecOn->QQ
open Go.Proofs.Tryz (func100 func102 func106 func111 func112 func120 func126 func131 func171 func50 func58 func67 func73 func99 ntmps100 ntmps102 ntmps106 ntmps111 ntmps112 ntmps120 ntmps126 ntmps131 ntmps171 ntmps50 ntmps58 ntmps67 ntmps73 ntmps99 prog)
variable {A:Ar}{V:ArV}{c:Conf}{l':IL}{ahead by' cS h cH size cN u who z:Int}{lg:List (Nat×List Nat)}{th:List (Option ThM)}{ps:List IL}{bs l p zs:List Int}{l2 ws:List Nat}{cs rest xs:List Value}{N at' b base cap d fuel g i j k lm lo m n o qb sz t tm ty vb xb y:Nat}{fz:Nat×Nat}{f:Nat->Int}{G:Nat->Pg}{B C F F' Fr Q S S' T X:Nat->Prop}{pd pd2:Option (Nat×PlcM)}{a:Option Addr}{pg:PgL}{pl':PlM}{q:Plc}{R:Rm}{M:RmM}{x x':Sm}{s s':StM}{α:Type}{v:Value}{w w' w'' w0 w1 w2:dD}{cells:α->List Value}
section
variable {c:Conf}{s:StM}{pd:Option (Nat×PlcM)}
theorem At{k:Int}{m:MvM}(h:Xy s k=some m):∃j:Nat,k=j/\j<s.mv.length/\s.mv[j]?=some (some m):=by
 unfold Xy at h;split at h
 .rename_i b
  obtain⟨j,rfl⟩:=XE b;rw[XB,XA] at h;cases a:s.mv[j]? with
  |none=>rw[a] at h;cases h
  |some x=>
   rw[a] at h;have:x=some m:=h;subst this;exact⟨j,rfl,(XC.1 a).1,a⟩
 .cases h
theorem Dx{m:MvM}(h:s.mv[j]?=some (some m)):Xy s (j:Nat)=some m:=by
 unfold Xy;rw[bK (by omega),XB,XA,h];rfl
theorem XcC{o:Int}{t:ThM}(h:B3 s o=some t):∃j:Nat,o=j/\j<s.th.length/\s.th[j]?=some (some t):=by
 unfold B3 at h;split at h
 .rename_i b
  obtain⟨j,rfl⟩:=XE b;rw[XB,XA] at h;cases a:s.th[j]? with
  |none=>rw[a] at h;cases h
  |some x=>
   rw[a] at h;have:x=some t:=h;subst this;exact⟨j,rfl,(XC.1 a).1,a⟩
 .cases h
theorem Hg{t:ThM}(h:s.th[j]?=some (some t)):B3 s (j:Nat)=some t:=by
 unfold B3;rw[bK (by omega),XB,XA,h];rfl
theorem J9{l:List (Option α)}{v:Option α}{x:α}(h:(l.set k v)[j]?=some (some x)):(j=k/\v=some x/\k<l.length)\/(j≠k/\l[j]?=some (some x)):=by
 by_cases e:k=j
 .subst e;by_cases a:k<l.length
  .rw[XH a] at h;exact .inl ⟨rfl,Option.some.inj h,a⟩
  .rw[ZF (by rw[XG];omega)] at h;cases h
 .rw[XJ e] at h;exact .inr ⟨λh=>e h.symm,h⟩
theorem Xkq{v:Option MvM}{j:Int}{m:MvM}(hs:s'.mv=s.mv.set k v)(h:Xy s' j=some m):(j=k/\v=some m)\/(j≠k/\Xy s j=some m):=by
 obtain⟨i,rfl,_,a⟩:=At h;rw[hs] at a;rcases J9 a with⟨rfl,e,_⟩|⟨b,a⟩
 .exact .inl ⟨rfl,e⟩
 .exact .inr ⟨by omega,Dx a⟩
theorem Uk{v:Option MvM}{j:Int}{m:MvM}(hs:s'.mv=s.mv.set k v)(hj:j≠k)(h:Xy s j=some m):Xy s' j=some m:=by
 obtain⟨i,rfl,_,a⟩:=At h;refine Dx ?_;rw[hs,XJ (by omega)];exact a
theorem XdA(h:Zb c=true){k n a:Int}(hk:0<=k/\k<c.bT.length)(hn:0<=n/\n<c.bS)(ha:0<=a/\a<A5 c k):Yk c ⟨k,n,a,none,0,[]⟩=true:=by
 unfold Yk;rw[bJ (by simp only;omega)];simp only[XK,Mm];exact⟨⟨hk,hn⟩,ha⟩
theorem O2(h:s.OkP c pd){k n a:Int}(ho:Zd s.rm k n a≠-1):Yk c ⟨k,n,a,none,0,[]⟩=true/\0<=k/\k<c.bT.length:=by
 obtain⟨j,x,rfl,i,_,_,b,d,f,g⟩:=U9 h.rm ho;exact⟨XdA h.may (by omega) ⟨b,d⟩ ⟨f,g⟩,by omega,by omega⟩
theorem Tk(h:Zb c=true){k n a:Int}(hv:Yk c ⟨k,n,a,none,0,[]⟩=true)(hk:k≠-1):0<=Ho c k n a/\Ho c k n a+Ya c k<=c.size*c.bS/\8<=Ya c k/\Ya c k<=c.size:=by
 obtain⟨j,pg,ix,e1,e2,e3,b,d,f,g,i,l,m,o⟩:=If h hv hk;unfold Ho Ai;rw[bK ⟨hv,hk⟩];simp only at e1 e2 e3
 subst e1;subst e2;subst e3;simp only
 omega
theorem StM.OkP.bytes(h:s.OkP c pd)(hl:bs.length=s.bs.length)(hb:Qi bs)(n:Int):(Ql {s with bs:=bs} n).OkP c pd:=
 ⟨h.may,h.rm.cT n,h.kl,h.kr,by show(bs.length:Int)=_;rw[hl];exact h.bl,hb,h.tl,h.ml,h.size,h.small,h.large,h.linj,h.mv,h.own,h.ps,h.pl⟩
theorem StM.OkP.tot(h:s.OkP c pd)(n:Int):(Ql s n).OkP c pd:=h.bytes (bs:=s.bs) rfl h.bi n
theorem P6(h:s.OkP c pd){t:ThM}(ht:s.th[o]?=some (some t))(hc:t.q.cL≠-1):Xm c.bT t.size≠-1:=λe=>by
 obtain⟨n,r,_,e2,_⟩:=h.large o t ht e;rw[e2] at hc;exact hc rfl
theorem Xb5(M:RmM)(k who:Int):(Qj M k who).lg=M.lg:=by unfold Qj;split;rfl;split <;> rfl
theorem Xb1(M:RmM)(k n i:Int):(Q2 M k n i).lg=M.lg:=by unfold Q2;split;rfl;split <;> rfl
theorem Xgf(M:RmM)(k n i who:Int):(Qu M k n i who).lg=M.lg:=by unfold Qu;split <;> rfl
structure XhQ(c:Conf)(s:StM)(k:Nat):Prop where
 plan:Xdd s.rm k
 kl:k<c.bT.length
 nomv:Xy s (k:Nat)=none
 who:∃(o:Nat),∃t,Zd s.rm k (Ym s.rm k).1 (Ym s.rm k).2.1=o/\s.th[o]?=some (some t)/\t.q=⟨(k:Nat),(Ym s.rm k).1,(Ym s.rm k).2.1,[]⟩
 f:Yk c ⟨(k:Nat),(Ym s.rm k).1,(Ym s.rm k).2.1,none,0,[]⟩=true
 t:Yk c ⟨(k:Nat),(Ym s.rm k).2.2.1,(Ym s.rm k).2.2.2,none,0,[]⟩=true
theorem Xai(h:s.Ok c)(hB:Br s k=true):XhQ c s k:=by
 unfold Br at hB;simp only[XK] at hB;obtain⟨⟨r,A⟩,u⟩:=hB;have P:=XkZ h.rm u;have l:Xy s (k:Nat)=Option.none:=by simpa using r
 obtain⟨f1,f2,f3⟩:=O2 h P.own;have d:∃(o:Nat),∃t,Zd s.rm k (Ym s.rm k).1 (Ym s.rm k).2.1=o/\s.th[o]?=some (some t)/\t.q=⟨(k:Nat),(Ym s.rm k).1,(Ym s.rm k).2.1,[]⟩:=by
  rcases h.own _ _ _ P.own with⟨o,t,f,i,b|⟨m,b,_⟩⟩|⟨o,g⟩
  .exact⟨o,t,f,i,b⟩
  .rw[l] at b;cases b
  .cases g
 obtain⟨o,t,f,i,b⟩:=d;refine⟨P,by omega,l,⟨o,t,f,i,b⟩,f1,?_⟩;obtain⟨p,B⟩:=Xcx h.rm (P.e (o:Int) (by omega));rw[P.n _ (by omega),P.a _ (by omega)] at p;have q:=p k (Ym s.rm k).2.2.1 (Ym s.rm k).2.2.2;rw[bK ⟨rfl,rfl,rfl⟩] at q;obtain⟨j,x,e,C,_,_,v,w,y,z⟩:=U9 (h.rm.take k (o:Int)) (k:=k) (n:=(Ym s.rm k).2.2.1) (a:=(Ym s.rm k).2.2.2) (by rw[q];omega);exact XdA h.may (by omega) ⟨v,w⟩ ⟨y,z⟩
theorem StM.OkP.begin(h:s.Ok c)(k:Nat):(Yw c s k).Ok c:=by
 unfold Yw;by_cases v:Br s k=true
 .rw[bK v];obtain⟨P,F,G,⟨o,t,w,A,H⟩,hf,ht⟩:=Xai h v;rw[w];obtain⟨i,B⟩:=Xcx h.rm (P.e (o:Int) (by omega));rw[P.n _ (by omega),P.a _ (by omega)] at i B;obtain⟨pf,fa,pt,ta⟩:True/\True/\True/\True:=⟨trivial,trivial,trivial,trivial⟩;have C:∀(s':StM),s'.mv=s.mv.set k (some (Ks c s.rm k)) -> ∀j m,Xy s j=some m->Xy s' j=some m:=λs' I j m b=>Uk I (λe=>by rw[e,G] at b;cases b) b;have bV:∀{j n a:Int},Zd s.rm j n a≠-1->Zd (Qj s.rm k o) j n a=Zd s.rm j n a:=λu=>by
   rw[i,bJ];rintro⟨rfl,rfl,rfl⟩;exact u B
  refine⟨h.may,h.rm.take _ _,h.kl,h.kr,h.bl,h.bi,h.tl,by show(s.mv.set _ _).length=_;rw[XG];exact h.ml,h.size,λd f x y=>?_,λd f x y=>?_,h.linj,λj m b=>?_,λj n a b=>.inl ?_,(by rintro _ _ ⟨⟩),(by rintro _ _ ⟨⟩)⟩
  .obtain⟨l,p,q⟩:=h.small d f x y;exact⟨l,p,(bV (by rw[q];omega)).trans q⟩
  .show ∃n r,(n,r)∈(Qj s.rm k o).lg/\_
   rw[Xb5];exact h.large d f x y
  .rcases J9 b with⟨rfl,e,_⟩|⟨u,b⟩
   .have em:=Option.some.inj e;subst em;obtain⟨J,O,Q,R⟩:=Tk h.may hf (by omega);obtain⟨K,S,_,_⟩:=Tk h.may ht (by omega);refine⟨⟨o,t,w,A,H⟩,?_,λe=>P.ne e.1,?_,?_,?_,?_⟩
    .show Zd (Qj s.rm j o) j _ _=Zd s.rm j _ _
     rw[w,i,bK ⟨rfl,rfl,rfl⟩]
    .show(((Ho c j _ _).toNat:Nat):Int)=_
     exact QG J
    .show(((Ho c j _ _).toNat:Nat):Int)=_
     exact QG K
    .show(((Ya c j).toNat:Nat):Int)=_
     exact QG (by omega)
    .show 0<(Ya c j).toNat
     omega
   .obtain⟨l,p,q⟩:=h.mv j m b;have L:=l;obtain⟨d,f,M,_⟩:=l;exact⟨L,(bV (by rw[p,M];omega)).trans p,q⟩
  .by_cases e:j=k/\n=(Ym s.rm k).2.2.1/\a=(Ym s.rm k).2.2.2
   .obtain⟨rfl,rfl,rfl⟩:=e;refine⟨o,t,?_,A,.inr ⟨Ks c s.rm k,?_,rfl,rfl⟩⟩
    .show Zd (Qj s.rm k o) k _ _=_
     rw[i,bK ⟨rfl,rfl,rfl⟩]
    .refine Dx ?_;show(s.mv.set k _)[k]?=_
     rw[XH (by rw[h.ml];exact F)]
   .have e1:Zd (Qj s.rm k o) j n a=Zd s.rm j n a:=by rw[i,bJ e]
    rw[e1] at b;show ∃(d:Nat),∃t,Zd (Qj s.rm k o) j n a=d/\_
    rw[e1];rcases h.own j n a b with⟨d,f,D,E,z|⟨m,z,N⟩⟩|⟨_,g⟩
    .exact⟨d,f,D,E,.inl z⟩
    .exact⟨d,f,D,E,.inr ⟨m,C _ rfl j m z,N⟩⟩
    .cases g
 .rw[bJ v];exact h
theorem Kr(h:s.OkP c pd){m:MvM}(hm:s.mv[k]?=some (some m)):m.f+m.size<=s.bs.length/\m.t+m.size<=s.bs.length/\0<m.size/\(m.f+m.size<=m.t\/m.t+m.size<=m.f):=by
 obtain⟨⟨o,t,e1,e2,e3⟩,y,z,D,E,F,G⟩:=h.mv k m hm;have H:k<c.bT.length:=by have:=(XC.1 hm).1;have:=h.ml;omega
 have p:=h.small o t e2 (P6 h e2 (by rw[e3];simp only;omega));rw[e3] at p;have d:=(O2 h (k:=(k:Nat)) (n:=m.pf) (a:=m.fa) (by rw[p.2.2];omega)).1;have f:=(O2 h (k:=(k:Nat)) (n:=m.pt) (a:=m.ta) (by rw[y,e1];omega)).1;have I:=Tk h.may d (by omega);have J:=Tk h.may f (by omega);have C:=h.bl;refine⟨by omega,by omega,by omega,?_⟩;obtain⟨A,g,i,B,r,u,K,L,M,N,O,P,Q,R⟩:=If h.may d (by simp only;omega);obtain⟨b,j,l,f1,f2,f3,S,T,U,V,W,g6,g7,g8⟩:=If h.may f (by simp only;omega);simp only at B r u f1 f2 f3
 have v:A=k:=by omega
 have w:b=k:=by omega
 subst v;subst w;have x1:Ho c (b:Nat) m.pf m.fa=(g:Int)*c.size+(i:Int)*Ya c (b:Nat):=by unfold Ho Ai;rw[bK ⟨d,by simp only;omega⟩];simp only;rw[r,u]
 have x2:Ho c (b:Nat) m.pt m.ta=(j:Int)*c.size+(l:Int)*Ya c (b:Nat):=by unfold Ho Ai;rw[bK ⟨f,by simp only;omega⟩];simp only;rw[f2,f3]
 have q:0<=c.size:=by have:=(D9 h.may).1;omega
 rcases Nat.lt_trichotomy g j with x|heq|hgt
 .have:((g:Int)+1)*c.size<=j*c.size:=ZD (by omega) q;rw[QL,QM] at this;omega
 .subst heq;rcases Nat.lt_trichotomy i l with x|heq|hgt
  .have:((i:Int)+1)*Ya c (b:Nat)<=l*Ya c (b:Nat):=ZD (by omega) (by omega);rw[QL,QM] at this;omega
  .exact absurd ⟨by omega,by omega⟩ z
  .have:((l:Int)+1)*Ya c (b:Nat)<=i*Ya c (b:Nat):=ZD (by omega) (by omega);rw[QL,QM] at this;omega
 .have:((j:Int)+1)*c.size<=g*c.size:=ZD (by omega) q;rw[QL,QM] at this;omega
theorem XdY{f:Nat}(h:Qi bs):Qi (Ia bs t f n):=λx hx=>by
 rcases Nu hx with hx|hx
 .exact h x hx
 .unfold sub at hx;exact h x (ZT (ZA hx))
theorem Tz(m:MvM)(n:Int):Zv m n<=m.size-m.cE:=by unfold Zv Ed;omega
theorem StM.OkP.step(h:s.OkP c pd){m:MvM}(hm:s.mv[k]?=some (some m))(n:Int):(Ae s m n).OkP c pd:=by
 obtain⟨a,b,f,_⟩:=Kr h hm;have g:=Tz m n;have d:=(h.mv k m hm).2.2.2.2.2.2;refine h.bytes ?_ ?_ _
 .exact Xci (size:=m.size) (by omega) a b
 .unfold Jk;split
  .exact h.bi
  .exact XdY h.bi
theorem StM.OkP.go(h:s.Ok c)(k:Nat)(n:Int):(Yo s k n).Ok c:=by
 unfold Yo;cases M:Xy s (k:Nat) with
 |none=>exact h
 |some m=>
  obtain⟨j,ej,p,hm⟩:=At M;obtain rfl:k=j:=by omega
  have C:=StM.OkP.step h hm n;obtain⟨⟨o,t,e1,e2,e3⟩,N,P,a4,a5,a6,a7⟩:=h.mv k m hm;simp only
  by_cases I:m.cE+Zv m n<m.size
  .rw[bK I];have Q:∀j m',Xy s j=some m' -> ∃J,Xy {Ae s m n with mv:=s.mv.set k (some {m with cE:=m.cE+Zv m n})} j=some J/\J.pt=m'.pt/\J.ta=m'.ta:=λj m' p=>by
    by_cases e:j=k
    .subst e;rw[M] at p;cases p
     refine⟨{m with cE:=m.cE+Zv m n},Dx ?_,rfl,rfl⟩;show(s.mv.set k _)[k]?=_
     rw[XH p]
    .exact⟨m',Uk (s:=s) rfl e p,rfl,rfl⟩
   refine⟨h.may,C.rm,h.kl,h.kr,C.bl,C.bi,h.tl,by show(s.mv.set _ _).length=_;rw[XG];exact h.ml,h.size,h.small,h.large,h.linj,λj m' p=>?_,λj n' a p=>?_,(by rintro _ _ ⟨⟩),(by rintro _ _ ⟨⟩)⟩
   .rcases J9 p with⟨rfl,e,_⟩|⟨u,p⟩
    .have em:=Option.some.inj e;subst em;exact⟨⟨o,t,e1,e2,e3⟩,N,P,a4,a5,a6,I⟩
    .exact h.mv j m' p
   .rcases h.own j n' a p with⟨f,l,z,D,v|⟨m',v,E,F⟩⟩|⟨_,g⟩
    .exact .inl ⟨f,l,z,D,.inl v⟩
    .obtain⟨J,y,w,x⟩:=Q j m' v;exact .inl ⟨f,l,z,D,.inr ⟨J,y,w.trans E,x.trans F⟩⟩
    .cases g
  .rw[bJ I];have L:=P6 h e2 (by rw[e3];simp only;omega);obtain⟨O,s2,K⟩:=h.small o t e2 L;rw[e3] at O K;simp only at O K
   have R:∀j n' a,Zd (Ae s m n).rm j n' a=Zd s.rm j n' a:=λ_ _ _=>rfl;obtain⟨G1,S⟩:=Xes C.rm (k:=(k:Nat)) (n:=m.pf) (i:=m.fa) (by rw[R,K];omega);have bV:∀{j n' a:Int},¬(j=k/\n'=m.pf/\a=m.fa)->Zd (Q2 (Ae s m n).rm k m.pf m.fa) j n' a=Zd s.rm j n' a:=λu=>by rw[S,bJ u];rfl
   have T:m.who.toNat=o:=by omega
   have U:Qw s m.who=t.size:=by unfold Qw;rw[e1,Hg e2]
   rw[T,U];have A1:∀{f:Nat} {l:ThM},(s.th.set o (some ⟨t.size,⟨(k:Nat),m.pt,m.ta,[]⟩⟩))[f]?=some (some l)->(f=o/\l=⟨t.size,⟨(k:Nat),m.pt,m.ta,[]⟩⟩)\/(f≠o/\s.th[f]?=some (some l)):=λh=>by
    rcases J9 h with⟨a,b,_⟩|hb
    .exact .inl ⟨a,(Option.some.inj b).symm⟩
    .exact .inr hb
   have Ez:∀{f:Nat} {l:ThM},f≠o->s.th[f]?=some (some l)->(s.th.set o (some ⟨t.size,⟨(k:Nat),m.pt,m.ta,[]⟩⟩))[f]?=some (some l):=λu h=>by rw[XJ (Ne.symm u)];exact h
   have tnew:(s.th.set o (some ⟨t.size,⟨(k:Nat),m.pt,m.ta,[]⟩⟩))[o]?=some (some ⟨t.size,⟨(k:Nat),m.pt,m.ta,[]⟩⟩):=by rw[XH ((XC.1 e2).1)]
   refine⟨h.may,C.rm.give _ _ _,h.kl,h.kr,C.bl,C.bi,by show((s.th.set _ _).length:Int)=_;rw[XG];exact h.tl,by show(s.mv.set _ _).length=_;rw[XG];exact h.ml,λf l q=>?_,λf l q A=>?_,λf l q A=>?_,λf G l V q A W H hp=>?_,λj m' p=>?_,λj n' a p=>.inl ?_,(by rintro _ _ ⟨⟩),(by rintro _ _ ⟨⟩)⟩
   .rcases A1 q with⟨rfl,rfl⟩|⟨_,q⟩
    .exact h.size f t e2
    .exact h.size f l q
   .rcases A1 q with⟨rfl,rfl⟩|⟨u,q⟩
    .refine⟨O,rfl,?_⟩;refine(bV ?_).trans (N.trans e1);rintro⟨_,y,w⟩;exact P ⟨y.symm,w.symm⟩
    .obtain⟨y,w,x⟩:=h.small f l q A;refine⟨y,w,(bV ?_).trans x⟩;rintro⟨d1,d2,d3⟩;rw[d1,d2,d3,K] at x;omega
   .show ∃n' r,(n',r)∈(Q2 (Ae s m n).rm k m.pf m.fa).lg/\_
    rw[Xb1];rcases A1 q with⟨rfl,rfl⟩|⟨_,q⟩
    .exact absurd A L
    .exact h.large f l q A
   .rcases A1 q with⟨rfl,rfl⟩|⟨_,q⟩
    .exact absurd W (by simp only;omega)
    .rcases A1 A with⟨rfl,rfl⟩|⟨_,A⟩
     .exact absurd H (by simp only;omega)
     .exact h.linj f G l V q A W H hp
   .rcases J9 p with⟨_,e,_⟩|⟨u,p⟩
    .cases e
    .obtain⟨⟨f,l,y,w,x⟩,H,c3⟩:=h.mv j m' p;have B:f≠o:=λe=>by
      subst e;rw[e2] at w;cases w
      rw[e3] at x;have:=congrArg PlcM.cL x;simp only at this
      omega
     refine⟨⟨f,l,y,Ez B w,x⟩,(bV ?_).trans H,c3⟩;rintro⟨d,_⟩;omega
   .replace p:Zd (Q2 (Ae s m n).rm k m.pf m.fa) j n' a≠-1:=p;have u:¬(j=k/\n'=m.pf/\a=m.fa):=λe=>by rw[S,bK e] at p;exact p rfl
    show ∃(f:Nat),∃l,Zd (Q2 (Ae s m n).rm k m.pf m.fa) j n' a=f/\_
    rw[bV u] at p⊢;rcases h.own j n' a p with⟨f,l,z,D,v|⟨m',v,E,F⟩⟩|⟨_,g⟩
    .have B:f≠o:=λe=>by
      subst e;rw[e2] at D;cases D
      rw[e3] at v;exact u ⟨(congrArg PlcM.cL v).symm,(congrArg PlcM.cR v).symm,(congrArg PlcM.idx v).symm⟩
     exact⟨f,l,z,Ez B D,.inl v⟩
    .by_cases ek:j=k
     .subst ek;rw[M] at v;cases v
      have:(f:Int)=o:=by rw[<-z,<-E,<-F,N,e1]
      obtain rfl:f=o:=by omega
      exact⟨f,_,z,tnew,.inl (by rw[E,F])⟩
     .obtain⟨i,ei,_,hi⟩:=At v;subst ei;obtain⟨⟨G,V,y,w,x⟩,H,_⟩:=h.mv i m' hi;have a0:G=f:=by
       have:(G:Int)=f:=by rw[<-y,<-H,E,F];exact z
       omega
      subst a0;have B:G≠o:=λe=>by
       subst e;rw[e2] at w;cases w
       rw[e3] at x;have:=congrArg PlcM.cL x;simp only at this
       omega
      exact⟨G,l,z,Ez B D,.inr ⟨m',Uk (s:=s) rfl ek v,E,F⟩⟩
    .cases g
theorem StM.OkP.finish(h:s.Ok c)(k:Int):(Zh s k).Ok c:=by
 unfold Zh;split
 .exact h
 .exact StM.OkP.go h _ _
end
section
variable {c:Conf}{s:StM}{pd:Option (Nat×PlcM)}
theorem XeI(hb:Qi bs)(hl:Qi l):∀k,Qi (Q9 c q bs i l k)
 |0=>hb
 |k+1=>λx hx=>by
  unfold Q9 at hx;rcases ZO hx with hx|rfl
  .exact XeI hb hl k x hx
  .rw[XA];cases hg:l[k]? with
   |none=>exact⟨QN _,by decide⟩
   |some y=>exact hl y (XW hg)
theorem Sw(n:Nat):Qi (X6 n):=λx a=>by
 unfold X6 at a;rw[Y2] at a;omega
theorem StM.OkP.put(h:s.OkP c pd)(q:PlcM)(i:Nat)(hl:Qi l):(Yp c s q i l).OkP c pd:=
 h.bytes (Ko _ _ _ _ _ _) (XeI h.bi hl _) _
theorem Xmm(hw:0<=who)(hf:Qg c M size=0)(hp:Xm c.bT size≠-1):Av c M who size=Qj M (Xm c.bT size) who/\Bz c M who size=⟨Xm c.bT size,Ex M (Xm c.bT size) who,Ew M (Xm c.bT size) who,[]⟩/\C7 c M who size=Gp M (Xm c.bT size) who:=by
 refine⟨?_,?_,?_⟩
 .unfold Av;rw[bJ (by omega),bJ (by omega),bJ hp]
 .unfold Bz;rw[bJ (by omega),bJ (by omega),bJ hp]
 .unfold C7;rw[bJ (by omega),bJ (by omega),bJ hp]
theorem Xml(hw:0<=who)(hf:Qg c M size=0)(hp:Xm c.bT size=-1):Av c M who size=Ev M (Z9 size c.size).toNat/\Bz c M who size=⟨-1,(M.pl.free.getD 0 0:Nat),0,X4 (M.pl.free.take (Z9 size c.size).toNat).tail⟩:=by
 refine⟨?_,?_⟩
 .unfold Av;rw[bJ (by omega),bJ (by omega),bK hp]
 .unfold Bz;rw[bJ (by omega),bJ (by omega),bK hp]
theorem Tx(hf:Yt c s size=0):(1<=size/\size<=c.cH)/\(Fy c s size=none->Qg c s.rm size=0):=by
 unfold Yt at hf;split at hf
 .exact absurd hf (by decide)
 .rename_i hr
  refine⟨by omega,λa=>?_⟩;split at hf
  .rename_i b
   unfold Fy at a;cases hm:Xy s (Xm c.bT size) with
   |none=>rw[hm] at b;cases b
   |some m=>
    rw[hm] at a;simp only at a
    split at a
    .cases a
    .rename_i d
     obtain⟨j,ej,_⟩:=At hm;unfold Qg;rw[bJ hr,bJ];unfold Di;rw[bJ (by omega)];omega
  .exact hf
theorem A1{l:List (Option ThM)}{o1:Nat}{t t1:ThM}(h:(l.set o (some t))[o1]?=some (some t1)):(o1=o/\t1=t)\/(o1≠o/\l[o1]?=some (some t1)):=by
 rcases J9 h with⟨a,b,_⟩|hb
 .exact .inl ⟨a,(Option.some.inj b).symm⟩
 .exact .inr hb
theorem Ez{l:List (Option ThM)}{o1:Nat}{v:Option ThM}{t1:ThM}(hne:o1≠o)(h:l[o1]?=some (some t1)):(l.set o v)[o1]?=some (some t1):=by rw[XJ (Ne.symm hne)];exact h
theorem StM.OkP.over(h:s.OkP c pd){m:MvM}(ho:s.th[o]?=some none)(hs:1<=size/\size<=c.cH)(hk:Xm c.bT size=(k:Nat))(hm:s.mv[k]?=some (some m))(hpd:∀o' q,pd=some (o',q)->o'=o):StM.OkP c {s with mv:=s.mv.set k none,rm:=Qu s.rm k m.pt m.ta o,th:=s.th.set o (some ⟨size,⟨(k:Nat),m.pt,m.ta,[]⟩⟩)} pd:=by
 obtain⟨⟨D,T,e1,e2,e3⟩,M,U,_⟩:=h.mv k m hm;have a7:D≠o:=λe=>by subst e;rw[ho] at e2;cases e2
 obtain⟨W1,E⟩:=XkG h.rm (k:=(k:Nat)) (n:=m.pt) (i:=m.ta) (who:=(o:Nat)) (by omega) (by rw[M,e1];omega);have bV:∀{j n a:Int},¬(j=k/\n=m.pt/\a=m.ta)->Zd (Qu s.rm k m.pt m.ta o) j n a=Zd s.rm j n a:=λv=>by rw[E,bJ v]
 have V:=h.small D T e2 (P6 h e2 (by rw[e3];simp only;omega));have other:∀{l:Nat} {b:ThM},s.th[l]?=some (some b)->Zd s.rm b.q.cL b.q.cR b.q.idx=l->b.q.bS=[] -> ¬(b.q.cL=k/\b.q.cR=m.pt/\b.q.idx=m.ta):=λ{l b} f p z=>by
  rintro⟨W,F,G⟩;rw[W,F,G,M,e1] at p;obtain rfl:D=l:=by omega
  rw[e2] at f;cases f
  rw[e3] at F G;exact U ⟨F,G⟩
 have N:∀{j:Int} {m':MvM},Xy {s with mv:=s.mv.set k none,rm:=Qu s.rm k m.pt m.ta o,th:=s.th.set o (some ⟨size,⟨(k:Nat),m.pt,m.ta,[]⟩⟩)} j=some m'->j≠k/\Xy s j=some m':=λhj=>by
  rcases Xkq (s:=s) rfl hj with⟨_,e⟩|hj
  .cases e
  .exact hj
 refine⟨h.may,h.rm.own _ _ _ _,h.kl,h.kr,h.bl,h.bi,by show((s.th.set _ _).length:Int)=_;rw[XG];exact h.tl,by show(s.mv.set _ _).length=_;rw[XG];exact h.ml,λl b f=>?_,λl b f p=>?_,λl b f p=>?_,λl o3 b t3 f z w A hp=>?_,λj m' hj=>?_,λj n a hj=>?_,λo' q H I=>?_,λo' q H I=>?_⟩
 .rcases A1 f with⟨rfl,rfl⟩|⟨_,f⟩
  .exact hs
  .exact h.size l b f
 .rcases A1 f with⟨rfl,rfl⟩|⟨v,f⟩
  .refine⟨hk.symm,rfl,?_⟩;show Zd (Qu s.rm k m.pt m.ta l) k m.pt m.ta=l
   rw[E,bK ⟨rfl,rfl,rfl⟩]
  .obtain⟨J,t,B⟩:=h.small l b f p;exact⟨J,t,(bV (other f B t)).trans B⟩
 .show ∃n' r,(n',r)∈(Qu s.rm k m.pt m.ta o).lg/\_
  rw[Xgf];rcases A1 f with⟨rfl,rfl⟩|⟨_,f⟩
  .rw[hk] at p;omega
  .exact h.large l b f p
 .rcases A1 f with⟨rfl,rfl⟩|⟨_,f⟩
  .exact absurd w (by simp only;omega)
  .rcases A1 z with⟨rfl,rfl⟩|⟨_,z⟩
   .exact absurd A (by simp only;omega)
   .exact h.linj l o3 b t3 f z w A hp
 .rcases J9 hj with⟨_,e,_⟩|⟨v,hj⟩
  .cases e
  .obtain⟨⟨l,b,J,t,B⟩,c2,A⟩:=h.mv j m' hj;exact⟨⟨l,b,J,Ez (λe=>by subst e;rw[ho] at t;cases t) t,B⟩,(bV (λd=>by have:=d.1;omega)).trans c2,A⟩
 .replace hj:Zd (Qu s.rm k m.pt m.ta o) j n a≠-1:=hj;show(∃(l:Nat),∃b,Zd (Qu s.rm k m.pt m.ta o) j n a=l/\_)\/_
  by_cases e:j=k/\n=m.pt/\a=m.ta
  .obtain⟨rfl,rfl,rfl⟩:=e;exact .inl ⟨o,_,by rw[E,bK ⟨rfl,rfl,rfl⟩],XH ((XC.1 ho).1),.inl rfl⟩
  .rw[bV e] at hj⊢;rcases h.own j n a hj with⟨l,b,O,u,x|⟨m',x,P,Q⟩⟩|g
   .exact .inl ⟨l,b,O,Ez (λe=>by subst e;rw[ho] at u;cases u) u,.inl x⟩
   .have R:j≠k:=λe2=>by
     subst e2;rw[Dx hm] at x;cases x
     exact e ⟨rfl,P.symm,Q.symm⟩
    exact .inl ⟨l,b,O,Ez (λe=>by subst e;rw[ho] at u;cases u) u,.inr ⟨m',Uk (s:=s) rfl R x,P,Q⟩⟩
   .exact .inr g
 .obtain⟨K,L,C,p4⟩:=h.ps o' q H I;have y:¬(q.cL=k/\q.cR=m.pt/\q.idx=m.ta):=λe=>by
   refine C m ?_ ⟨e.2.1.symm,e.2.2.symm⟩;rw[e.1];exact Dx hm
  refine⟨K,(bV y).trans L,λm' S=>C m' (N S).2,λl b f=>?_⟩;rcases A1 f with⟨rfl,rfl⟩|⟨_,f⟩
  .intro e;rw[<-e] at y;exact y ⟨rfl,rfl,rfl⟩
  .exact p4 l b f
 .obtain⟨n,r,K,L,C⟩:=h.pl o' q H I;refine⟨n,r,by show(n,r)∈(Qu s.rm k m.pt m.ta o).lg;rw[Xgf];exact K,L,λl b f w=>?_⟩;rcases A1 f with⟨rfl,rfl⟩|⟨_,f⟩
  .exact absurd w (by simp only;omega)
  .exact C l b f w
theorem StM.OkP.block(h:s.OkP c pd)(ho:s.th[o]?=some none)(hs:1<=size/\size<=c.cH)(hk:Xm c.bT size=(k:Nat))(hE:Gp s.rm k o=0):StM.OkP c {s with rm:=Qj s.rm k o,th:=s.th.set o (some ⟨size,⟨(k:Nat),Ex s.rm k o,Ew s.rm k o,[]⟩⟩)} pd:=by
 obtain⟨t,F⟩:=Xcx h.rm hE;have bV:∀{j n a:Int},Zd s.rm j n a≠-1->Zd (Qj s.rm k o) j n a=Zd s.rm j n a:=λy=>by
  rw[t,bJ];rintro⟨rfl,rfl,rfl⟩;exact y F
 refine⟨h.may,h.rm.take _ _,h.kl,h.kr,h.bl,h.bi,by show((s.th.set _ _).length:Int)=_;rw[XG];exact h.tl,h.ml,λd f b=>?_,λd f b u=>?_,λd f b u=>?_,λd H f I b z m v J=>?_,λj m' l=>?_,λj n a l=>?_,λo' q A B=>?_,λo' q A B=>?_⟩
 .rcases A1 b with⟨rfl,rfl⟩|⟨_,b⟩
  .exact hs
  .exact h.size d f b
 .rcases A1 b with⟨rfl,rfl⟩|⟨y,b⟩
  .refine⟨hk.symm,rfl,?_⟩;show Zd (Qj s.rm k d) k _ _=d
   rw[t,bK ⟨rfl,rfl,rfl⟩]
  .obtain⟨w,p,x⟩:=h.small d f b u;exact⟨w,p,(bV (by rw[x];omega)).trans x⟩
 .show ∃n' r,(n',r)∈(Qj s.rm k o).lg/\_
  rw[Xb5];rcases A1 b with⟨rfl,rfl⟩|⟨_,b⟩
  .rw[hk] at u;omega
  .exact h.large d f b u
 .rcases A1 b with⟨rfl,rfl⟩|⟨_,b⟩
  .exact absurd m (by simp only;omega)
  .rcases A1 z with⟨rfl,rfl⟩|⟨_,z⟩
   .exact absurd v (by simp only;omega)
   .exact h.linj d H f I b z m v J
 .obtain⟨⟨d,f,w,p,x⟩,G,v⟩:=h.mv j m' l;exact⟨⟨d,f,w,Ez (λe=>by subst e;rw[ho] at p;cases p) p,x⟩,(bV (by rw[G,w];omega)).trans G,v⟩
 .replace l:Zd (Qj s.rm k o) j n a≠-1:=l;show(∃(d:Nat),∃f,Zd (Qj s.rm k o) j n a=d/\_)\/_
  by_cases e:j=k/\n=Ex s.rm k o/\a=Ew s.rm k o
  .obtain⟨rfl,rfl,rfl⟩:=e;exact .inl ⟨o,_,by rw[t,bK ⟨rfl,rfl,rfl⟩],XH ((XC.1 ho).1),.inl rfl⟩
  .have e1:Zd (Qj s.rm k o) j n a=Zd s.rm j n a:=by rw[t,bJ e]
   rw[e1] at l⊢;rcases h.own j n a l with⟨d,f,K,C,L⟩|g
   .exact .inl ⟨d,f,K,Ez (λe=>by subst e;rw[ho] at C;cases C) C,L⟩
   .exact .inr g
 .obtain⟨D,i,E,M⟩:=h.ps o' q A B;refine⟨D,(bV (by rw[i];omega)).trans i,E,λd f b=>?_⟩;rcases A1 b with⟨rfl,rfl⟩|⟨_,b⟩
  .intro e;rw[<-e] at i;simp only at i
   rw[F] at i;omega
  .exact M d f b
 .obtain⟨n,r,D,i,E⟩:=h.pl o' q A B;refine⟨n,r,by show(n,r)∈(Qj s.rm k o).lg;rw[Xb5];exact D,i,λd f b m=>?_⟩;rcases A1 b with⟨rfl,rfl⟩|⟨_,b⟩
  .exact absurd m (by simp only;omega)
  .exact E d f b m
theorem StM.OkP.bS(h:s.OkP c pd)(ho:s.th[o]?=some none)(hs:1<=size/\size<=c.cH)(hf:Qg c s.rm size=0)(hp:Xm c.bT size=-1):StM.OkP c {s with rm:=Ev s.rm (Z9 size c.size).toNat,th:=s.th.set o (some ⟨size,⟨-1,(s.rm.pl.free.getD 0 0:Nat),0,X4 (s.rm.pl.free.take (Z9 size c.size).toNat).tail⟩⟩)} pd:=by
 have V:=(XC.1 ho).1;obtain⟨f1,f2,_,_⟩:=Xi0 h.may hf hp;obtain⟨many,B⟩:∃many,many=(Z9 size c.size).toNat:=⟨_,rfl⟩;have M:Z9 size c.size=many:=by omega
 rw[<-B] at f1 f2⊢;obtain⟨m,u⟩:∃m,m=s.rm.pl.free.getD 0 0:=⟨_,rfl⟩;obtain⟨t,v⟩:∃t,t=(s.rm.pl.free.take many).tail:=⟨_,rfl⟩;have F:m∈s.rm.pl.free:=by
  rw[u,XA,XD (show 0<s.rm.pl.free.length by omega)];exact XM _
 have i:∀{n:Nat} {r:List Nat},(n,r)∈s.rm.lg->n≠m:=λ{n r} hm e=>by
  subst e;have b:=(h.rm.ok.lg n (I7 hm (ZP ..))).2;have w:=(h.rm.cU.cV.free _ F).2;omega
 have D:(Ev s.rm many).lg=s.rm.lg++[(m,t)]:=by rw[u,v];rfl
 have N:t.length+1=many:=by rw[v,QT,XX];omega
 rw[<-u,<-v];refine⟨h.may,h.rm.big (by omega) f2,h.kl,h.kr,h.bl,h.bi,by show((s.th.set _ _).length:Int)=_;rw[XG];exact h.tl,h.ml,λf d b=>?_,λf d b w=>?_,λf d b w=>?_,λf O d P b K x L k=>?_,λj m' y=>?_,λj n a y=>?_,λo' q G z=>?_,λo' q G z=>?_⟩
 .rcases A1 b with⟨rfl,rfl⟩|⟨_,b⟩
  .exact hs
  .exact h.size f d b
 .rcases A1 b with⟨rfl,rfl⟩|⟨E,b⟩
  .exact absurd hp w
  .exact h.small f d b w
 .show ∃n' r,(n',r)∈(Ev s.rm many).lg/\_
  rw[D];rcases A1 b with⟨rfl,rfl⟩|⟨_,b⟩
  .exact⟨m,t,by simp,rfl,by show((t.length:Int)+1)=Z9 size c.size;omega⟩
  .obtain⟨n',r,l,p⟩:=h.large f d b w;exact⟨n',r,QR _ l,p⟩
 .have cR:∀{f:Nat} {d:ThM},s.th[f]?=some (some d)->d.q.cL=-1->d.q.cR≠(m:Int):=λ{f d} b x=>by
   have Q:=Decidable.byContradiction λE=>by
    have:=(h.small f d b E).1;omega
   obtain⟨n',r,l,p,_⟩:=h.large f d b Q;have:=i l;rw[p];simp only
   omega
  rcases A1 b with⟨e1,e2⟩|⟨_,l⟩
  .rcases A1 K with⟨e3,_⟩|⟨_,A⟩
   .exact e1.trans e3.symm
   .rw[e2] at k;exact absurd k.symm (cR A L)
  .rcases A1 K with⟨e3,e4⟩|⟨_,A⟩
   .rw[e4] at k;exact absurd k (cR l x)
   .exact h.linj f O d P l A x L k
 .obtain⟨⟨f,d,R,H,S⟩,T⟩:=h.mv j m' y;exact⟨⟨f,d,R,Ez (λe=>by subst e;rw[ho] at H;cases H) H,S⟩,T⟩
 .replace y:Zd s.rm j n a≠-1:=y;rcases h.own j n a y with⟨f,d,l,p,A⟩|g
  .exact .inl ⟨f,d,l,Ez (λe=>by subst e;rw[ho] at p;cases p) p,A⟩
  .exact .inr g
 .obtain⟨C,I,J,U⟩:=h.ps o' q G z;refine⟨C,I,J,λf d b=>?_⟩;rcases A1 b with⟨rfl,rfl⟩|⟨_,b⟩
  .intro e;rw[<-e] at z;exact z rfl
  .exact U f d b
 .obtain⟨n,r,C,I,J⟩:=h.pl o' q G z;refine⟨n,r,by show(n,r)∈(Ev s.rm many).lg;rw[D];exact QR _ C,I,λf d b x=>?_⟩;rcases A1 b with⟨rfl,rfl⟩|⟨_,b⟩
  .have:=i C;simp only
   omega
  .exact J f d b x
theorem StM.OkP.lay(h:s.OkP c pd)(ho:s.th[o]?=some none)(hf:Yt c s size=0)(hpd:∀o' q,pd=some (o',q)->o'=o):(Q3 c s o size).OkP c pd:=by
 obtain⟨f,g⟩:=Tx hf;have base:StM.OkP c {Yd c s o size with th:=s.th.set o (some ⟨size,Yl c s o size⟩)} pd:=by
  cases ht:Fy c s size with
  |some m=>
   have e1:Yd c s o size=Ql {s with mv:=s.mv.set (Xm c.bT size).toNat none,rm:=Qu s.rm (Xm c.bT size) m.pt m.ta o} 3:=by unfold Yd;rw[ht]
   have e2:Yl c s o size=⟨Xm c.bT size,m.pt,m.ta,[]⟩:=by unfold Yl;rw[ht]
   unfold Fy at ht;cases hm:Xy s (Xm c.bT size) with
   |none=>rw[hm] at ht;cases ht
   |some m'=>
    rw[hm] at ht;simp only at ht
    split at ht
    .cases ht
     obtain⟨k,b,_,n⟩:=At hm;rw[e1,e2,b,XB];exact(h.over ho f b n hpd).tot 3
    .cases ht
  |none=>
   have e1:Yd c s o size={s with rm:=Av c s.rm o size}:=by unfold Yd;rw[ht]
   have e2:Yl c s o size=Bz c s.rm o size:=by unfold Yl;rw[ht]
   have a:=g ht;rw[e1,e2];by_cases d:Xm c.bT size=-1
   .obtain⟨i,j⟩:=Xml (c:=c) (who:=(o:Nat)) (by omega) a d;rw[i,j];exact h.bS ho f a d
   .obtain⟨i,j,p⟩:=Xmm (c:=c) (who:=(o:Nat)) (by omega) a d;have l:=Xi3 (who:=(o:Nat)) h.rm.ok (by omega) a;rw[p] at l;obtain⟨r,t⟩:=Uv d;obtain⟨k,b⟩:=XE r;rw[i,j];rw[b] at l⊢;exact h.block ho f b l
 have e:Q3 c s o size=Yp c {Yd c s o size with th:=s.th.set o (some ⟨size,Yl c s o size⟩)} (Yl c s o size) 0 (X6 (Z5 c (Yl c s o size).cQ).toNat):=by
  unfold Q3 Yp Ql;rw[XB]
 rw[e];exact base.put _ _ (Sw _)
theorem Xmi{q:PlcM}(h:q.cL≠-1):Qd M q=Q2 M q.cL q.cR q.idx:=by unfold Qd;rw[bK h]
theorem Xmh(hok:M.Ok c){r:List Nat}(hm:(n,r)∈M.lg):Qd M ⟨-1,(n:Nat),0,X4 r⟩=Ip M n r:=by
 have a:Dh M.lg ((n:Nat):Int)=some r:=by
  cases b:Dh M.lg ((n:Nat):Int) with
  |none=>exact absurd rfl (T8 b _ hm)
  |some r'=>
   obtain⟨k,f,d⟩:=Ow b;have:k=n:=by omega
   subst this;rw[Xa1 hok.nd d hm]
 unfold Qd;rw[bJ (by simp)];simp only
 rw[a]
 simp
theorem StM.OkP.dropped{q:PlcM}(h:s.OkP c (some (o,q))):StM.Ok c {s with rm:=Qd s.rm q}:=by
 by_cases p:q.cL=-1
 .obtain⟨n,r,u,v,w⟩:=h.pl o q rfl p;rw[v,Xmh h.rm.ok u];refine⟨h.may,h.rm.cE u,h.kl,h.kr,h.bl,h.bi,h.tl,h.ml,h.size,h.small,λd f l t=>?_,h.linj,h.mv,λj n' a b=>.inl ?_,(by rintro _ _ ⟨⟩),(by rintro _ _ ⟨⟩)⟩
  .obtain⟨n',r',H,x,I⟩:=h.large d f l t;refine⟨n',r',?_,x,I⟩;show(n',r')∈Dv s.rm.lg n
   unfold Dv;refine QX.2 ⟨H,?_⟩;have:=w d f l (by rw[x]);rw[x] at this;simp only at this
   simp only[bne_iff_ne,ne_eq];omega
  .replace b:Zd s.rm j n' a≠-1:=b;rcases h.own j n' a b with g|⟨o',g⟩
   .exact g
   .have e:=(Prod.mk.inj (Option.some.inj g)).2;have B:j=-1:=by rw[e] at p;exact p
    exact absurd (by rw[B];unfold Zd;rw[Sf (by omega)]) b
 .obtain⟨u,v,w,J⟩:=h.ps o q rfl p;rw[Xmi p];obtain⟨M,C⟩:=Xes h.rm (k:=q.cL) (n:=q.cR) (i:=q.idx) (by rw[v];omega);have bV:∀{j n' a:Int},¬(j=q.cL/\n'=q.cR/\a=q.idx)->Zd (Q2 s.rm q.cL q.cR q.idx) j n' a=Zd s.rm j n' a:=λm=>by rw[C,bJ m]
  refine⟨h.may,h.rm.give _ _ _,h.kl,h.kr,h.bl,h.bi,h.tl,h.ml,h.size,λd f l t=>?_,λd f l t=>?_,h.linj,λj m' b=>?_,λj n' a b=>.inl ?_,(by rintro _ _ ⟨⟩),(by rintro _ _ ⟨⟩)⟩
  .obtain⟨K,D,L⟩:=h.small d f l t;refine⟨K,D,(bV ?_).trans L⟩;rintro⟨y,z,A⟩;refine J d f l ?_;obtain⟨sz,E,F,G,N⟩:=f;obtain⟨O,P,Q,R⟩:=q;simp only at *
   rw[y,z,A,D,u]
  .show ∃n' r,(n',r)∈(Q2 s.rm q.cL q.cR q.idx).lg/\_
   rw[Xb1];exact h.large d f l t
  .obtain⟨E,F,G⟩:=h.mv j m' b;refine⟨E,(bV ?_).trans F,G⟩;rintro⟨y,z,A⟩;exact w m' (by rw[<-y];exact Dx b) ⟨z,A⟩
  .replace b:Zd (Q2 s.rm q.cL q.cR q.idx) j n' a≠-1:=b;have m:¬(j=q.cL/\n'=q.cR/\a=q.idx):=λe=>by rw[C,bK e] at b;exact b rfl
   show ∃(d:Nat),∃f,Zd (Q2 s.rm q.cL q.cR q.idx) j n' a=d/\_
   rw[bV m] at b⊢;rcases h.own j n' a b with g|⟨o',g⟩
   .exact g
   .have e:=(Prod.mk.inj (Option.some.inj g)).2;exact absurd ⟨by rw[e],by rw[e],by rw[e]⟩ m
theorem StM.OkP.clear{q:PlcM}(h:s.OkP c (some (o,q))):(Cd c s q).Ok c:=by
 unfold Cd;split
 .exact h.dropped
 .exact StM.OkP.go (StM.OkP.begin h.dropped _) _ _
theorem StM.OkP.away(h:s.Ok c){t:ThM}(ht:s.th[o]?=some (some t))(hm:∀(k:Nat) (m:MvM),s.mv[k]?=some (some m)->m.who≠(o:Nat)):StM.OkP c {s with th:=s.th.set o none} (some (o,t.q)):=by
 have f:∀{b:Nat} {d:ThM},(s.th.set o none)[b]?=some (some d)->b≠o/\s.th[b]?=some (some d):=λh1=>by
  rcases J9 h1 with⟨_,e,_⟩|h1
  .cases e
  .exact h1
 have p:∀{k:Nat} {m:MvM},s.mv[k]?=some (some m) -> ∀{b:Nat},m.who=(b:Nat)->b≠o:=λC b e1 e=>hm _ _ C (by rw[e1,e]);refine⟨h.may,h.rm,h.kl,h.kr,h.bl,h.bi,by show((s.th.set _ _).length:Int)=_;rw[XG];exact h.tl,h.ml,λb d h1=>h.size b d (f h1).2,λb d h1=>h.small b d (f h1).2,λb d h1=>h.large b d (f h1).2,λb D d F h1 L=>h.linj b D d F (f h1).2 (f L).2,λk m C=>?_,λj n a M=>?_,λo' q G w=>?_,λo' q G w=>?_⟩
 .obtain⟨⟨b,d,v,H,x⟩,y⟩:=h.mv k m C;exact⟨⟨b,d,v,Ez (p C v) H,x⟩,y⟩
 .rcases h.own j n a M with⟨b,d,z,u,A|⟨m,A,I,J⟩⟩|⟨_,g⟩
  .by_cases e:b=o
   .subst e;rw[ht] at u;cases u
    exact .inr ⟨b,by rw[A]⟩
   .exact .inl ⟨b,d,z,Ez e u,.inl A⟩
  .obtain⟨i,ei,_,B⟩:=At A;subst ei;obtain⟨⟨D,F,v,_⟩,y,_⟩:=h.mv i m B;have:(D:Int)=b:=by rw[<-v,<-y,I,J];exact z
   have l:=p B v;exact .inl ⟨b,d,z,Ez (by omega) u,.inr ⟨m,A,I,J⟩⟩
  .cases g
 .obtain⟨e1,e2⟩:=Prod.mk.inj (Option.some.inj G);subst e1;subst e2;obtain⟨v,H,x⟩:=h.small o t ht (P6 h ht w);refine⟨H,x,λm K=>?_,λb d h1 e=>?_⟩
  .obtain⟨i,ei,_,B⟩:=At K;rintro⟨N,O⟩;obtain⟨⟨D,F,E,_⟩,y,_⟩:=h.mv i m B;rw[N,O,<-ei,x,E] at y;exact p B E (by omega)
  .obtain⟨l,h1⟩:=f h1;obtain⟨_,_,P⟩:=h.small b d h1 (P6 h h1 (by rw[e];exact w));rw[e,x] at P;omega
 .obtain⟨e1,e2⟩:=Prod.mk.inj (Option.some.inj G);subst e1;subst e2;have Q:=Decidable.byContradiction λl=>by
   have h1:=(h.small o t ht l).1;rw[w] at h1;exact l h1.symm
  obtain⟨n,r,z,u,_⟩:=h.large o t ht Q;refine⟨n,r,z,u,λb d h1 E e=>?_⟩;obtain⟨l,h1⟩:=f h1;exact l (h.linj b o d t h1 ht E w (by rw[e,u]))
end
section
variable {c:Conf}{s:StM}{pd:Option (Nat×PlcM)}
theorem N4(c:Conf)(s:StM)(k:Nat):(Yw c s k).th=s.th/\(Yw c s k).bV=s.bV/\(Yw c s k).bs=s.bs/\(Yw c s k).mv.length=s.mv.length:=by
 unfold Yw;split
 .exact⟨rfl,rfl,rfl,XG⟩
 .exact⟨rfl,rfl,rfl,rfl⟩
theorem Xet(s:StM)(k:Nat)(n:Int):(Yo s k n).bV=s.bV/\(Yo s k n).th.length=s.th.length/\(Yo s k n).mv.length=s.mv.length/\(Yo s k n).rm.lg=s.rm.lg:=by
 unfold Yo;split
 .exact⟨rfl,rfl,rfl,rfl⟩
 .split
  .exact⟨rfl,rfl,XG,rfl⟩
  .exact⟨rfl,XG,XG,Xb1 _ _ _ _⟩
theorem Xji(h:s.Ok c)(k:Nat)(n:Int):(∀(o:Nat) t,s.th[o]?=some (some t) -> ∃t',(Yo s k n).th[o]?=some (some t')/\t'.size=t.size/\t'.q.cL=t.q.cL/\t'.q.bS=t.q.bS/\(t.q.cL≠(k:Nat)->t'=t))/\(∀o:Nat,s.th[o]?=some none->(Yo s k n).th[o]?=some none)/\∀j:Int,j≠k->Xy (Yo s k n) j=Xy s j:=by
 unfold Yo;cases l:Xy s (k:Nat) with
 |none=>exact⟨λo t ht=>⟨t,ht,rfl,rfl,rfl,λ_=>rfl⟩,λ_ h=>h,λ_ _=>rfl⟩
 |some m=>
  obtain⟨j,ej,q,hm⟩:=At l;obtain rfl:k=j:=by omega
  have d:∀{s':StM} {v:Option MvM},s'.mv=s.mv.set k v -> ∀j:Int,j≠k->Xy s' j=Xy s j:=λ{s' v} e j f=>by
   unfold Xy;split
   .rename_i r
    rw[e,XA,XA,XJ (by omega)]
   .rfl
  simp only
  split
  .exact⟨λo t ht=>⟨t,ht,rfl,rfl,rfl,λ_=>rfl⟩,λ_ h=>h,d rfl⟩
  .obtain⟨⟨o,t,e1,e2,e3⟩,_⟩:=h.mv k m hm;have i:Qw s m.who=t.size:=by unfold Qw;rw[e1,Hg e2]
   have g:m.who.toNat=o:=by omega
   refine⟨λb p a=>?_,λb a=>?_,d rfl⟩
   .show ∃t',(s.th.set m.who.toNat _)[b]?=_/\_
    rw[g,i];by_cases e:b=o
    .subst e;rw[e2] at a;cases a
     exact⟨_,XH ((XC.1 e2).1),rfl,by rw[e3],by rw[e3],λf=>absurd (by rw[e3]) f⟩
    .exact⟨p,Ez e a,rfl,rfl,rfl,λ_=>rfl⟩
   .show(s.th.set m.who.toNat _)[b]?=_
    rw[g,XJ (λe=>by subst e;rw[e2] at a;cases a)];exact a
theorem Xjh(h:s.Ok c){m:MvM}(hm:s.mv[k]?=some (some m)){n:Int}(hn:(m.size-m.cE:Nat)<=n):Xy (Yo s k n) (k:Nat)=none:=by
 have a:=(h.mv k m hm).2.2.2.2.2.2;unfold Yo;rw[Dx hm];simp only
 have b:Zv m n=m.size-m.cE:=by unfold Zv Ed;omega
 rw[bJ (by omega)];unfold Xy;rw[bK (by omega)];show((s.mv.set k none).getD _ none)=none
 rw[XB,XA,XH ((XC.1 hm).1)];rfl
structure XhR(c:Conf)(s s':StM)(κ:Int):Prop where
 ok:s'.Ok c
 mv:Xy s' κ=none
 other:∀j:Int,j≠κ->Xy s' j=Xy s j
 th:∀(o:Nat) t,s.th[o]?=some (some t) -> ∃t',s'.th[o]?=some (some t')/\t'.size=t.size/\t'.q.cL=t.q.cL/\t'.q.bS=t.q.bS/\(t.q.cL≠κ->t'=t)
 no:∀o:Nat,s.th[o]?=some none->s'.th[o]?=some none
 bV:s'.bV=s.bV/\s'.th.length=s.th.length/\s'.mv.length=s.mv.length/\s'.rm.lg=s.rm.lg
theorem Mi(h:s.Ok c)(κ:Int):XhR c s (Zh s κ) κ:=by
 have a:=h.finish κ;unfold Zh at a⊢;cases hm:Xy s κ with
 |none=>exact⟨h,hm,λ_ _=>rfl,λo t ht=>⟨t,ht,rfl,rfl,rfl,λ_=>rfl⟩,λ_ h=>h,rfl,rfl,rfl,rfl⟩
 |some m=>
  rw[hm] at a;obtain⟨k,rfl,i,b⟩:=At hm;simp only[XB] at a⊢;obtain⟨d,f,g⟩:=Xji h k (m.size:Nat);exact⟨a,Xjh h b (by omega),g,d,f,Xet s k _⟩
theorem Qr{t:ThM}(h:s.th[o]?=some (some t)):Y9 s (o:Nat)=t.q:=by unfold Y9;rw[Hg h]
theorem Ey{t:ThM}(h:s.th[o]?=some (some t)):Qw s (o:Nat)=t.size:=by unfold Qw;rw[Hg h]
theorem Og(h:s.Ok c){t:ThM}(ht:s.th[o]?=some (some t)):∃t',(Zh s t.q.cL).th[o]?=some (some t')/\t'.size=t.size/\t'.q.cL=t.q.cL/\t'.q.bS=t.q.bS/\(∀(k:Nat) (m:MvM),(Zh s t.q.cL).mv[k]?=some (some m)->m.who≠(o:Nat)):=by
 have F:=Mi h t.q.cL;obtain⟨t',b,f,a,g,_⟩:=F.th o t ht;refine⟨t',b,f,a,g,λk m hm e=>?_⟩;obtain⟨⟨i,l,n,d,j⟩,_⟩:=F.ok.mv k m hm;obtain rfl:i=o:=by omega
 rw[b] at d;cases d
 have:Xy (Zh s t.q.cL) (k:Nat)=some m:=Dx hm;rw[j] at a;simp only at a
 rw[a,F.mv] at this;cases this
theorem J0{o:Int}(h:Z7 s o=0):∃(j:Nat),∃t,o=j/\s.th[j]?=some (some t):=by
 unfold Z7 at h;split at h
 .exact absurd h (by decide)
 .cases ht:B3 s o with
  |none=>rw[ht] at h;exact absurd (show(9:Int)=0 from h) (by decide)
  |some t=>
   obtain⟨j,e,_,a⟩:=XcC ht;exact⟨j,t,e,a⟩
theorem Xbq{o:Int}(h1:Z7 s o≠1)(h0:Z7 s o≠0):∃j:Nat,o=j/\j<s.th.length/\s.th[j]?=some none:=by
 unfold Z7 at h1 h0;split at h1
 .exact absurd rfl h1
 .rename_i hr
  rw[bJ hr] at h0;obtain⟨j,rfl⟩:=XE (show 0<=o by omega);have a:j<s.th.length:=by omega
  refine⟨j,rfl,a,?_⟩;cases b:s.th[j] with
  |none=>rw[XD a,b]
  |some t=>
   have:B3 s (j:Nat)=some t:=Hg (by rw[XD a,b]);rw[this] at h0;exact absurd rfl h0
theorem W4{o:Int}(h:Cn c s o size=0):∃j:Nat,o=j/\j<s.th.length/\s.th[j]?=some none/\Yt c s size=0:=by
 unfold Cn at h;split at h
 .exact absurd h (by decide)
 .rename_i f
  split at h
  .exact absurd h (by decide)
  .rename_i g
   obtain⟨j,a,b,d⟩:=Xbq f g;exact⟨j,a,b,d,h⟩
theorem StM.OkP.alloc(h:s.Ok c)(o size:Int):(Ab c s o size).Ok c:=by
 unfold Ab;split
 .rename_i a
  obtain⟨j,rfl,_,b,hf⟩:=W4 a;exact StM.OkP.lay h b hf (by rintro _ _ ⟨⟩)
 .exact h
theorem StM.OkP.free(h:s.Ok c)(o:Int):(Bn c s o).Ok c:=by
 unfold Bn;split
 .exact h
 .rename_i b
  obtain⟨j,t,rfl,ht⟩:=J0 (YL.1 b);rw[Qr ht];obtain⟨t',a,_,_,_,d⟩:=Og h ht;rw[Qr a,XB];exact((Mi h t.q.cL).ok.away a d).clear
theorem StM.OkP.wrote(h:s.OkP c pd)(o:Int)(i n:Nat)(hi:∀m,Xy s (Y9 s o).cL=some m->i+n<=m.size):(Ah s o i n).OkP c pd:=by
 unfold Ah;split
 .rename_i m hm
  split
  .obtain⟨k,_,_,a⟩:=At hm;obtain⟨b,d,f,_⟩:=Kr h a;have:=hi m hm;refine h.bytes ?_ ?_ _
   .unfold E0;split
    .rfl
    .unfold Q5 at *;exact P7 (by omega) (by omega)
   .unfold E0;split
    .exact h.bi
    .exact XdY h.bi
  .exact h
 .exact h
theorem StM.OkP.sized(h:s.Ok c){t:ThM}(ht:s.th[o]?=some (some t))(hs:A0 c t.size size=true)(hr:1<=size/\size<=c.cH):(Eb s (o:Nat) ⟨size,t.q⟩).Ok c:=by
 unfold A0 at hs;simp only[XK,Bool.or_eq_true,decide_eq_true_eq] at hs;obtain⟨B,F⟩:=hs;have p:∀{b:Nat} {d:ThM},(s.th.set o (some ⟨size,t.q⟩))[b]?=some (some d) -> ∃f,s.th[b]?=some (some f)/\d.q=f.q/\((b=o/\f=t/\d.size=size)\/(b≠o/\d=f)):=λi=>by
  rcases A1 i with⟨rfl,rfl⟩|⟨w,i⟩
  .exact⟨t,ht,rfl,.inl ⟨rfl,rfl,rfl⟩⟩
  .exact⟨_,i,rfl,.inr ⟨w,rfl⟩⟩
 have x:∀{b:Nat} {f:ThM},s.th[b]?=some (some f) -> ∃d,(s.th.set o (some ⟨size,t.q⟩))[b]?=some (some d)/\d.q=f.q:=λ{b f} i=>by
  by_cases e:b=o
  .subst e;rw[ht] at i;cases i
   exact⟨_,XH ((XC.1 ht).1),rfl⟩
  .exact⟨f,Ez e i,rfl⟩
 unfold Eb;rw[XB];refine⟨h.may,h.rm,h.kl,h.kr,h.bl,h.bi,by show((s.th.set _ _).length:Int)=_;rw[XG];exact h.tl,h.ml,λb d i=>?_,λb d i q=>?_,λb d i q=>?_,λb G d P i q E A C=>?_,λk m H=>?_,λj n a I=>.inl ?_,(by rintro _ _ ⟨⟩),(by rintro _ _ ⟨⟩)⟩
 .obtain⟨f,l,u,⟨_,_,v⟩|⟨_,rfl⟩⟩:=p i
  .rw[v];exact hr
  .exact h.size b d l
 .obtain⟨f,l,u,⟨_,D,v⟩|⟨_,rfl⟩⟩:=p i
  .subst D;rw[v,<-B] at q;rw[u,v,<-B];exact h.small b f l q
  .exact h.small b d l q
 .obtain⟨f,l,u,⟨_,D,v⟩|⟨_,rfl⟩⟩:=p i
  .subst D;rw[v,<-B] at q;obtain⟨n,r,y,z,J⟩:=h.large b f l q;refine⟨n,r,y,u.trans z,?_⟩;rw[J,v];unfold Z9;rw[(F.resolve_left (λw=>w q))]
  .exact h.large b d l q
 .obtain⟨f,l,u,_⟩:=p i;obtain⟨K,y,z,_⟩:=p q;rw[u] at E C;rw[z] at A C;exact h.linj b G f K l y E A C
 .obtain⟨⟨b,f,L,M,N⟩,A⟩:=h.mv k m H;obtain⟨d,l,u⟩:=x M;exact⟨⟨b,d,L,l,u.trans N⟩,A⟩
 .rcases h.own j n a I with⟨b,f,l,u,O⟩|⟨_,g⟩
  .obtain⟨d,y,z⟩:=x u;exact⟨b,d,l,y,by rw[z];exact O⟩
  .cases g
theorem XjP(c:Conf)(s:StM)(o:Nat)(size:Int):Q3 c {s with th:=s.th.set o none} o size=Q3 c s o size:=by
 have e1:Fy c {s with th:=s.th.set o none} size=Fy c s size:=rfl;have e2:Yl c {s with th:=s.th.set o none} o size=Yl c s o size:=rfl;have e3:Yd c {s with th:=s.th.set o none} o size={Yd c s o size with th:=s.th.set o none}:=by unfold Yd;rw[e1];split <;> rfl
 unfold Q3;rw[e2,e3];simp only[List.set_set,XB];rfl
theorem Xeq(M:RmM)(k n i:Int)(h:Qa c M):M.pl.free.length<=(Q2 M k n i).pl.free.length/\∀j,j≠k->Qq (Q2 M k n i) j=Qq M j:=by
 unfold Q2;cases a:Zq M k with
 |none=>exact⟨XF _,λ_ _=>rfl⟩
 |some x=>
  obtain⟨l,rfl,b,f⟩:=Hc a;simp only[XB];split
  .refine⟨?_,λj d=>?_⟩
   .show _<=(Bm x M.pl n i).free.length
    unfold Bm;split
    .split
     .show _<=(PlM.give M.pl _).free.length
      unfold PlM.give
      simp
     .exact XF _
    .exact XF _
   .show Qq (Gn M l (Af x n i) (Bm x M.pl n i)) j=_
    unfold Qq;rw[Xge b,bJ d]
  .exact⟨XF _,λ_ _=>rfl⟩
theorem Xmj{M':RmM}(h1:M.pl.free.length<=M'.pl.free.length)(h2:Qq M' (Xm c.bT size)=Qq M (Xm c.bT size))(h:Qg c M size=0):Qg c M' size=0:=by
 unfold Qg at h⊢;split at h
 .exact absurd h (by decide)
 .rename_i hr
  rw[bJ hr];split at h
  .exact absurd h (by decide)
  .rename_i a
   rw[bJ];unfold Di at a⊢;rw[h2];omega
theorem Xi2(h:s.Ok c){κ:Int}(hne:Xm c.bT size=-1\/Xm c.bT size≠κ)(hf:Yt c s size=0):Yt c (Zh s κ) size=0:=by
 unfold Yt at hf⊢;split at hf
 .exact absurd hf (by decide)
 .rename_i hr
  rw[bJ hr];have d:Xy (Zh s κ) (Xm c.bT size)=Xy s (Xm c.bT size):=by
   rcases hne with e|e
   .rw[e];rfl
   .exact(Mi h κ).other _ e
  rw[d];split at hf
  .rename_i a;rw[bK a]
  .rename_i a
   rw[bJ a];refine Xmj ?_ ?_ hf
   .unfold Zh;split
    .exact XF _
    .rename_i m hm
     obtain⟨k,rfl,_,b⟩:=At hm;rw[XB];unfold Yo;rw[hm];simp only
     split
     .exact XF _
     .exact(Xeq _ _ _ _ (StM.OkP.step h b _).rm).1
   .unfold Zh;split
    .rfl
    .rename_i m hm
     obtain⟨k,rfl,_,b⟩:=At hm;rw[XB];unfold Yo;rw[hm];simp only
     split
     .rfl
     .rcases hne with e|e
      .rw[e];unfold Qq;rw[Sf (by omega),Sf (by omega)]
      .exact(Xeq _ _ _ _ (StM.OkP.step h b _).rm).2 _ e
theorem Pt(hb:Qi bs)(i n:Nat):Qi (Yg c q bs i n):=λx a=>by
 unfold Yg at a;obtain⟨j,_,rfl⟩:=XP.1 a;rw[XA];cases b:bs[(B5 c q (i+j)).toNat]? with
 |none=>exact⟨QN _,by decide⟩
 |some y=>exact hb y (XW b)
theorem U7{o:Int}(h:A8 c s o size=0):∃(j:Nat),∃t,o=j/\s.th[j]?=some (some t)/\(1<=size/\size<=c.cH)/\(A0 c t.size size=true\/(A0 c t.size size=false/\Yt c s size=0)):=by
 unfold A8 at h;by_cases a:Z7 s o=0
 .rw[bJ (λd=>d a)] at h;obtain⟨j,t,rfl,ht⟩:=J0 a;split at h
  .exact absurd h (by decide)
  .rename_i hr
   rw[Ey ht] at h;refine⟨j,t,rfl,ht,by omega,?_⟩;split at h
   .rename_i b;exact .inl b
   .rename_i b;exact .inr ⟨by simpa using b,h⟩
 .rw[bK a] at h;exact absurd h a
theorem Xnk{old:Int}(h:A0 c old size=false):Xm c.bT size=-1\/Xm c.bT size≠Xm c.bT old:=by
 unfold A0 at h;by_cases e:Xm c.bT old=Xm c.bT size
 .rw[bN e,YJ] at h;by_cases e1:Xm c.bT old=-1
  .exact .inl (by omega)
  .rw[bN e1,Bool.true_or] at h;cases h
 .exact .inr (λh=>e h.symm)
theorem XdP(h:s.OkP c pd){t:ThM}(ht:s.th[o]?=some (some t)):t.q.cL=Xm c.bT t.size:=by
 by_cases a:Xm c.bT t.size=-1
 .obtain⟨n,r,_,e,_⟩:=h.large o t ht a;rw[e,a]
 .exact(h.small o t ht a).1
structure XhT(c:Conf)(s:StM)(o:Nat)(t:ThM)(size:Int)(t':ThM):Prop where
 ok1:(Zh s t.q.cL).Ok c
 th1:(Zh s t.q.cL).th[o]?=some (some t')
 size':t'.size=t.size
 cls':t'.q.cL=t.q.cL
 pages':t'.q.bS=t.q.bS
 away:StM.OkP c {Zh s t.q.cL with th:=(Zh s t.q.cL).th.set o none} (some (o,t'.q))
 fits:Yt c (Zh s t.q.cL) size=0
 ok2:(Q3 c (Ql (Zh s t.q.cL) (Zi c t'.q.cQ 0 (min t.size size).toNat)) o size).OkP c (some (o,t'.q))
theorem Rt(h:s.Ok c){t:ThM}(ht:s.th[o]?=some (some t))(hs:A0 c t.size size=false)(hf:Yt c s size=0):∃t',XhT c s o t size t':=by
 obtain⟨t',b,g,i,j,k⟩:=Og h ht;have F:=Mi h t.q.cL;have a:=Xi2 (κ:=t.q.cL) h (by rw[(XdP h ht)];exact Xnk hs) hf;have d:=F.ok.away b k;refine⟨t',F.ok,b,g,i,j,d,a,?_⟩;have f:=StM.OkP.lay (o:=o) (size:=size) (d.tot (Zi c t'.q.cQ 0 (min t.size size).toNat)) (by show((Zh s t.q.cL).th.set o none)[o]?=_;rw[XH ((XC.1 b).1)]) a (λo' q e=>by cases e;rfl);have e:Ql {Zh s t.q.cL with th:=(Zh s t.q.cL).th.set o none} (Zi c t'.q.cQ 0 (min t.size size).toNat)={Ql (Zh s t.q.cL) (Zi c t'.q.cQ 0 (min t.size size).toNat) with th:=(Ql (Zh s t.q.cL) (Zi c t'.q.cQ 0 (min t.size size).toNat)).th.set o none}:=rfl;rw[e,XjP] at f;exact f
theorem StM.OkP.moveTo(h:s.Ok c){t:ThM}(ht:s.th[o]?=some (some t))(hs:A0 c t.size size=false)(hf:Yt c s size=0):(Ka c s o size).Ok c:=by
 obtain⟨t',M⟩:=Rt h ht hs hf;unfold Ka;simp only
 rw[Qr ht,Qr M.th1,Ey ht];exact(M.ok2.put _ _ (Pt M.ok1.bi _ _)).clear
theorem Xfw{n:Int}(h:Xm zs n=(k:Nat)):n<=zs.getD k 0:=by
 unfold Xm at h;split at h
 .omega
 .unfold idx at h;split at h
  .rename_i i a
   obtain⟨b,c,_⟩:=YO.1 a;obtain rfl:i=k:=by omega
   rw[XA,XD b];exact bL c
  .omega
theorem Rn(h:s.OkP c pd){m:MvM}(hm:s.mv[k]?=some (some m)){t:ThM}(ht:s.th[o]?=some (some t))(hc:t.q.cL=(k:Nat)):t.size<=m.size:=by
 have a:=XdP h ht;rw[hc] at a;rw[((h.mv k m hm).2.2.2.2.2.1)];unfold Ya;rw[XB];have b:Xm c.bT t.size≠-1:=by omega
 obtain⟨_,d⟩:=Uv b;exact Xfw a.symm
theorem StM.OkP.resize(h:s.Ok c)(o size:Int):(Ag c s o size).Ok c:=by
 unfold Ag;split
 .exact h
 .rename_i f
  obtain⟨j,t,rfl,ht,hr,b⟩:=U7 (YL.1 f);rw[Ey ht,Qr ht];split
  .rename_i a
   split
   .rename_i i
    refine(StM.OkP.sized (h.put t.q size.toNat (Sw (t.size-size).toNat)) (o:=j) (t:=t) ht a hr).wrote _ _ _ λm hm=>?_;have l:=h.size j t ht;have g:(Eb (Yp c s t.q size.toNat (X6 (t.size-size).toNat)) (j:Nat) ⟨size,t.q⟩).th[j]?=some (some ⟨size,t.q⟩):=by
     show(s.th.set (j:Int).toNat _)[j]?=_
     rw[XB,XH ((XC.1 ht).1)]
    rw[Qr g] at hm;obtain⟨k,ek,_,d⟩:=At hm;have:=Rn h (k:=k) (m:=m) d ht ek;omega
   .exact h.sized ht a hr
  .rename_i a
   rcases b with b|⟨b,hf⟩
   .exact absurd b a
   .exact h.moveTo ht b hf
theorem V1{o i n:Int}(h:Qo s o i n=0):∃(j:Nat),∃t,o=j/\s.th[j]?=some (some t)/\0<=i/\0<=n/\i+n<=t.size:=by
 unfold Qo at h;by_cases a:Z7 s o=0
 .rw[bJ (λb=>b a)] at h;obtain⟨j,t,rfl,ht⟩:=J0 a;rw[Ey ht] at h;split at h
  .exact absurd h (by decide)
  .exact⟨j,t,rfl,ht,by omega,by omega,by omega⟩
 .rw[bK a] at h;exact absurd h a
theorem StM.OkP.read(h:s.Ok c)(o i n:Int):(Co c s o i n).Ok c:=by
 unfold Co;split
 .exact h.tot _
 .exact h
theorem StM.OkP.write(h:s.Ok c)(o i:Int)(hl:Qi l):(C9 c s o i l).Ok c:=by
 unfold C9;split
 .rename_i b
  obtain⟨j,t,rfl,ht,d,_,f⟩:=V1 b;refine(h.put _ _ hl).wrote _ _ _ λm hm=>?_;rw[(Qr (s:=Yp c s (Y9 s (j:Nat)) i.toNat l) ht)] at hm;obtain⟨k,ek,_,a⟩:=At hm;have:=Rn h (k:=k) (m:=m) a ht ek;omega
 .exact h
theorem StM.OkP.tickK(h:s.Ok c)(n:Int)(k:Nat):(tickK c (s,n) k).1.Ok c:=by
 unfold Go.Proofs.YtdeihcnepljjaaaGreatDoor.tickK;split
 .exact h
 .split
  .exact h.begin k
  .exact(StM.OkP.begin h k).go k _
theorem Nn(c:Conf)(s:StM)(n:Nat):tickTo c s (n+1)=tickK c (tickTo c s n) n:=by
 unfold tickTo;rw[QB,List.foldl_append];rfl
theorem StM.OkP.tickTo(h:s.Ok c):∀n,(tickTo c s n).1.Ok c
 |0=>h
 |n+1=>by rw[Nn];exact StM.OkP.tickK (StM.OkP.tickTo h n) _ _
theorem StM.OkP.tick(h:s.Ok c):(Ec c s).Ok c:=h.tickTo _
theorem StM.OkP.set(h:s.Ok c)(k bV:Int):(C8 s k bV).Ok c:=by
 unfold C8;split
 .rename_i a
  unfold Ce at a;split at a
  .exact absurd a (by decide)
  .refine⟨h.may,h.rm,by show(s.bV.set _ _).length=_;rw[XG];exact h.kl,λx b=>?_,h.bl,h.bi,h.tl,h.ml,h.size,h.small,h.large,h.linj,h.mv,h.own,h.ps,h.pl⟩;rcases ZO b with b|rfl
   .exact h.kr x b
   .omega
 .exact h
end
structure Iv(F:Nat->Prop)(w:dD)(R:Rm)(z:Nat):Prop where
 f:¬F z
 rb:R.rb≠z
 sb:R.sb≠z
 tb:1≠z
 ca:∀off s,R.p.ca≠some ⟨z,off,s⟩
 ka:∀off s,R.p.ka≠some ⟨z,off,s⟩
 lb:kd w z≠some (some 352)
 pg:kd w z≠some (some 348)
 int:kd w z=some (some 3)->R.X z
theorem Zn.other(h:Zn F w R M)(hc:Xc S w w')(hS:∀z,S z->Iv F w R z):Zn F w' R M:=by
 have q:=hc.size;have out:∀{a:Option Addr} {l:List Int},A3 F w a l->(∀z,S z -> ∀off s,a≠some ⟨z,off,s⟩)->A3 F w' a l:=λ{a l} g n=>⟨g.1.bW (λb off s e c=>n b c off s e) hc,g.2⟩;have pb:¬S R.P.pb:=λc=>(hS _ c).f (h.pf _ (.inl rfl));have ab:¬S R.P.ab:=λc=>(hS _ c).f (h.pf _ (.inr rfl));refine⟨h.ok,hc.heap h.obj (λc=>(hS _ c).rb rfl),out h.cL (λz c=>(hS z c).ca),out h.kee (λz c=>(hS z c).ka),h.may,λb o=>?_,λk i=>hc.cell (h.sl k i) (λc=>(hS _ c).sb rfl),h.pool.bR hc pb ab,h.pf,?_,h.lg.bR hc (λz c e=>.inr ((hS z e).int c)) (λc=>(hS _ c).f h.lf),h.lf,h.rf,h.sf,λz c=>by have:=h.low z c;omega,h.tab.bR hc (λc=>(hS _ c).tb rfl),h.tf,λz c=>⟨by have:=(h.xl z c).1;omega,(h.xl z c).2⟩⟩
 .obtain⟨f,hm⟩:=h.met b o;exact⟨f,hc.heap hm.1 (λe=>(hS _ e).f f),hm.2⟩
 .obtain⟨G,a,e⟩:=h.sh;refine⟨G,λk x p=>?_,e⟩;obtain⟨f,d,j⟩:=a k x p;have nf:∀z,S z -> ¬Qh (R.S _) (G _) x.pg z:=λz c hf=>(hS z c).f (j z hf).1;exact⟨f,⟨d.ok,d.pos,d.of,d.at'.bR hc (λz c=>⟨λe=>nf z c (.inl e),λe=>nf z c (.inr (.inl e)),λe=>(hS z c).lb (e▸d.at'.kds.lb),λe=>nf z c (.inr (.inr (.inl e)))⟩) (λz c e m=>⟨λe'=>(hS z c).pg (e'▸(d.at'.bS e m).kds.p),λe'=>nf z c (.inr (.inr (.inr ⟨e,m,e'⟩)))⟩) (λc=>(hS _ c).tb rfl),d.pool.bR hc (by rw[f];exact pb) (by rw[f];exact ab)⟩,j⟩
theorem XnH{off:Nat}(h:off+m<=n):sub (X6 n) off m=List.replicate m 0:=by
 unfold sub X6;rw[List.drop_replicate,List.take_replicate,Nat.min_eq_left (by omega)]
theorem Xn4(v:Vw)(vb:Nat)(A:Ar)(V:ArV)(i m:Nat)(w:dD)(hvb:G9 w vb v)(hv:w.heap[v.vb]?=some (.cells (Nr v).toArray 226 (0,0)))(hab:v.ab=A.ab)(hA:X8 w A V)(him:i+m<=V.bs.length):Xf prog 171 #[.int .i64 i,.int .i64 m,.pointer (some ⟨vb,0,none⟩)] w (λ_ w'=>X8 w' A {V.cT A m with bs:=Q4 V.bs i (List.replicate m 0)}/\Xc (Zy A) w w'):=by
 refine aR func171 ntmps171 aA (bB hvb aA (bB hv aA ?_));rw[hab];refine aP aA (Xia A V i m 0 w hA him (by decide)) ?_;rintro _ c ⟨rfl,a,b⟩;exact aN aA (bE func171 aA ⟨a,b⟩)
theorem Xn3(v:Vw)(q:Plc)(at' n:Nat)(A:Ar)(V:ArV)(w:dD)(hv:Bp w v)(hq:Zp w q)(hmb:v.mb=A.mb)(hab:v.ab=A.ab)(hck:Qt v.c q at' n=0)(hfew:q.bS.length<=4096)(hPv:¬Zy A v.vb)(hPq:0<q.bS.length->Xj (Zy A) q.pa)(hPc:0<v.c.bT.length->Xj (Zy A) v.p.ca)(hPk:0<v.c.bV.length->Xj (Zy A) v.p.ka)(hA:X8 w A V)(hlen:(V.bs.length:Int)=v.c.size*v.c.bS):Xf prog 112 #[Fz v,.agg (Xv q).toArray,.int .i64 at',.int .i64 n] w (λu w'=>u=.int .i64 0/\X8 w' A (B4 q A V (Zw v.c q at' n) (X6 n) (Zw v.c q at' n).length)/\Xc (Zy A) w w'):=by
 obtain⟨ps,c⟩:∃ps,ps=Zw v.c q at' n:=⟨_,rfl⟩;have g:∀p∈ps,∃i m:Nat,p=((i:Int),(m:Int))/\i+m<=V.bs.length:=λp j=>by
  obtain⟨i,m,h1,h2⟩:=Rz hv.may hck hfew p (c▸j);exact⟨i,m,h1,by omega⟩
 have I:Zo ps=n:=by rw[c];exact O4 hv.may
 have L:(X6 n).length=n:=XI;rw[<-c];refine aR func112 ntmps112 aA (bC aA λvb w1 e1 M N a6=>bC aA λqb l e2 o F a7=>?_);replace o:Je l qb q:=o;have r:=N.trans F;have s:G9 l vb v:=F.bP M;refine bB s aA (bB o aA ?_);have d:=foot_lt hA;have b:∀z,Yv A z->Zy A z:=λz h=>.inr h;have a8:=Xg hv.obj;have O:=XcM v q at' n 171 [.pointer (some ⟨vb,0,none⟩)] A (B4 q A V ps (X6 n))
  (λk Y x=>(∀z,Y z↔Zy A z)/\G9 x vb v/\x.heap[v.vb]?=some (.cells (Nr v).toArray 226 (0,0))/\l.heap.size<=x.heap.size)
  (Zy A) l (hv.bQ r) (hq.bQ r) hmb hck hfew
  (by rintro(h|h);exact hPv h;exact hPv (b _ h))
  (hq.rd.outNew hPq (λz a=>by rcases a with h|h;exact .inl h;exact .inl (b _ h)))
  (hv.cO.bT.outNew hPc (λz a=>by rcases a with h|h;exact .inl h;exact .inl (b _ h)))
  (hv.cO.bV.outNew hPk (λz a=>by rcases a with h|h;exact .inl h;exact .inl (b _ h)))
  (by
   rintro k Y x ⟨f,t,B,C⟩ z a;have:=d z ((f z).1 a);omega)
  (by
   rintro k Y x y S ⟨f,t,B,C⟩ J hS;have no:∀z,z<l.heap.size -> ¬Yv A z -> ¬S z:=λz a hm h=>(hS z h).elim hm (λh=>by omega);exact⟨f,J.heap t (no _ (by omega) (λh=>by have:=d _ (b _ h);omega)),J.heap B (no _ (by omega) (λh=>hPv (b _ h))),ZN C J.size⟩)
  (by
   rintro k Y x D P ⟨f,t,B,C⟩;rw[<-c] at D;obtain⟨i,m,j,Q⟩:=g ps[k] (XM D);have G:(B7 q A (B4 q A V ps (X6 n) k)).bs=(B4 q A V ps (X6 n) k).bs:=Tq _ _ _;have K:(B4 q A V ps (X6 n) k).bs.length=V.bs.length:=XcQ g (by rw[L];exact I) (by omega);have H:=Sq D;rw[j] at H;simp only[XB] at H;have hR:=Xn4 v vb A (B7 q A (B4 q A V ps (X6 n) k)) i m x t B hab P (by rw[G,K];exact Q);simp only[<-c];rw[j];refine hR.mono λ_ y ⟨R,E⟩=>?_;rw[G] at R;refine⟨by rw[St D j,XnH (by omega)];exact R,E.mono λz _ a=>(f z).2 a,Y,⟨f,?_,?_,ZN C E.size⟩,λz a=>.inl a⟩
   .exact E.heap t (λh=>by have:=d _ h;omega)
   .exact E.heap B hPv)
  (hA.bQ r) ⟨λz=>Iff.rfl,s,r.bP hv.obj,XF _⟩
 rw[<-c] at O;refine aP aA (O) ?_;rintro _ w4 ⟨rfl,T,_,U⟩;refine aN rfl ?_;have W:Xc (Zy A) w w4:=r.gr.bU U (λz a h=>by rcases h with h|h;exact h;exact b _ h);exact Xa.ret1 Xb rfl func112 rfl rfl ⟨rfl,T,W⟩
structure Sto where
 sb:Nat
 c:Conf
 p:Y4
 kb:Nat
 kc:Nat
 kr:List Value
 mb:Nat
 A:Ar
 R:Rm
 v:Vw
 tm:Nat
 vb:Nat
 vc:Nat
 G:Nat->Prop
abbrev Yq(S:Sto):Value:=.pointer (some ⟨S.sb,0,none⟩)
def Pr(S:Sto)(nk nm:Nat)(by':Int):List Value:=Zj S.c S.p++[.slice (some ⟨S.kb,0,none⟩) nk S.kc,.pointer (some ⟨S.mb,0,none⟩),.pointer (some ⟨S.A.ab,0,none⟩),Cl S.R,Fz S.v,.map (some S.tm),.slice (some ⟨S.vb,0,none⟩) nm S.vc,.int .i64 by']
def Fe(size:Int)(q:Plc):List Value:=.int .i64 size::Xv q
abbrev Mo:=List (Option (Nat×MvM))
def Ep:Option (Nat×MvM)->List Value
 |none=>[.pointer none,.int .i64 0,.int .i64 0,.int .i64 0,.int .i64 0,.int .i64 0]
 |some (b,m)=>[.pointer (some ⟨b,0,none⟩),.int .i64 m.who,.int .i64 m.pf,.int .i64 m.fa,.int .i64 m.pt,.int .i64 m.ta]
theorem Xe7(x:Option (Nat×MvM)):(Ep x).length=6:=by cases x <;> rfl
def Ht(mo:Mo):List (Option MvM):=mo.map λx=>x.map (·.2)
abbrev Fi(S:Sto)(s:StM):ArV:=⟨s.bs,s.rm.tot,S.R.dA⟩
abbrev Fp(b:Nat)(m:MvM):Mv:=⟨b,m.f,m.t,m.size⟩
structure Ga(G:Nat->Prop)(w:dD)(a:Option Addr):Prop where
 i:∀b off s,a=some ⟨b,off,s⟩->kd w b=some (some 3)
 g:Xj G a
theorem Ga.bR{G S:Nat->Prop}{w w':dD}(h:Ga G w a)(hc:Xc S w w')(hS:Xj S a):Ga G w' a:=⟨λb off s e=>Gz hc (h.i b off s e) (hS b off s e),h.g⟩
theorem Ga.bQ{G:Nat->Prop}{w w':dD}(h:Ga G w a)(hc:Xc Xe w w'):Ga G w' a:=h.bR hc (λ_ _ _ _ h=>h)
def Pv(F G:Nat->Prop)(w:dD)(tm:Nat)(th:List (Option ThM))(al:AL):Prop:=Yx w tm al/\(Bj al).Nodup/\
 (∀(o:Nat) t,th[o]?=some (some t) -> ∃q:Plc,Xx q=t.q/\Bq al o=some (.agg (Fe t.size q).toArray)/\Zp w q/\Xj F q.pa/\Ga G w q.pa)/\(∀k:Int,(∀(o:Nat) t,th[o]?=some (some t)->(o:Int)≠k)->Bq al k=none)/\∀z,G z->z<w.heap.size
def Hn(F G:Nat->Prop)(w:dD)(tm:Nat)(th:List (Option ThM)):Prop:=∃al,Pv F G w tm th al
theorem Hn.bW{F G S:Nat->Prop}{w w':dD}{tm:Nat}{th:List (Option ThM)}(h:Hn F G w tm th)(hc:Xc S w w')(hS:∀z,S z->F z)(hm:¬S tm):Hn F G w' tm th:=by
 obtain⟨al,a,b,d,e,f⟩:=h;have:=hc.size;exact⟨al,a.bR hc hm,b,λo t ht=>by
  obtain⟨q,i,j,g,c,k⟩:=d o t ht;exact⟨q,i,j,⟨g.rd.bW (c.mono hS) hc,g.len⟩,c,k.bR hc (c.mono hS)⟩,e,λz l=>by have:=f z l;omega⟩
theorem Hn.wide{F G:Nat->Prop}{w:dD}(h:Hn F G w tm th)(hF:∀z,F' z->F z\/w.heap.size<=z):Hn F' G w tm th:=by
 obtain⟨al,a,b,d,e⟩:=h;exact⟨al,a,b,λo t ht=>by
  obtain⟨q,f,g,i,j,c⟩:=d o t ht;exact⟨q,f,g,i,λb off s e k=>(hF b k).elim (j b off s e) (λh=>by have:=Dg (c.i b off s e);omega),c⟩,e⟩
structure Xq(F Fr:Nat->Prop)(w:dD)(S:Sto)(s:StM)(by':Int)(mo:Mo):Prop where
 obj:w.heap[S.sb]?=some (.cells (Pr S s.bV.length s.mv.length by').toArray 159 (0,0))
 kee:w.heap[S.kb]?=some (.cells (s.bV.map (Value.int .i64)++S.kr).toArray 3 (0,0))
 kcap:s.bV.length<=S.kc
 cW:Zn Fr w S.R s.rm
 ar:X8 w S.A (Fi S s)
 vw:Bp w S.v
 th:Hn F S.G w S.tm s.th
 mvs:w.heap[S.vb]?=some (.cells (fl Ep mo).toArray 214 (0,0))
 mvc:s.mv.length<=S.vc
 mom:Ht mo=s.mv
 mob:∀(k b:Nat) m,mo[k]?=some (some (b,m))->w.heap[b]?=some (.cells (Oy S.A (Fp b m) m.cE).toArray 288 (0,0))/\F b/\¬Fr b
 mdj:∀(j k b:Nat) m m',mo[j]?=some (some (b,m))->mo[k]?=some (some (b,m'))->j=k
 rc:S.R.c=S.c
 rp:S.R.p=S.p
 rmo:S.R.mo=some S.mb
 rX:S.R.X=λz=>z=S.kb\/S.G z
 amb:S.A.mb=some S.mb
 vc:S.v.c=S.c
 vp:S.v.p=S.p
 vab:S.v.ab=S.A.ab
 vmb:S.v.mb=some S.mb
 f1:∀z,Fr z->F z
 f2:F S.sb/\F S.kb/\F S.A.db/\F S.tm/\F S.vb
 nr:¬Fr S.sb/\¬Fr S.kb/\¬Fr S.A.db/\¬Fr S.tm/\¬Fr S.vb
 nF:¬F S.A.ab/\¬F S.A.mc/\¬F S.v.vb/\¬F S.R.rb/\¬F S.R.sb/\¬F 1
 ca:A3 F w S.p.ca S.c.bT
 ka:A3 F w S.p.ka S.c.bV
 low:∀z,F z->z<w.heap.size
section
variable {F Fr:Nat->Prop}{w w':dD}{S:Sto}{s:StM}{by':Int}{mo:Mo}
theorem Xq.lt(h:Xq F Fr w S s by' mo):S.sb<w.heap.size/\S.kb<w.heap.size/\S.A.db<w.heap.size/\S.tm<w.heap.size/\S.vb<w.heap.size:=
 ⟨h.low _ h.f2.1,h.low _ h.f2.2.1,h.low _ h.f2.2.2.1,h.low _ h.f2.2.2.2.1,h.low _ h.f2.2.2.2.2⟩
theorem Hn.kd{G:Nat->Prop}(h:Hn F G w S.tm s.th):kd w S.tm=some none:=by
 obtain⟨al,a,_⟩:=h;exact Ro a
theorem Xq.mb(h:Xq F Fr w S s by' mo):F S.mb/\Fr S.mb/\Bf w S.mb s.rm.tot S.R.dA:=by
 obtain⟨a,b⟩:=h.cW.met _ h.rmo;exact⟨h.f1 _ a,a,b⟩
theorem Xq.ext(h:Xq F Fr w S s by' mo){z:Nat}{x:Option Nat}(hF:F z)(hn:¬Fr z)(hk:kd w z=some x)(hx:∀t,x=some t->t≠352/\t≠348/\t≠221/\(t=3->z=S.kb)):Iv Fr w S.R z:=by
 obtain⟨j,k,m,c,d,f⟩:=h.nF;have hm:=Ye h.cW.may;have bW:∀{a:Option Addr} {l:List Int},A3 F w a l->0<l.length -> ∀off s,a≠some ⟨z,off,s⟩:=λg i off s e=>g.2 i z off s e hF;have b:=h.rc;refine⟨hn,λe=>c (e▸hF),λe=>d (e▸hF),λe=>f (e▸hF),?_,?_,λe=>?_,λe=>?_,λe=>?_⟩
 .rw[h.rp];exact bW h.ca (by rw[b] at hm;have:=hm.n;omega)
 .rw[h.rp];exact bW h.ka (by rw[b] at hm;have:=hm.bV;have:=hm.n;omega)
 .rw[hk] at e;exact(hx _ (Option.some.inj e)).1 rfl
 .rw[hk] at e;exact(hx _ (Option.some.inj e)).2.1 rfl
 .rw[hk] at e;rw[h.rX];exact .inl ((hx _ (Option.some.inj e)).2.2.2 rfl)
theorem Xq.ext'(h:Xq F Fr w S s by' mo){z:Nat}(hF:F z)(hn:¬Fr z)(hk:kd w z=some (some t))(ht:t≠352/\t≠348/\t≠221/\t≠3):Iv Fr w S.R z:=
 h.ext hF hn hk (λt' e=>by cases e;exact⟨ht.1,ht.2.1,ht.2.2.1,λe=>absurd e ht.2.2.2⟩)
theorem Xq.extMap(h:Xq F Fr w S s by' mo):Iv Fr w S.R S.tm:=h.ext h.f2.2.2.2.1 h.nr.2.2.2.1 h.th.kd (λt e=>by cases e)
theorem Xq.extKeep(h:Xq F Fr w S s by' mo):Iv Fr w S.R S.kb:=h.ext h.f2.2.1 h.nr.2.1 (X1 h.kee) (λt e=>by cases e;exact⟨by decide,by decide,by decide,λ_=>rfl⟩)
theorem Xq.bQ(h:Xq F Fr w S s by' mo)(hc:Xc Xe w w'):Xq F Fr w' S s by' mo:=
 {h with
  obj:=hc.bP h.obj,kee:=hc.bP h.kee,cW:=h.cW.bQ hc,ar:=h.ar.bQ hc,vw:=h.vw.bQ hc,th:=h.th.bW hc (λ_ h=>h.elim) id,mvs:=hc.bP h.mvs,
  mob:=λk b m hm=>by obtain⟨a,d⟩:=h.mob k b m hm;exact⟨hc.bP a,d⟩,
  ca:=h.ca.bR hc (λ_ h=>h.elim),ka:=h.ka.bR hc (λ_ h=>h.elim),low:=λz c=>by have:=h.low z c;have:=hc.size;omega}
structure Sx(F:Nat->Prop)(w:dD)(S:Sto)(z:Nat):Prop where
 f:¬F z
 e1:S.A.ab≠z/\S.A.mc≠z/\S.v.vb≠z/\S.R.rb≠z/\S.R.sb≠z/\1≠z
 ca:∀off s,S.p.ca≠some ⟨z,off,s⟩
 ka:∀off s,S.p.ka≠some ⟨z,off,s⟩
 kd:∃t,kd w z=some (some t)/\t≠352/\t≠348/\(t=3->S.G z)
def Xh0(S:Nat->Prop)(w:dD)(tm:Nat):Prop:=∀al,Yx w tm al -> ∀(k:Int) sz (q:Plc),Bq al k=some (.agg (Fe sz q).toArray)->Xj S q.pa
theorem Xq.other{T:Nat->Prop}(h:Xq F Fr w S s by' mo)(hc:Xc T w w')(hT:∀z,T z->Sx F w S z)(ho:Xh0 T w S.tm):Xq F Fr w' S s by' mo:=by
 have nf:∀{z:Nat},F z -> ¬T z:=λhf ht=>(hT _ ht).f hf;have j:∀z,T z->Iv Fr w S.R z:=λz c=>by
  have e:=hT z c;obtain⟨t,p,v,x,y⟩:=e.kd;have d:∀{t':Nat},t≠t'->Go.Proofs.YtdeihcnepljjaaaGreatDoor.kd w z≠some (some t'):=λh e=>h (Option.some.inj (Option.some.inj (p.symm.trans e)));exact⟨λhf=>e.f (h.f1 z hf),e.e1.2.2.2.1,e.e1.2.2.2.2.1,e.e1.2.2.2.2.2,by rw[h.rp];exact e.ca,by rw[h.rp];exact e.ka,d v,d x,λe=>by rw[h.rX];exact .inr (y (Option.some.inj (Option.some.inj (p.symm.trans e))))⟩
 have bW:∀{a:Option Addr} {l:List Int},A3 F w a l->(∀z,T z -> ∀off s,a≠some ⟨z,off,s⟩)->A3 F w' a l:=λg A=>⟨g.1.bW (λb off s e c=>A b c off s e) hc,g.2⟩;have r:Bp w' S.v:=⟨hc.heap h.vw.obj (λc=>(hT _ c).e1.2.2.1 rfl),by
  have:=h.vw.cO;rw[h.vc,h.vp] at this⊢;exact⟨this.bT.bW (λb off s e c=>(hT b c).ca off s e) hc,this.bV.bW (λb off s e c=>(hT b c).ka off s e) hc,this.lc,this.lk,this.size⟩,h.vw.may⟩
 refine {h with
  obj:=hc.heap h.obj (nf h.f2.1),kee:=hc.heap h.kee (nf h.f2.2.1),cW:=h.cW.other hc j,
  ar:=h.ar.bR hc (λb hb c=>?_),vw:=r,th:=?_,mvs:=hc.heap h.mvs (nf h.f2.2.2.2.2),
  mob:=λk b m hm=>by obtain⟨a,d⟩:=h.mob k b m hm;exact⟨hc.heap a (nf d.1),d⟩,
  ca:=bW h.ca (λz c=>(hT z c).ca),ka:=bW h.ka (λz c=>(hT z c).ka),low:=λz c=>by have:=h.low z c;have:=hc.size;omega}
 .rcases hb with rfl|rfl|rfl|hb
  .exact(hT _ c).e1.1 rfl
  .exact nf h.f2.2.2.1 c
  .exact(hT _ c).e1.2.1 rfl
  .rw[h.amb] at hb;cases hb;exact nf h.mb.1 c
 .have i:=ho;obtain⟨al,a,b,d,e,f⟩:=h.th;have:=hc.size;exact⟨al,a.bR hc (nf h.f2.2.2.2.1),b,λo t ht=>by
   obtain⟨q,B,n,u,C,D⟩:=d o t ht;exact⟨q,B,n,⟨u.rd.bW (i al a _ _ _ n) hc,u.len⟩,C,D.bR hc (i al a _ _ _ n)⟩,e,λz c=>by have:=f z c;omega⟩
theorem Xq.own(h:Xq F Fr w S s by' mo)(hc:Xc T w w')(hT:∀z,T z->F z/\Iv Fr w S.R z):Zn Fr w' S.R s.rm/\Bp w' S.v/\(¬T S.tm->Hn F S.G w' S.tm s.th)/\(¬T S.A.db->X8 w' S.A (Fi S s))/\A3 F w' S.p.ca S.c.bT/\A3 F w' S.p.ka S.c.bV/\(∀z,F z->z<w'.heap.size)/\Bf w' S.mb s.rm.tot S.R.dA:=by
 obtain⟨d,f,g,k,l,m⟩:=h.nF;have c:¬T S.mb:=λa=>(hT _ a).2.f h.mb.2.1;refine⟨h.cW.other hc (λz a=>(hT z a).2),⟨hc.heap h.vw.obj (λa=>g (hT _ a).1),?_,h.vw.may⟩,λhm=>h.th.bW hc (λz a=>(hT z a).1) hm,λi=>h.ar.bR hc (λb hb a=>?_),h.ca.bR hc (λz a=>(hT z a).1),h.ka.bR hc (λz a=>(hT z a).1),λz a=>by have:=h.low z a;have:=hc.size;omega,h.mb.2.2.1|> λj=>⟨hc.heap j c,h.mb.2.2.2⟩⟩
 .have:=h.vw.cO;rw[h.vc,h.vp] at this⊢;exact⟨(h.ca.bR hc (λz a=>(hT z a).1)).1,(h.ka.bR hc (λz a=>(hT z a).1)).1,this.lc,this.lk,this.size⟩
 .rcases hb with rfl|rfl|rfl|hb
  .exact d (hT _ a).1
  .exact i a
  .exact f (hT _ a).1
  .rw[h.amb] at hb;cases hb;exact c a
end
variable {mo:Mo}
theorem Zn.charge2{F:Nat->Prop}{w w':dD}(h:Zn F w R M)(hb:R.mo=some b){t:Int}(hm:Bf w' b t R.dA)(hc:Xc T w w')(hT:∀z,T z->z=b\/Iv F w R z):Zn F w' R {M with tot:=t}:=by
 obtain⟨f,o⟩:=h.met b hb;have kb:=Mp o;have kp:=h.pool.kds;have y:=hc.size;have no:∀{z:Nat} {x:Option Nat},kd w z=some x->x≠some 240 -> ¬Iv F w R z -> ¬T z:=λi j r hz=>by
  rcases hT _ hz with e|e
  .subst e;rw[kb] at i;exact j (Option.some.inj i).symm
  .exact r e
 have mf:∀{z:Nat} {x:Option Nat},kd w z=some x->x≠some 240->F z -> ¬T z:=λi j hf=>no i j (λe=>e.f hf);have out:∀{a:Option Addr} {l:List Int},A3 F w a l->(∀z,Iv F w R z -> ∀off s,a≠some ⟨z,off,s⟩)->A3 F w' a l:=λ{a l} g u=>by
  refine⟨?_,g.2⟩;by_cases v:0<l.length
  .exact g.1.bW (λb' off s e hz=>by
    rcases hT _ hz with e'|e'
    .subst e';exact g.2 v b' off s e f
    .exact u b' e' off s e) hc
  .have:l=[]:=YG (by omega);subst this;exact Rd.nil _ _ _
 have rbn:¬T R.rb:=λhz=>(hT _ hz).elim (λe=>h.rf (e▸f)) (λe=>e.rb rfl);have sbn:¬T R.sb:=λhz=>(hT _ hz).elim (λe=>h.sf (e▸f)) (λe=>e.sb rfl);have tbn:¬T 1:=λhz=>(hT _ hz).elim (λe=>h.tf (e▸f)) (λe=>e.tb rfl);have pb:=mf kp.1 (by decide) (h.pf _ (.inl rfl));have ab:=mf kp.2 (by decide) (h.pf _ (.inr rfl));refine⟨{h.ok with tot:=by have:=hm.2;show 0<=t/\t<=4611686018427387904;omega},hc.heap h.obj rbn,out h.cL (λz e=>e.ca),out h.kee (λz e=>e.ka),h.may,λb' m=>?_,λk i=>hc.cell (h.sl k i) sbn,h.pool.bR hc pb ab,h.pf,?_,h.lg.bR hc (λz hz e=>(hT z e).elim (λe=>.inl (e▸f)) (λe=>.inr (e.int hz))) (mf (Ig h.lg) (by simp) h.lf),h.lf,h.rf,h.sf,λz hz=>by have:=h.low z hz;omega,h.tab.bR hc tbn,h.tf,λz hz=>⟨by have:=(h.xl z hz).1;omega,(h.xl z hz).2⟩⟩
 .rw[hb] at m;cases m;exact⟨f,hm⟩
 .obtain⟨G,a,d⟩:=h.sh;refine⟨G,λk x j=>?_,d⟩;obtain⟨n,c,p⟩:=a k x j;have ap:=c.at'.apart kb (by decide);have nf:∀z,Iv F w R z -> ¬Qh (R.S _) (G _) x.pg z:=λz hz hf=>hz.f (p z hf).1;refine⟨n,⟨c.ok,c.pos,c.of,c.at'.bR hc (λz hz=>?_) (λz hz=>?_) tbn,c.pool.bR hc (by rw[n];exact pb) (by rw[n];exact ab)⟩,p⟩
  .rcases hT z hz with e|hz
   .subst e;exact ap.1
   .exact⟨λe=>nf z hz (.inl e),λe=>nf z hz (.inr (.inl e)),λe=>hz.lb (e▸c.at'.kds.lb),λe=>nf z hz (.inr (.inr (.inl e)))⟩
  .rcases hT z hz with e|hz
   .subst e;exact ap.2
   .exact λe q=>⟨λe'=>hz.pg (e'▸(c.at'.bS e q).kds.p),λe'=>nf z hz (.inr (.inr (.inr ⟨e,q,e'⟩)))⟩
section
variable {F Fr:Nat->Prop}{w w':dD}{S:Sto}{s:StM}{by':Int}{mo:Mo}
theorem Pv.put{G:Nat->Prop}{al:AL}(h:Pv F G w tm th al){qm:PlcM}(hq:Xx q=qm)(ho:o<th.length)(hm:Yx w' tm (C2 al (o:Nat) (.agg (Fe size q).toArray)))(hc:Xc (λz=>z=tm) w w')(ht:F tm)(hp:Zp w q)(hF:Xj F q.pa)(hl:Ga G w q.pa):Hn F G w' tm (th.set o (some ⟨size,qm⟩)):=by
 obtain⟨A,l,m,n,p⟩:=h;have:=hc.size;have up:∀{q:Plc},Zp w q->Xj F q.pa->Zp w' q:=λa b=>⟨a.rd.bW (b.mono (S':=λz=>z=tm) λz e=>e▸ht) hc,a.len⟩;refine⟨_,hm,Xbh l _ _,λd g c=>?_,λk j=>?_,λz r=>by have:=p z r;omega⟩
 .rcases A1 c with⟨rfl,rfl⟩|⟨y,c⟩
  .exact⟨q,hq,by rw[Js,bK rfl],up hp hF,hF,hl.bR hc (hF.mono (S':=λz=>z=tm) λz e=>e▸ht)⟩
  .obtain⟨s,t,u,v,i,x⟩:=m d g c;exact⟨s,t,by rw[Js,bJ (by omega)];exact u,up v i,i,x.bR hc (i.mono (S':=λz=>z=tm) λz e=>e▸ht)⟩
 .have f:=j o _ (XH ho);rw[Js,bJ (λe=>f e.symm)];refine n k λd g c=>?_;by_cases e:d=o
  .subst e;exact f
  .exact j d g (Ez e c)
theorem Pv.del{G:Nat->Prop}{al:AL}(h:Pv F G w tm th al)(hm:Yx w' tm (Dp al (o:Nat)))(hc:Xc (λz=>z=tm) w w')(ht:F tm):Hn F G w' tm (th.set o none):=by
 obtain⟨u,c,i,j,l⟩:=h;have:=hc.size;refine⟨_,hm,Xfe c _,λb d a=>?_,λk m=>?_,λz n=>by have:=l z n;omega⟩
 .rcases J9 a with⟨_,e,_⟩|⟨t,a⟩
  .cases e
  .obtain⟨p,q,r,g,f,s⟩:=i b d a;exact⟨p,q,by rw[L6 c,bJ (by omega)];exact r,⟨g.rd.bW (f.mono (S':=λz=>z=tm) λz e=>e▸ht) hc,g.len⟩,f,s.bR hc (f.mono (S':=λz=>z=tm) λz e=>e▸ht)⟩
 .rw[L6 c];by_cases e:k=(o:Nat)
  .rw[bK e]
  .rw[bJ e];refine j k λb d a=>?_;by_cases e1:b=o
   .subst e1;exact λh=>e h.symm
   .exact m b d (Ez e1 a)
theorem Xq.kds(h:Xq F Fr w S s by' mo):kd w S.sb=some (some 159)/\kd w S.kb=some (some 3)/\kd w S.A.db=some (some 5)/\kd w S.tm=some none/\kd w S.vb=some (some 214)/\kd w S.mb=some (some 240):=
 ⟨X1 h.obj,X1 h.kee,X1 h.ar.dat,h.th.kd,X1 h.mvs,X1 h.mb.2.2.1⟩
theorem Xq.objAt(h:Xq F Fr w S s by' mo)(hc:Xc T w w')(hT:∀(k b:Nat) m,mo[k]?=some (some (b,m)) -> ¬T b):∀(k b:Nat) m,mo[k]?=some (some (b,m))->w'.heap[b]?=some (.cells (Oy S.A (Fp b m) m.cE).toArray 288 (0,0))/\F b/\¬Fr b:=λk b m hm=>by
 obtain⟨x,y⟩:=h.mob k b m hm;exact⟨hc.heap x (hT k b m hm),y⟩
theorem Xq.kdm(h:Xq F Fr w S s by' mo){m:MvM}(hm:mo[k]?=some (some (b,m))):kd w b=some (some 288):=X1 (h.mob k b m hm).1
theorem Xq.setBy(h:Xq F Fr w S s by' mo){by2:Int}(hc:Xc (λz=>z=S.sb) w w')(ho:w'.heap[S.sb]?=some (.cells (Pr S s.bV.length s.mv.length by2).toArray 159 (0,0))):Xq F Fr w' S s by2 mo:=by
 obtain⟨a,c,d,f,g,r⟩:=h.kds;obtain⟨i,j,l,n,o,p,q,_⟩:=h.own hc (λz e=>⟨e▸h.f2.1,e▸h.ext' h.f2.1 h.nr.1 a (by decide)⟩);exact {h with obj:=ho,kee:=hc.heap h.kee (Xs c a (by decide)),cW:=i,ar:=n (Xs d a (by decide)),vw:=j,th:=l (Xs f a (by simp)),mvs:=hc.heap h.mvs (Xs g a (by decide)),mob:=h.objAt hc (λk b m hm=>Xs (h.kdm hm) a (by decide)),ca:=o,ka:=p,low:=q}
theorem Xq.setKeep(h:Xq F Fr w S s by' mo)(hl:l.length=s.bV.length)(hc:Xc (λz=>z=S.kb) w w')(ho:w'.heap[S.kb]?=some (.cells (l.map (Value.int .i64)++S.kr).toArray 3 (0,0))):Xq F Fr w' S {s with bV:=l} by' mo:=by
 obtain⟨c,a,d,f,g,t⟩:=h.kds;obtain⟨i,j,n,o,p,q,r,_⟩:=h.own hc (λz e=>⟨e▸h.f2.2.1,e▸h.extKeep⟩);exact {h with obj:=by show w'.heap[S.sb]?=some (.cells (Pr S l.length s.mv.length by').toArray _ _);rw[hl];exact hc.heap h.obj (Xs c a (by decide)),kee:=ho,kcap:=by show l.length<=_;rw[hl];exact h.kcap,cW:=i,ar:=o (Xs d a (by decide)),vw:=j,th:=n (Xs f a (by simp)),mvs:=hc.heap h.mvs (Xs g a (by decide)),mob:=h.objAt hc (λk b m hm=>Xs (h.kdm hm) a (by decide)),ca:=p,ka:=q,low:=r}
theorem Xq.setTh(h:Xq F Fr w S s by' mo){th':List (Option ThM)}(hc:Xc (λz=>z=S.tm) w w')(ht:Hn F S.G w' S.tm th'):Xq F Fr w' S {s with th:=th'} by' mo:=by
 obtain⟨c,d,f,a,g,q⟩:=h.kds;obtain⟨i,j,r,l,n,o,p,_⟩:=h.own hc (λz e=>⟨e▸h.f2.2.2.2.1,e▸h.extMap⟩);exact {h with obj:=hc.heap h.obj (Xs c a (by simp)),kee:=hc.heap h.kee (Xs d a (by simp)),cW:=i,ar:=l (Xs f a (by simp)),vw:=j,th:=ht,mvs:=hc.heap h.mvs (Xs g a (by simp)),mob:=h.objAt hc (λk b m hm=>Xs (h.kdm hm) a (by simp)),ca:=n,ka:=o,low:=p}
theorem Xe3(mo:Mo)(k:Nat)(x:Option (Nat×MvM)):Ht (mo.set k x)=(Ht mo).set k (x.map (·.2)):=by unfold Ht;rw[ZZ]
theorem Rs{mo:Mo}{m:MvM}{x:Option (Nat×MvM)}(h:(mo.set k x)[j]?=some (some (b,m))):(j=k/\x=some (b,m)/\k<mo.length)\/(j≠k/\mo[j]?=some (some (b,m))):=J9 h
theorem Xq.mol(h:Xq F Fr w S s by' mo):mo.length=s.mv.length:=by rw[<-h.mom];unfold Ht;rw[XV]
theorem Xq.setMv(h:Xq F Fr w S s by' mo){x:Option (Nat×MvM)}(hc:Xc (λz=>z=S.vb) w w')(ho:w'.heap[S.vb]?=some (.cells (fl Ep (mo.set k x)).toArray 214 (0,0)))(hx:∀b m,x=some (b,m)->w.heap[b]?=some (.cells (Oy S.A (Fp b m) m.cE).toArray 288 (0,0))/\F b/\¬Fr b/\∀(j:Nat) m',mo[j]?≠some (some (b,m'))):Xq F Fr w' S {s with mv:=s.mv.set k (x.map (·.2))} by' (mo.set k x):=by
 obtain⟨l,n,o,p,a,D⟩:=h.kds;obtain⟨q,r,t,u,v,y,A,_⟩:=h.own hc (λz e=>⟨e▸h.f2.2.2.2.2,e▸h.ext' h.f2.2.2.2.2 h.nr.2.2.2.2 a (by decide)⟩);have f:(s.mv.set k (x.map (·.2))).length=s.mv.length:=XG;refine {h with obj:=by show w'.heap[S.sb]?=some (.cells (Pr S s.bV.length (s.mv.set k (x.map (·.2))).length by').toArray _ _);rw[f];exact hc.heap h.obj (Xs l a (by decide)),kee:=hc.heap h.kee (Xs n a (by decide)),cW:=q,ar:=u (Xs o a (by decide)),vw:=r,th:=t (Xs p a (by simp)),mvs:=ho,mvc:=by show(s.mv.set k _).length<=_;rw[f];exact h.mvc,mom:=by rw[Xe3,h.mom],mob:=λj b m hm=>?_,mdj:=λi j b m m' B g=>?_,ca:=v,ka:=y,low:=A}
 .rcases Rs hm with⟨_,e,_⟩|⟨_,hm⟩
  .obtain⟨c,d,C,_⟩:=hx b m e;exact⟨hc.heap c (Xs (X1 c) a (by decide)),d,C⟩
  .obtain⟨c,d⟩:=h.mob j b m hm;exact⟨hc.heap c (Xs (X1 c) a (by decide)),d⟩
 .rcases Rs B with⟨e1,e,_⟩|⟨_,gi⟩
  .rcases Rs g with⟨e2,_,_⟩|⟨_,gj⟩
   .exact e1.trans e2.symm
   .exact absurd gj ((hx b m e).2.2.2 j m')
  .rcases Rs g with⟨_,e,_⟩|⟨_,gj⟩
   .exact absurd gi ((hx b m' e).2.2.2 i m)
   .exact h.mdj i j b m m' gi gj
theorem Xq.adopt(h:Xq F Fr w S s by' mo)(hc:Xc Xe w w')(hb:w.heap.size<=b)(hb':b<w'.heap.size):Xq (λz=>F z\/z=b) Fr w' S s by' mo:=by
 have g:=h.bQ hc;obtain⟨f,i,j,l,n,o⟩:=h.nF;have d:∀z,(F z\/z=b)->F z\/w.heap.size<=z:=λz a=>a.elim .inl (λe=>.inr (by omega));have c:=h.cW;have hm:=Ye c.may;have p:=Xg h.ar.obj;have q:=Xg h.ar.cap;have r:=Xg h.vw.obj;have t:=Xg c.obj;have u:S.R.sb<w.heap.size:=by have:=World.block_lt_of_cell? w _ (c.sl 0 (by have:=hm.n;have:=c.ok.n;omega));exact this
 have v:1<w.heap.size:=by have:=World.block_lt_of_cell? w _ (c.tab 0 (by decide));exact this
 exact {g with
  th:=((h.th.wide d).bW hc (λ_ h=>h.elim) id),
  mob:=λk b' m hm=>by obtain⟨x,y,z⟩:=g.mob k b' m hm;exact⟨x,.inl y,z⟩,
  f1:=λz a=>.inl (h.f1 z a),f2:=⟨.inl h.f2.1,.inl h.f2.2.1,.inl h.f2.2.2.1,.inl h.f2.2.2.2.1,.inl h.f2.2.2.2.2⟩,
  nF:=⟨λa=>a.elim f (by omega),λa=>a.elim i (by omega),λa=>a.elim j (by omega),λa=>a.elim l (by omega),λa=>a.elim n (by omega),λa=>a.elim o (by omega)⟩,
  ca:=(h.ca.bQ d).bR hc (λ_ h=>h.elim),ka:=(h.ka.bQ d).bR hc (λ_ h=>h.elim),low:=λz a=>a.elim (g.low z) (by omega)}
theorem Xq.arena(h:Xq F Fr w S s by' mo){t:Int}{mo2:Mo}(hc:Xc T w w')(hT:∀z,T z->z=S.A.db\/z=S.mb\/∃(k:Nat),∃m,mo[k]?=some (some (z,m)))(hd:w'.heap[S.A.db]?=some (.cells (bs.map (Value.int .u8)).toArray 5 (0,0)))(hl:bs.length=s.bs.length)(hb:Qi bs)(hm:Bf w' S.mb t S.R.dA)(hfl:fl Ep mo2=fl Ep mo)(hml:mo2.length=mo.length)(hmo:∀(k b:Nat) m,mo2[k]?=some (some (b,m))->w'.heap[b]?=some (.cells (Oy S.A (Fp b m) m.cE).toArray 288 (0,0))/\∃m0,mo[k]?=some (some (b,m0))):Xq F Fr w' S {s with bs:=bs,rm:={s.rm with tot:=t},mv:=Ht mo2} by' mo2:=by
 obtain⟨r,u,o,v,y,A⟩:=h.kds;obtain⟨B,C,D,M,N,O⟩:=h.nF;have c:∀z,T z->F z:=λz a=>by
  rcases hT z a with e|e|⟨k,m,e⟩
  .exact e▸h.f2.2.2.1
  .exact e▸h.mb.1
  .exact(h.mob k z m e).2.1
 have kT:∀{z:Nat} {x:Option Nat},kd w z=some x->x≠some 5->x≠some 240->x≠some 288 -> ¬T z:=λd E G H a=>by
  rcases hT _ a with e|e|⟨k,m,e⟩
  .subst e;rw[o] at d;exact E (Option.some.inj d).symm
  .subst e;rw[A] at d;exact G (Option.some.inj d).symm
  .have:=h.kdm e;rw[this] at d;exact H (Option.some.inj d).symm
 have p:=h.cW.charge2 h.rmo hm hc λz a=>by
  rcases hT z a with e|e|⟨k,m,e⟩
  .exact .inr (e▸h.ext' h.f2.2.2.1 h.nr.2.2.1 o (by decide))
  .exact .inl e
  .obtain⟨_,n,f⟩:=h.mob k z m e;exact .inr (h.ext' n f (h.kdm e) (by decide))
 have g:(Ht mo2).length=s.mv.length:=by unfold Ht;rw[XV,hml,h.mol]
 refine {h with
  obj:=by show w'.heap[S.sb]?=some (.cells (Pr S s.bV.length (Ht mo2).length by').toArray _ _);rw[g];exact hc.heap h.obj (kT r (by decide) (by decide) (by decide)),
  kee:=hc.heap h.kee (kT u (by decide) (by decide) (by decide)),cW:=p,ar:=?_,vw:=?_,th:=h.th.bW hc c (kT v (by simp) (by simp) (by simp)),
  mvs:=by rw[hfl];exact hc.heap h.mvs (kT y (by decide) (by decide) (by decide)),mvc:=by show(Ht mo2).length<=_;rw[g];exact h.mvc,mom:=rfl,
  mob:=λk b m q=>by obtain⟨n,m0,f⟩:=hmo k b m q;exact⟨n,(h.mob k b m0 f).2⟩,
  mdj:=λi j b m m' I J=>by obtain⟨_,m0,f⟩:=hmo i b m I;obtain⟨_,K,L⟩:=hmo j b m' J;exact h.mdj i j b m0 K f L,
  ca:=h.ca.bR hc c,ka:=h.ka.bR hc c,low:=λz a=>by have:=h.low z a;have:=hc.size;omega}
 .refine⟨?_,hd,hc.heap h.ar.cap (λa=>C (c _ a)),λb l=>?_,by show bs.length<=_;rw[hl];exact h.ar.len,hb⟩
  .have:=hc.heap h.ar.obj (λa=>B (c _ a));show w'.heap[S.A.ab]?=some (.cells #[.slice (some ⟨S.A.db,0,none⟩) bs.length bs.length,Xhs S.A] _ _)
   rw[hl];exact this
  .rw[h.amb] at l;cases l;exact hm
 .refine⟨hc.heap h.vw.obj (λa=>D (c _ a)),?_,h.vw.may⟩;have:=h.vw.cO;rw[h.vc,h.vp] at this⊢;exact⟨(h.ca.bR hc c).1,(h.ka.bR hc c).1,this.lc,this.lk,this.size⟩
theorem Xq.arena'(h:Xq F Fr w S s by' mo){n:Int}(hc:Xc (Zy S.A) w w')(ha:X8 w' S.A ⟨bs,Xw s.rm.tot n,S.R.dA⟩)(hl:bs.length=s.bs.length):Xq F Fr w' S (Ql {s with bs:=bs} n) by' mo:=by
 have:=h.arena (bs:=bs) (t:=Xw s.rm.tot n) (mo2:=mo) hc (λz a=>a.elim .inl (λe=>.inr (.inl (by rw[h.amb] at e;exact(Option.some.inj e).symm)))) ha.dat hl ha.rng (ha.met _ h.amb) rfl rfl (λk b m hm=>⟨?_,m,hm⟩)
 .rw[h.mom] at this;exact this
 .have kk:=h.kdm hm;obtain⟨_,_,c,_,_,d⟩:=h.kds;refine hc.heap (h.mob k b m hm).1 ?_;rintro(e|e)
  .exact Xs kk c (by decide) e
  .rw[h.amb] at e;cases e;exact Xs kk d (by decide) rfl
theorem Xq.roomed{Fr':Nat->Prop}(h:Xq F Fr w S s by' mo)(hr:Zn Fr' w' S.R M)(hf:∀z,Fr' z->Fr z\/w.heap.size<=z)(hc:Xc Fr w w'):Xq (λz=>F z\/Fr' z) Fr' w' S {s with rm:=M} by' mo:=by
 obtain⟨l,n,o,A,B,C⟩:=h.nF;obtain⟨D,E,G,H,I⟩:=h.lt;obtain⟨p,q,r,t,u⟩:=h.nr;have f:∀z,(F z\/Fr' z)->F z\/w.heap.size<=z:=λz a=>a.elim .inl (λe=>(hf z e).imp (h.f1 z) id);have c:∀{z:Nat},¬Fr z->z<w.heap.size -> ¬Fr' z:=λj J a=>(hf _ a).elim j (by omega);have nf:∀{z:Nat},¬F z->z<w.heap.size -> ¬(F z\/Fr' z):=λj J a=>(f _ a).elim j (by omega);have d:=h.cW;have hm:=Ye d.may;have K:S.R.sb<w.heap.size:=by have:=World.block_lt_of_cell? w _ (d.sl 0 (by have:=hm.n;have:=d.ok.n;omega));exact this
 have L:1<w.heap.size:=by have:=World.block_lt_of_cell? w _ (d.tab 0 (by decide));exact this
 have g:=(h.ca.bQ f).bR hc (λz a=>.inl (h.f1 z a));have i:=(h.ka.bQ f).bR hc (λz a=>.inl (h.f1 z a));exact {h with
  obj:=hc.heap h.obj p,kee:=hc.heap h.kee q,cW:=hr,
  ar:=⟨hc.heap h.ar.obj (λa=>l (h.f1 _ a)),hc.heap h.ar.dat r,hc.heap h.ar.cap (λa=>n (h.f1 _ a)),λb v=>by rw[h.amb] at v;cases v;exact(hr.met _ h.rmo).2,h.ar.len,h.ar.rng⟩,
  vw:=⟨hc.heap h.vw.obj (λa=>o (h.f1 _ a)),by
   have:=h.vw.cO;rw[h.vc,h.vp] at this⊢;exact⟨g.1,i.1,this.lc,this.lk,this.size⟩,h.vw.may⟩,
  th:=(h.th.wide f).bW hc (λz a=>.inl (h.f1 z a)) t,mvs:=hc.heap h.mvs u,
  mob:=λk b m hm=>by obtain⟨x,y,z⟩:=h.mob k b m hm;exact⟨hc.heap x z,.inl y,c z (h.low b y)⟩,
  f1:=λz a=>.inr a,f2:=⟨.inl h.f2.1,.inl h.f2.2.1,.inl h.f2.2.2.1,.inl h.f2.2.2.2.1,.inl h.f2.2.2.2.2⟩,
  nr:=⟨c p D,c q E,c r G,c t H,c u I⟩,
  nF:=⟨nf l (Xg h.ar.obj),nf n (Xg h.ar.cap),nf o (Xg h.vw.obj),nf A (Xg d.obj),nf B K,nf C L⟩,ca:=g,ka:=i,
  low:=λz a=>a.elim (λa=>by have:=h.low z a;have:=hc.size;omega) (hr.low z)}
end
def Ek(F:Nat->Prop)(w w':dD)(S:Sto)(s:StM)(by':Int):Prop:=∃F' Fr' mo',Xq F' Fr' w' S s by' mo'/\(∀z,F' z->F z\/w.heap.size<=z)/\Xc F w w'
section
variable {F Fr:Nat->Prop}{w w' w'':dD}{S:Sto}{s:StM}{by':Int}{mo:Mo}
theorem Ek.of(h:Xq F Fr w' S s by' mo)(hc:Xc F w w'):Ek F w w' S s by':=⟨F,Fr,mo,h,λ_ h=>.inl h,hc⟩
theorem Ek.trans{F1:Nat->Prop}(hF:∀z,F1 z->F z\/w.heap.size<=z)(hc:Xc F w w')(h:Ek F1 w' w'' S s by'):Ek F w w'' S s by':=by
 obtain⟨i,d,f,a,b,c⟩:=h;refine⟨i,d,f,a,λz g=>?_,hc.bU c λz g j=>?_⟩
 .rcases b z g with h|h
  .exact hF z h
  .have:=hc.size;exact .inr (by omega)
 .rcases hF z j with h|h
  .exact h
  .omega
end
theorem XnN(c:Conf)(q:Plc)(bs:List Int)(at' m k:Nat):Yg c q bs at' (m+k)=Yg c q bs at' m++Yg c q bs (at'+m) k:=by
 unfold Yg;rw[List.range_add,XL,List.map_map]
 congr 1
 apply ZW
 intro i _;simp only[Function.comp];rw[YR]
theorem Xcp{x:Nat}(h:x+m<=bs.length):sub bs x m=(List.range m).map λi=>bs.getD (x+i) 0:=by
 apply List.ext_getElem
 .rw[Hf h];simp
 .intro i a b;rw[Hf h] at a;simp only[YU,List.getElem_range];have e:(sub bs x m)[i]?=some (bs.getD (x+i) 0):=by
   unfold sub;rw[YV,bK a,List.getElem?_drop,XD (show x+i<bs.length by omega),XA,XD (show x+i<bs.length by omega)];rfl
  exact Option.some.inj ((XD _).symm.trans e)
theorem XcS(hcl:q.cL=-1)(hsz:c.size=sz)(hi:at'%sz+i<sz):B5 c q (at'+i)=q.bS.getD (at'/sz) 0*c.size+((at'%sz:Nat):Int)+i:=by
 unfold B5;rw[bK hcl,show c.size.toNat=sz from by omega];have a:(at'+i)/sz=at'/sz:=by
  have d:=QA at' sz;apply Nat.div_eq_of_lt_le
  .rw[QC];omega
  .rw[Nat.add_mul,Nat.one_mul,QC];omega
 have hm:(at'+i)%sz=at'%sz+i:=by
  have f:=QA at' sz;have b:=QA (at'+i) sz;rw[a] at b;omega
 rw[a,hm];omega
theorem Xlf(hcl:q.cL=-1)(hsz:c.size=sz)(hp:1<=sz):∀(n at':Nat),(∀i,i<n->0<=B5 c q (at'+i)/\B5 c q (at'+i)<bs.length) ->
 Ea bs ((Z0 at' n sz).map λs=>(q.bS.getD s.1 0*c.size+s.2.1,(s.2.2:Int)))=Yg c q bs at' n:=by
 intro n
 induction n using QQ with
 |_ n ih=>
  intro at' b;by_cases o:n=0
  .subst o;rfl
  .have d:=Kk (at':=at') hp (show 0<n by omega);have p:=QJ at' (show 0<sz by omega);rw[Ls hp (by omega),ZK];obtain⟨m,hm⟩:∃m,m=min n (sz-at'%sz):=⟨_,rfl⟩;have h:Dr at' n sz=(at'/sz,at'%sz,m):=by unfold Dr;rw[hm]
   rw[h,<-hm];rw[<-hm] at d;have j:=b 0 (by omega);have a:=b (m-1) (by omega);rw[XcS hcl hsz (by omega)] at j a;obtain⟨x,f⟩:=XE (show 0<=q.bS.getD (at'/sz) 0*c.size+((at'%sz:Nat):Int) by omega);rw[f] at a;have g:sub bs x m=Yg c q bs at' m:=by
    rw[Xcp (by omega)];unfold Yg;apply ZW
    intro i k;rw[List.mem_range] at k;rw[XcS hcl hsz (by omega),f]
    congr 1
   have l:n=m+(n-m):=by omega
   conv=>rhs;rw[l]
   rw[XnN,<-g,<-(ih (n-m) (by omega) (at'+m) (λi k=>by rw[YR];exact b (m+i) (by omega)))];unfold Ea;rw[ZY];simp only
   rw[f];rfl
theorem Xlg(hm:Zb c=true)(hck:Qt c q at' n=0)(hlen:(bs.length:Int)=c.size*c.bS):Ea bs (Zw c q at' n)=Yg c q bs at' n:=by
 obtain⟨o,p,r⟩:=D9 hm;obtain⟨f,_,_,m⟩:=Tp hck;have d:∀i,i<n->0<=B5 c q (at'+i)/\B5 c q (at'+i)<bs.length:=λi s=>by
  have:=XcR (i:=at'+i) hm f (by omega);omega
 unfold Zw;by_cases a:q.cL=-1
 .rw[bK a];obtain⟨sz,g⟩:=XE (show 0<=c.size by omega);rw[show c.size.toNat=sz from by omega];exact Xlf a g (by omega) n at' d
 .rw[bJ a];unfold Ea;simp only[ZY,List.flatMap_nil,QP,XB];by_cases j:n=0
  .subst j;simp[sub,Yg]
  .have k:=d 0 (by omega);have l:=d (n-1) (by omega);have b:∀i,B5 c q (at'+i)=Ai c q+at'+i:=λi=>by unfold B5;rw[bJ a];omega
   rw[b] at k l;obtain⟨x,h⟩:=XE (show 0<=Ai c q+(at':Int) by omega);rw[h,XB,Xcp (by omega)];unfold Yg;apply ZW
   intro i _;rw[b,h]
   congr 1
theorem Xnh(hp:1<=sz):∀(n at' k:Nat) (h:k<(Z0 at' n sz).length),(Z0 at' n sz)[k].1*sz+(Z0 at' n sz)[k].2.1=at'+(((Z0 at' n sz).take k).map λs=>s.2.2).sum:=by
 intro n
 induction n using QQ with
 |_ n ih=>
  intro at' k h;by_cases b:n=0
  .subst b;simp[Vn] at h
  .have c:=Kk (at':=at') hp (show 0<n by omega);have f:=QA at' sz;have a:=Ls (at':=at') hp (show 0<n by omega);cases k with
   |zero=>
    simp only[a,List.getElem_cons_zero,List.take_zero,List.map_nil,List.sum_nil];unfold Dr;simp only
    rw[QC];omega
   |succ k=>
    have d:k<(Z0 (at'+min n (sz-at'%sz)) (n-min n (sz-at'%sz)) sz).length:=by rw[a] at h;simpa using h
    have:=ih _ (by omega) _ k d;simp only[a,List.getElem_cons_succ,List.take_succ_cons,ZK,QF];rw[this];unfold Dr;simp only
    omega
theorem XkT(hm:Zb c=true)(hk:k<(Zw c q at' n).length)(hp:(Zw c q at' n)[k]=((i:Int),(m:Int))):∀j,j<m->B5 c q (at'+(Zo ((Zw c q at' n).take k)+j))=(i:Int)+j:=by
 obtain⟨z,B,C⟩:=D9 hm;intro j D;by_cases b:q.cL=-1
 .obtain⟨sz,l⟩:=XE (show 0<=c.size by omega);have a:Zw c q at' n=(Z0 at' n sz).map λs=>(q.bS.getD s.1 0*c.size+s.2.1,(s.2.2:Int)):=by unfold Zw;rw[bK b,show c.size.toNat=sz from by omega]
  have h:k<(Z0 at' n sz).length:=by rw[a,XV] at hk;exact hk
  have f:=Xnh (sz:=sz) (by omega) n at' k h;obtain⟨o,p,r,y⟩:=Xcg (cR:=sz) (by omega) n at' _ (XM h);have t:Zo ((Zw c q at' n).take k)=(((Z0 at' n sz).take k).map λs=>s.2.2).sum:=by
   unfold Zo;rw[a,<-QZ,List.map_map];rfl
  have u:(q.bS.getD (Z0 at' n sz)[k].1 0*c.size+((Z0 at' n sz)[k].2.1:Int),((Z0 at' n sz)[k].2.2:Int))=((i:Int),(m:Int)):=by
   rw[<-hp];simp only[a,YU]
  obtain⟨e1,e2⟩:=Prod.mk.inj u;rw[t,<-YR,<-f];obtain⟨s,v⟩:∃s,s=(Z0 at' n sz)[k]:=⟨_,rfl⟩;rw[<-v] at e1 e2 o p r⊢
  clear v f y
  obtain⟨N,A,L⟩:=s;simp only at e1 e2 o p r⊢
  have d:(N*sz+A)%sz=A:=by rw[QC,Nat.mul_add_mod];exact Nat.mod_eq_of_lt (by omega)
  have g:(N*sz+A)/sz=N:=by rw[QC,Nat.mul_add_div (by omega),Nat.div_eq_of_lt (by omega)];rfl
  rw[XcS b l (by rw[d];omega),d,g];omega
 .have a:Zw c q at' n=[(Ai c q+at',(n:Int))]:=by unfold Zw;rw[bJ b]
  have w:k=0:=by rw[a] at hk;simpa using hk
  subst w;have x:(Ai c q+(at':Int),(n:Int))=((i:Int),(m:Int)):=by rw[<-hp];simp only[a];rfl
  obtain⟨e1,e2⟩:=Prod.mk.inj x;unfold B5;rw[bJ b];simp only[List.take_zero,Zo,List.map_nil,List.sum_nil];omega
theorem XeK{c:Conf}{q:Plc}{bs l:List Int}{at' off i m:Nat}(him:i+m<=bs.length)(hol:off+m<=l.length)(hw:∀j,j<m->B5 c q (at'+(off+j))=(i:Int)+j):∀j,j<=m->Q9 c q bs at' l (off+j)=Et (Q9 c q bs at' l off) i (sub l off m) j
 |0,_=>by rw[Xbt];rfl
 |j+1,h=>by
  have a:(sub l off m).length=m:=Hf hol;have ih:=XeK him hol hw j (by omega);have b:(sub l off m).getD j 0=l.getD (off+j) 0:=by
   rw[Xcp hol,XA,XN,List.getElem?_range (by omega)];rfl
  rw[<-Xbs (by rw[a,Ko];exact him) (by rw[a];omega),b,<-ih];show(Q9 c q bs at' l (off+j)).set (B5 c q (at'+(off+j))).toNat (l.getD (off+j) 0)=_
  rw[hw j (by omega)];rfl
theorem Xhz{c:Conf}{q:Plc}{A:Ar}{V:ArV}{at':Nat}{l:List Int}(hm:Zb c=true)(hck:Qt c q at' l.length=0)(hfew:q.bS.length<=4096)(hlen:(V.bs.length:Int)=c.size*c.bS):∀k,k<=(Zw c q at' l.length).length->(B4 q A V (Zw c q at' l.length) l k).bs=Q9 c q V.bs at' l (Zo ((Zw c q at' l.length).take k))
 |0,_=>rfl
 |k+1,h=>by
  have a:k<(Zw c q at' l.length).length:=h;obtain⟨i,m,b,o⟩:=Rz hm hck hfew _ (XM a);have ih:=Xhz (A:=A) hm hck hfew hlen k (by omega);have n:Zo (Zw c q at' l.length)=l.length:=O4 hm;have d:=Sq a;rw[b] at d;simp only[XB] at d;have g:Zo ((Zw c q at' l.length).take (k+1))=Zo ((Zw c q at' l.length).take k)+m:=by
   rw[ZH,XD a,b,Vy];simp[Zo]
  have j:i+m<=V.bs.length:=by omega
  have f:Zo ((Zw c q at' l.length).take k)+m<=l.length:=by omega
  rw[St a b,g,XeK j f (XkT hm a b) m (XF _)];show Q4 _ i (sub l _ m)=_
  rw[ih];have:=Xfs (bs:=Q9 c q V.bs at' l (Zo ((Zw c q at' l.length).take k))) (l:=sub l (Zo ((Zw c q at' l.length).take k)) m) (i:=i);rw[Hf f] at this;exact this.symm
theorem XhA(hm:Zb c=true)(hck:Qt c q at' l.length=0)(hfew:q.bS.length<=4096)(hlen:(V.bs.length:Int)=c.size*c.bS):(B4 q A V (Zw c q at' l.length) l (Zw c q at' l.length).length).bs=Q9 c q V.bs at' l l.length:=by
 rw[Xhz hm hck hfew hlen _ (XF _),ZL,O4 hm]
theorem Cv{t m:Int}(h:0<=t/\0<=m/\t+m<=4611686018427387904):Xw t m=t+m:=by unfold Xw;split <;> omega
def Fk(q:Plc)(k:Nat):Int:=if q.cL=-1 then (k:Int) else 0
theorem Xbv(hm:Zb c=true):((Zo (Zw c q at' n):Nat):Int)+Fk q (Zw c q at' n).length=Zi c q at' n:=by
 rw[O4 hm];unfold Fk Zi Zw;by_cases a:q.cL=-1
 .rw[bK a,bK a,bK a,XV]
 .rw[bJ a,bJ a]
theorem To{t a b:Int}(h:0<=t/\t<=4611686018427387904)(ha:0<=a)(hb:0<=b):Xw (Xw t a) b=Xw t (a+b):=by
 unfold Xw;split <;> split <;> split <;> omega
theorem N8(t:Int):Xw t 0=t:=by unfold Xw;rw[bK (by omega)]
theorem P4{n:Int}(hb:A.mb=some b):(V.cT A n).total=Xw V.total n:=by unfold ArV.cT;rw[hb]
theorem XdK(hb:A.mb=some b):(B7 q A V).total=Xw V.total (Fk q 1):=by
 unfold B7 Fk;split
 .exact P4 hb
 .rw[N8]
theorem XdL:(B7 q A V).dA=V.dA:=by unfold B7;split;exact V.charge_lap A _;rfl
theorem Xds(q:Plc)(k:Nat):Fk q (k+1)=Fk q k+Fk q 1/\0<=Fk q k/\0<=Fk q 1:=by unfold Fk;split <;> omega
theorem Xhm{ps:List (Int×Int)}(hk:k<ps.length)(hp:ps[k]=((i:Int),(m:Int))):Zo (ps.take (k+1))=Zo (ps.take k)+m:=by
 rw[ZH,XD hk,hp,Vy];simp[Zo]
theorem Xhv{q:Plc}{A:Ar}{V:ArV}{ps:List (Int×Int)}{b:Nat}(hb:A.mb=some b)(hps:∀p∈ps,∃i m:Nat,p=((i:Int),(m:Int)))(hV:0<=V.total/\V.total<=4611686018427387904):∀k,k<=ps.length->(Iu q A V ps k).total=Xw V.total (Zo (ps.take k)+Fk q k)/\(Iu q A V ps k).dA=V.dA
 |0,_=>by
  have e:((Zo (ps.take 0):Nat):Int)+Fk q 0=0:=by unfold Fk;simp[Zo]
  rw[e,N8];exact⟨rfl,rfl⟩
 |k+1,h=>by
  have a:k<ps.length:=h;obtain⟨i,m,c⟩:=hps _ (XM a);obtain⟨d,f⟩:=Xhv (q:=q) hb hps hV k (by omega);obtain⟨g,l,j⟩:=Xds q k;rw[Xhw a,c];simp only
  rw[ArV.charge_lap,XdL,P4 hb,XdK hb,d,To hV (by omega) j,To hV (by omega) (by omega),Xhm a c,g];exact⟨by congr 1;omega,f⟩
theorem XcP{q:Plc}{A:Ar}{V:ArV}{ps:List (Int×Int)}{l:List Int}{b:Nat}(hb:A.mb=some b)(hps:∀p∈ps,∃i m:Nat,p=((i:Int),(m:Int)))(hV:0<=V.total/\V.total<=4611686018427387904):∀k,k<=ps.length->(B4 q A V ps l k).total=Xw V.total (Zo (ps.take k)+Fk q k)/\(B4 q A V ps l k).dA=V.dA
 |0,_=>by
  have e:((Zo (ps.take 0):Nat):Int)+Fk q 0=0:=by unfold Fk;simp[Zo]
  rw[e,N8];exact⟨rfl,rfl⟩
 |k+1,h=>by
  have a:k<ps.length:=h;obtain⟨i,m,c⟩:=hps _ (XM a);obtain⟨d,f⟩:=XcP (q:=q) (l:=l) hb hps hV k (by omega);obtain⟨g,n,j⟩:=Xds q k;rw[St a c];show((B7 q A (B4 q A V ps l k)).cT A m).total=_/\((B7 q A (B4 q A V ps l k)).cT A m).dA=_
  rw[ArV.charge_lap,XdL,P4 hb,XdK hb,d,To hV (by omega) j,To hV (by omega) (by omega),Xhm a c,g];exact⟨by congr 1;omega,f⟩
theorem ArV.eq{t l:Int}(h1:V.bs=bs)(h2:V.total=t)(h3:V.dA=l):V=⟨bs,t,l⟩:=by cases V;cases h1;cases h2;cases h3;rfl
theorem Kh{c:Conf}{i n:Int}(hv:Yk c q=true)(hi:0<=i)(hn:0<=n)(h:i+n<=Z5 c q):Qt c q i n=0:=by
 unfold Qt;rw[bJ (by rw[hv];decide),bJ (by omega)]
section
variable {F Fr:Nat->Prop}{w w':dD}{S:Sto}{s:StM}{by':Int}{mo:Mo}{pd:Option (Nat×PlcM)}
theorem Xq.footF(h:Xq F Fr w S s by' mo):∀z,Zy S.A z->F z:=λz a=>by
 rcases a with e|e
 .exact e▸h.f2.2.2.1
 .rw[h.amb] at e;cases e;exact h.mb.1
theorem Xq.tot(h:Xq F Fr w S s by' mo):0<=s.rm.tot/\s.rm.tot<=4611686018427387904:=h.cW.ok.tot
theorem Xq.vwf(h:Xq F Fr w S s by' mo):¬Zy S.A S.v.vb/\(0<S.v.c.bT.length->Xj (Zy S.A) S.v.p.ca)/\(0<S.v.c.bV.length->Xj (Zy S.A) S.v.p.ka):=by
 refine⟨λb=>h.nF.2.2.1 (h.footF _ b),λa=>?_,λa=>?_⟩
 .rw[h.vc] at a;rw[h.vp];exact(h.ca.2 a).mono h.footF
 .rw[h.vc] at a;rw[h.vp];exact(h.ka.2 a).mono h.footF
theorem Xbw{c:Conf}(hm:Zb c=true)(hck:Qt c q i n=0)(hfew:q.bS.length<=4096):∀p∈Zw c q i n,∃a b:Nat,p=((a:Int),(b:Int)):=λp d=>by
 obtain⟨a,b,e,_⟩:=Rz hm hck hfew p d;exact⟨a,b,e⟩
theorem XgV(h:Xq F Fr w S s by' mo)(hm:Zb S.c=true)(hbl:(s.bs.length:Int)=S.c.size*S.c.bS)(q:Plc)(i:Nat)(a:Option Addr)(cap:Nat)(l:List Int)(hq:Zp w q)(hF:Xj F q.pa)(hck:Qt S.c q i l.length=0)(hfew:q.bS.length<=4096)(hr:Rd .u8 w a l)(hlc:l.length<=cap)(hin:Qi l)(hout:0<l.length->Xj F a):Xf prog 109 #[Fz S.v,.agg (Xv q).toArray,.int .i64 i,.slice a l.length cap] w (λu w'=>u=.int .i64 0/\Xq F Fr w' S (Yp S.c s (Xx q) i l) by' mo/\Xc F w w'):=by
 obtain⟨f,g,j⟩:=h.vwf;have ec:=h.vc;refine(Xn1 S.v q i a cap l S.A (Fi S s) w h.vw hq (h.vmb.trans h.amb.symm) h.vab (by rw[ec];exact hck) hfew f (λ_=>hF.mono h.footF) g j h.ar (by rw[ec];exact hbl) hr hlc hin (λk=>(hout k).mono h.footF)).mono λu w' ⟨e,b,c⟩=>⟨e,?_,c.mono λz _ m=>h.footF z m⟩;rw[ec] at b;obtain⟨d,o⟩:=XcP (q:=q) (V:=Fi S s) (l:=l) h.amb (Xbw hm hck hfew) h.tot _ (XF _);rw[ZL,Xbv hm] at d;rw[(ArV.eq (XhA (A:=S.A) (V:=Fi S s) hm hck hfew hbl) d o),Mr,Ju] at b;exact h.arena' (bs:=Q9 S.c (Xx q).cQ s.bs i l l.length) (n:=Zi S.c (Xx q).cQ i l.length) c b (Ko _ _ _ _ _ _)
theorem Gt(n:Nat):(X6 n).length=n:=by unfold X6;rw[XI]
theorem XgW(h:Xq F Fr w S s by' mo)(hm:Zb S.c=true)(hbl:(s.bs.length:Int)=S.c.size*S.c.bS)(q:Plc)(i n:Nat)(hq:Zp w q)(hF:Xj F q.pa)(hck:Qt S.c q i n=0)(hfew:q.bS.length<=4096):Xf prog 112 #[Fz S.v,.agg (Xv q).toArray,.int .i64 i,.int .i64 n] w (λu w'=>u=.int .i64 0/\Xq F Fr w' S (Yp S.c s (Xx q) i (X6 n)) by' mo/\Xc F w w'):=by
 obtain⟨g,j,k⟩:=h.vwf;have ec:=h.vc;have a:=Gt n;refine(Xn3 S.v q i n S.A (Fi S s) w h.vw hq (h.vmb.trans h.amb.symm) h.vab (by rw[ec];exact hck) hfew g (λ_=>hF.mono h.footF) j k h.ar (by rw[ec];exact hbl)).mono λu w' ⟨e,b,c⟩=>⟨e,?_,c.mono λz _ a=>h.footF z a⟩;rw[ec] at b;obtain⟨d,m⟩:=XcP (q:=q) (V:=Fi S s) (l:=X6 n) h.amb (Xbw hm hck hfew) h.tot _ (XF _);rw[ZL,Xbv hm] at d;have f:=XhA (A:=S.A) (V:=Fi S s) (l:=X6 n) (q:=q) (at':=i) hm (by rw[a];exact hck) hfew hbl;rw[a] at f;rw[(ArV.eq f d m),Mr,Ju] at b;have:=h.arena' (bs:=Q9 S.c (Xx q).cQ s.bs i (X6 n) n) (n:=Zi S.c (Xx q).cQ i n) c b (Ko _ _ _ _ _ _);unfold Yp;rw[a];exact this
theorem XgU(h:Xq F Fr w S s by' mo)(hm:Zb S.c=true)(hbl:(s.bs.length:Int)=S.c.size*S.c.bS)(q:Plc)(i n:Nat)(hq:Zp w q)(hF:Xj F q.pa)(hck:Qt S.c q i n=0)(hfew:q.bS.length<=4096):Xf prog 107 #[Fz S.v,.agg (Xv q).toArray,.int .i64 i,.int .i64 n] w (λu w'=>∃u1,u=.tuple #[u1,.int .i64 0]/\Xq F Fr w' S (Ql s (Zi S.c (Xx q).cQ i n)) by' mo/\Xc (Zy S.A) w w'/\
  Xl w.heap.size 5 1 w' u1 n ((Yg S.c (Xx q).cQ s.bs i n).map (Value.int .u8))):=by
 obtain⟨j,k,l⟩:=h.vwf;have ec:=h.vc;have mF:∀z,Yv S.A z->Zy S.A z:=λz a=>.inr a;refine(XnZ S.v q i n S.A (Fi S s) w h.vw hq (h.vmb.trans h.amb.symm) h.vab (by rw[ec];exact hck) hfew (λa=>j (mF _ a)) (λ_=>(hF.mono h.footF).mono mF) (λb=>(k b).mono mF) (λb=>(l b).mono mF) h.ar (by rw[ec];exact hbl)).mono λu w' ⟨u1,e,c,f,d⟩=>⟨u1,e,?_,f.mono λz _ a=>mF z a,?_⟩
 .rw[ec] at c;obtain⟨g,m⟩:=Xhv (q:=q) (V:=Fi S s) h.amb (Xbw hm hck hfew) h.tot _ (XF _);rw[ZL,Xbv hm] at g;rw[(ArV.eq (XcO q S.A (Fi S s) (Zw S.c q i n) _) g m),Ju] at c;exact h.arena' (bs:=s.bs) (n:=Zi S.c (Xx q).cQ i n) (f.mono λz _ a=>mF z a) c rfl
 .rw[ec,Xlg hm hck hbl] at d;have e:(Yg S.c q s.bs i n).length=n:=by unfold Yg;rw[XV,ZM]
  rw[e,XcF] at d;exact d
end
theorem Xkb{n q:Int}(hn:1<=n)(hq:1<=q):n<=Qp n q*q:=by
 have a:=Int.emod_add_mul_ediv (n-1) q;have:=Int.emod_lt_of_pos (n-1) (show 0<q by omega);have e:Qp n q=(n-1)/q+1:=by unfold Qp;rw[bJ (by omega)]
 rw[e,QL,QM,YQ ((n-1)/q) q];omega
section
variable {c:Conf}{s:StM}{pd:Option (Nat×PlcM)}
theorem Xa4:∀{l:List (Nat×List Nat)} {e:Nat×List Nat},e∈l->e.2.length+1<=Eo l
 |a::l,e,h=>by
  have b:Eo (a::l)=(a.2.length+1)+Eo l:=by unfold Eo;simp
  rcases ZB.1 h with rfl|h
  .omega
  .have:=Xa4 h;omega
theorem XjV(h:s.OkP c pd){r:List Nat}(hm:(n,r)∈s.rm.lg):(∀m∈r,(m:Int)<c.bS)/\r.length<=1024:=by
 have g:=h.rm.ok.own;have a:=h.rm.cU.cV;refine⟨λm b=>?_,?_⟩
 .have:=(h.rm.ok.lg m (I7 hm (YC _ b))).1;omega
 .have d:=Xa4 hm;have f:=h.rm.ok.sum;have i:=a.many;have j:=a.len;unfold Zf at f;simp only at d
  omega
theorem XjI(h:s.OkP c pd){r:List Nat}(hm:(n,r)∈s.rm.lg)(hs:1<=size)(hr:(r.length+1:Int)=Z9 size c.size):Yk c (PlcM.mk (-1) (n:Nat) 0 (X4 r)).cQ=true/\size<=Z5 c (PlcM.mk (-1) (n:Nat) 0 (X4 r)).cQ/\(X4 r).length<=4096:=by
 obtain⟨g,l⟩:=XjV h hm;have i:1<=c.size:=by have:=(D9 h.may).1;omega
 have a:=Xkb hs i;have k:1<=Qp size c.size:=by
  have o:0<=(size-1)/c.size:=YM (by omega) (by omega);unfold Qp;rw[bJ (by omega)];omega
 have e:(r.length:Int)=Qp size c.size:=by
  unfold Z9 at hr;split at hr <;> omega
 have j:=Er r;have b:Yk c (PlcM.mk (-1) (n:Nat) 0 (X4 r)).cQ=true:=by
  unfold Yk PlcM.cQ;show(if (-1:Int)=-1 then (decide (0<(X4 r).length) && !(X4 r).any λn=>!Bt n c.bS) else _)=true
  rw[bK rfl,XK];refine⟨bN (by omega),?_⟩;rw[Bool.not_eq_true',QE];intro x d;unfold X4 at d;obtain⟨m,f,rfl⟩:=XP.1 d;have:=g m f;rw[Mm.2 (by omega)]
  decide
 refine⟨b,?_,by omega⟩;unfold Z5;rw[bK b];show size<=if (-1:Int)=-1 then ((X4 r).length:Int)*c.size else _
 rw[bK rfl,j,e];exact a
theorem Xne(h:s.OkP c pd){k n a:Int}(ho:Zd s.rm k n a≠-1):Yk c (PlcM.mk k n a []).cQ=true/\Z5 c (PlcM.mk k n a []).cQ=Ya c k:=by
 obtain⟨b,d,_⟩:=O2 h ho;refine⟨b,?_⟩;unfold Z5;rw[bK (show Yk c (PlcM.mk k n a []).cQ=true from b)];show(if k=-1 then _ else Ya c k)=_
 rw[bJ (by omega)]
theorem XkV(hp:Xm c.bT size=(k:Nat)):size<=Ya c k:=by
 unfold Ya;rw[XB];exact Xfw hp
theorem Jc(h:s.OkP c pd){t:ThM}(ht:s.th[o]?=some (some t)):Yk c t.q.cQ=true/\t.size<=Z5 c t.q.cQ/\t.q.bS.length<=4096:=by
 by_cases d:Xm c.bT t.size=-1
 .obtain⟨n,r,f,b,g⟩:=h.large o t ht d;rw[b];exact XjI h f (h.size o t ht).1 g
 .obtain⟨f,b,g⟩:=h.small o t ht d;obtain⟨m,p⟩:=Uv d;obtain⟨k,i⟩:=XE m;obtain⟨j,l⟩:=Xne h (k:=t.q.cL) (n:=t.q.cR) (a:=t.q.idx) (by rw[g];omega);have e:t.q=⟨t.q.cL,t.q.cR,t.q.idx,[]⟩:=by
   obtain⟨sz,q,u,v,w⟩:=t;simp only at b
   rw[b]
  rw[<-e] at j l;refine⟨j,?_,by rw[b];simp⟩;rw[l,f,i];exact XkV i
end
section
variable {F Fr:Nat->Prop}{w w':dD}{S:Sto}{s:StM}{by':Int}{mo:Mo}{pd:Option (Nat×PlcM)}
def Hh(s:StM)(k:Int):Bool:=decide (0<=k) && decide (k<s.mv.length)
theorem OkP.few(hs:s.OkP S.c pd):s.mv.length<=16/\s.bV.length=s.mv.length/\0<s.mv.length:=by
 have:=(Ye hs.may).n;have:=hs.ml;have:=hs.kl;omega
end
theorem Xg2{F Fr:Nat->Prop}{w:dD}{S:Sto}{s:StM}{by':Int}{mo:Mo}{pd:Option (Nat×PlcM)}(h:Xq F Fr w S s by' mo)(hs:s.OkP S.c pd)(k:Int):Xf prog 131 #[Yq S,.int .i64 k] w (X5 (.bool (Hh s k)) w):=by
 refine aR func131 ntmps131 aA (aT aA (λa=>?_) λa=>?_)
 .refine bB h.obj aA ?_;have e:Hh s k=decide (k<s.mv.length):=by unfold Hh;rw[bN (show 0<=k from bL a)];rfl
  rw[e];exact bE func131 aA ⟨rfl,rfl⟩
 .have e:Hh s k=false:=by unfold Hh;rw[bO (show ¬0<=k from bM a)];rfl
  rw[e];exact bE func131 aA ⟨rfl,rfl⟩
theorem Xbf{s:StM}{k:Int}(h:Hh s k=false):Xy s k=none:=by
 unfold Xy;split
 .rename_i a
  unfold Hh at h;rw[bN a,YJ] at h;have:=bM h;rw[XA,ZF (by omega)];rfl
 .rfl
theorem Xhf{s:StM}{k:Int}(h:Hh s k=true):∃j:Nat,k=j/\j<s.mv.length:=by
 unfold Hh at h;simp only[XK,decide_eq_true_eq] at h;exact⟨k.toNat,by omega,by omega⟩
theorem Xe6{s:StM}(h:j<s.mv.length):Xy s (j:Nat)=s.mv[j]:=by
 unfold Xy;rw[bK (by omega),XB,XA,XD h];rfl
section
variable {F Fr:Nat->Prop}{w w':dD}{S:Sto}{s:StM}{by':Int}{mo:Mo}{pd:Option (Nat×PlcM)}
theorem Xq.mo_at(h:Xq F Fr w S s by' mo)(hj:j<s.mv.length):∃x,mo[j]?=some x/\x.map (·.2)=Xy s (j:Nat):=by
 have b:=h.mol;have a:j<mo.length:=by omega
 refine⟨mo[j],XD a,?_⟩;rw[Xe6 hj];have e:=h.mom;unfold Ht at e;simp only[<-e,YU]
theorem Xq.mcell(h:Xq F Fr w S s by' mo){x:Option (Nat×MvM)}(hx:mo[j]?=some x)(hi:i<6)(hv:(Ep x)[i]?=some v):w.cell? ⟨S.vb,0+j*6+i,none⟩=some v:=by
 refine(Ys h.mvs).trans ?_;rw[XT,YW,Ty Xe7 hi mo j x hx,hv]
end
theorem Lt{F Fr:Nat->Prop}{w:dD}{S:Sto}{s:StM}{by':Int}{mo:Mo}{pd:Option (Nat×PlcM)}(h:Xq F Fr w S s by' mo)(hs:s.OkP S.c pd)(k:Int):Xf prog 120 #[Yq S,.int .i64 k] w (X5 (.bool (Xy s k).isSome) w):=by
 obtain⟨f1,_,_⟩:=OkP.few hs;refine aR func120 ntmps120 aA (bH (Xg2 h hs k) aA ?_);cases ht:Hh s k with
 |false=>
  refine aS aA ?_;rw[Xbf ht];exact bE func120 aA ⟨rfl,rfl⟩
 |true=>
  obtain⟨j,rfl,c⟩:=Xhf ht;obtain⟨x,a,e⟩:=h.mo_at c;rw[<-e];refine bI aA (bB h.obj aA (aU (j*6) aA ?_));cases x with
  |none=>
   exact aW aA (h.mcell a (i:=0) (by decide) rfl) aA (bE func120 aA ⟨rfl,rfl⟩)
  |some p=>
   obtain⟨b,m⟩:=p;exact aW aA (h.mcell a (i:=0) (by decide) rfl) aA (bE func120 aA ⟨rfl,rfl⟩)
section
variable {F Fr:Nat->Prop}{w w':dD}{S:Sto}{s:StM}{by':Int}{mo:Mo}{pd:Option (Nat×PlcM)}
theorem Xq.mvOk(h:Xq F Fr w S s by' mo)(hs:s.OkP S.c pd){m:MvM}(hx:mo[j]?=some (some (b,m))):E2 w S.A (Fi S s) (Fp b m) m.cE:=by
 have hm:s.mv[j]?=some (some m):=by rw[<-h.mom];unfold Ht;rw[XN,hx];rfl
 obtain⟨a,c,d,_⟩:=Kr hs hm;have f:=(hs.mv j m hm).2.2.2.2.2.2;exact⟨h.ar,(h.mob j b m hx).1,d,by show m.cE<=m.size;omega,a,c⟩
end
def Wv(F G:Nat->Prop)(w0:dD)(s:StM)(o e:Int)(v:Value):Prop:=∃q,v=.tuple #[.agg (Fe (Qw s o) q).toArray,.int .i64 e]/\Xx q=Y9 s o/\Zp w0 q/\Xj F q.pa/\Ga G w0 q.pa
abbrev q0:Plc:=⟨0,0,0,none,0,[]⟩
theorem Xbo{F G:Nat->Prop}{s:StM}{o e:Int}{w':dD}(h:B3 s o=none):Wv F G w' s o e (.tuple #[.agg (Fe 0 q0).toArray,.int .i64 e]):=by
 refine⟨q0,?_,?_,⟨Rd.nil _ _ _,by simp⟩,(λ_ _ _ e=>by cases e),⟨(λ_ _ _ e=>by cases e),(λ_ _ _ e=>by cases e)⟩⟩
 .have:Qw s o=0:=by unfold Qw;rw[h]
  rw[this]
 .unfold Y9;rw[h];rfl
theorem So{F Fr:Nat->Prop}{w:dD}{S:Sto}{s:StM}{by':Int}{mo:Mo}{pd:Option (Nat×PlcM)}(h0:Xq F Fr w0 S s by' mo)(hw0:Xc Xe w0 w)(hs:s.OkP S.c pd)(o:Int):Xf prog 102 #[Yq S,.int .i64 o] w (λv w'=>Wv F S.G w0 s o (Z7 s o) v/\Xc Xe w w'):=by
 have a0:=hs.tl;have h:=h0.bQ hw0;refine aR func102 ntmps102 aA (bC aA λb w1 e1 y d a1=>?_);have C:=h.bQ d;by_cases g:o<0\/S.c.cN<=o
 .have l:Z7 s o=1:=by unfold Z7;rw[bK (by omega)]
  have f:B3 s o=none:=by
   unfold B3;split
   .rw[XA,ZF (by omega)];rfl
   .rfl
  rw[l];refine aT aA (λm=>?_) λm=>?_
  .exact aO aA (bF y aA λD c a n=>aK func102 c aA ⟨Xbo f,d.sn a⟩)
  .have a2:=bM m;exact bB C.obj aA (bI aA (aO aA (bF y aA λD c a n=>aK func102 c aA ⟨Xbo f,d.sn a⟩)))
 .obtain⟨j,rfl⟩:=XE (show 0<=o by omega);refine aS aA (bB C.obj aA (aS aA (bB C.obj aA ?_)));obtain⟨al,E,a3,H,I,_⟩:=h0.th;have A:=E.bR (hw0.trans d) id;cases k:s.th[j]? with
  |none=>exact absurd k (by rw[List.getElem?_eq_none_iff];omega)
  |some x=>
   cases x with
   |none=>
    have f:B3 s (j:Nat)=none:=by
     unfold B3;rw[bK (by omega),XB,XA,k];rfl
    have l:Z7 s (j:Nat)=9:=by unfold Z7;rw[bJ (by omega),f]
    have M:Bq al (j:Nat)=none:=I _ λN t1 m e=>by
     have:N=j:=by omega
     subst this;rw[k] at m;cases m
    rw[l];exact Xa.lookup Xb rfl (A) ((show Bv al _ _ true=.tuple #[.agg (Fe 0 q0).toArray,.bool false] from by unfold Bv;rw[M];rfl)) rfl (bC aA λO D e2 c a n=>bF c aA λP B i J=>bI aA (aO aA (bF (i.heap (a.bP y) (by omega)) aA λQ r u K=>aK func102 r aA ⟨Xbo f,((d.trans a).sn i).sn u⟩)))
   |some t=>
    have f:=Hg k;have l:Z7 s (j:Nat)=0:=by unfold Z7;rw[bJ (by omega),f]
    have L:Qw s (j:Nat)=t.size:=by unfold Qw;rw[f]
    obtain⟨q,R,T,U,V,W⟩:=H j t k;rw[l];refine Xa.lookup Xb rfl (A) ((show Bv al _ _ true=.tuple #[.agg (Fe t.size q).toArray,.bool true] from by unfold Bv;rw[T];rfl)) rfl (bC aA λO D e2 c a n=>bF c aA λP B i J=>aS aA (bB B aA (bF (i.heap (a.bP y) (by omega)) aA λQ r u K=>?_)));have G:=((d.trans a).sn i).sn u;exact aK func102 r aA ⟨⟨q,by rw[L];rfl,R.trans (Qr k).symm,U,V,W⟩,G⟩
theorem Xg3{F Fr:Nat->Prop}{w:dD}{S:Sto}{s:StM}{by':Int}{mo:Mo}{pd:Option (Nat×PlcM)}(h:Xq F Fr w0 S s by' mo)(hw0:Xc Xe w0 w)(hs:s.OkP S.c pd)(o i n:Int)(hi : -9223372036854775808<=i/\i<=9223372036854775807)(hn : -9223372036854775808<=n/\n<=9223372036854775807):Xf prog 106 #[Yq S,.int .i64 o,.int .i64 i,.int .i64 n] w (λv w'=>Wv F S.G w0 s o (Qo s o i n) v/\Xc Xe w w'):=by
 have O:0<=Qw s o/\Qw s o<=1152921504606846976:=by
  unfold Qw;cases ht:B3 s o with
  |none=>simp
  |some t=>
   obtain⟨j,_,_,M⟩:=XcC ht;have:=hs.size j t M;have:=(Ye hs.may).cH;simp only
   omega
 refine aR func106 ntmps106 aA (bC aA λb w1 e1 N l P=>aP aA (So h (hw0.trans l) hs o) ?_);rintro _ w2 ⟨⟨q,rfl,y,A,B,C⟩,k⟩;have Q:=k.size;refine aN aA (bC aA λb3 w3 e3 H m R=>bF H aA λw4 d p T=>?_);have f:=p.heap (m.bP (k.bP N)) (by omega);refine aT aA (λE=>?_) λE=>?_
 .have I:Z7 s o=0:=by simpa using E
  by_cases g:i<0\/n<0\/Qw s o<n\/Qw s o-n<i
  .have e:Qo s o i n=8:=by unfold Qo;rw[bJ (by omega),bK g]
   refine aT aA (λJ=>?_) λJ=>?_
   .have r:=((l.trans k).trans m).sn p;refine bB d aA (bF f aA λD a c x=>?_);exact aK func106 a aA ⟨⟨q,by rw[e];rfl,y,A,B,C⟩,(r.sn c)⟩
   .have U:=bM J;refine aT aA (λK=>?_) λK=>?_
    .have r:=((l.trans k).trans m).sn p;refine bB d aA (bF f aA λD a c x=>?_);exact aK func106 a aA ⟨⟨q,by rw[e];rfl,y,A,B,C⟩,(r.sn c)⟩
    .have V:=bM K;refine bB d aA (aT aA (λL=>?_) λL=>?_)
     .have r:=((l.trans k).trans m).sn p;refine bB d aA (bF f aA λD a c x=>?_);exact aK func106 a aA ⟨⟨q,by rw[e];rfl,y,A,B,C⟩,(r.sn c)⟩
     .have W:=bM L;refine bB d aA (aV aA (bI aA ?_));refine bB d aA (bF f aA λD a c x=>?_);exact aK func106 a aA ⟨⟨q,by rw[e];rfl,y,A,B,C⟩,((((l.trans k).trans m).sn p).sn c)⟩
  .have e:Qo s o i n=0:=by unfold Qo;rw[bJ (by omega),bJ g]
   have G:Z7 s o=Qo s o i n:=by rw[I,e]
   refine aS aA (aS aA (bB d aA (aS aA (bB d aA (aV aA (aS aA (bB d aA (bF f aA λD a c x=>?_))))))));exact aK func106 a aA ⟨⟨q,by rw[<-G];rfl,y,A,B,C⟩,((((l.trans k).trans m).sn p).sn c)⟩
 .have e:Z7 s o=Qo s o i n:=by unfold Qo;rw[bK (by simpa using E)]
  refine bB d aA (bF f aA λD a c x=>?_);exact aK func106 a aA ⟨⟨q,by rw[<-e];rfl,y,A,B,C⟩,((((l.trans k).trans m).sn p).sn c)⟩
theorem Xnz{S:Sto}(h:Xq F Fr w S s by' mo)(hs:s.OkP S.c pd)(o:Int):Xf prog 58 #[Yq S,.int .i64 o] w (Grow (.int .i64 (Qw s o)) w):=by
 refine aR func58 ntmps58 aA (aP aA (So h (Xc.refl _ _) hs o) ?_);rintro _ j ⟨⟨q,rfl,_⟩,a⟩;exact aN aA (bC aA λk l e3 b c g=>bF b aA λm d f i=>bB d aA (bE func58 aA ⟨rfl,(a.trans c).bU f (λz n e=>by have:=a.size;omega)⟩))
theorem Xcl{S:Sto}(fk:Nat)(caps:List Value)(w:dD)(Q:Int->dD->Prop)(hf:Xf prog fk caps.toArray w (λv w'=>∃n:Int,v=.int .i64 n/\Q n w')):Xf prog 99 #[Yq S,.func (.func fk) #[] caps.toArray] w (λv w'=>∃n:Int,v=.int .i64 n/\Q n w'):=by
 refine aR func99 ntmps99 aA (aP aA (hf) ?_);rintro _ b ⟨n,rfl,a⟩;exact aN aA (bE func99 aA ⟨n,rfl,a⟩)
abbrev Xch(w:dD)(b:Nat)(v:Value):Prop:=w.heap[b]?=some (.cells #[v] 101 (0,0))
theorem Xnu{S:Sto}(h:Xq F Fr w S s by' mo)(b:Nat)(hb:Xch w b (Yq S)):Xf prog 100 [.pointer (some ⟨b,0,none⟩)].toArray w (λv w'=>∃n:Int,v=.int .i64 n/\n=(Zf s.rm.pl:Nat)/\w=w'):=by
 exact aR func100 ntmps100 aA (aW aA (Cu (off:=0) hb rfl) aA (bB h.obj aA (bH (Si h.cW) aA (bE func100 aA ⟨_,rfl,rfl,rfl⟩))))
theorem Xnt{S:Sto}(h:Xq F Fr w S s by' mo):Xf prog 50 #[Yq S] w (Grow (.int .i64 (Zf s.rm.pl:Nat)) w):=by
 refine aR func50 ntmps50 aA (bC aA λb d e1 c a f=>aW aA (Cu (off:=0) c rfl) aA (aP aA (Xcl (S:=S) 100 [.pointer (some ⟨b,0,none⟩)] d _ (Xnu (h.bQ a) b c)) ?_));rintro _ g ⟨n,rfl,rfl,rfl⟩;exact aN aA (bE func50 aA ⟨rfl,a⟩)
theorem Xnr{S:Sto}(h:Xq F Fr w S s by' mo)(b:Nat)(hb:Xch w b (Yq S)):Xf prog 126 [.pointer (some ⟨b,0,none⟩)].toArray w (λv w'=>∃n:Int,v=.int .i64 n/\n=by'/\w=w'):=by
 exact aR func126 ntmps126 aA (aW aA (Cu (off:=0) hb rfl) aA (bB h.obj aA (bE func126 aA ⟨_,rfl,rfl,rfl⟩)))
theorem Xnq{S:Sto}(h:Xq F Fr w S s by' mo):Xf prog 73 #[Yq S] w (Grow (.int .i64 by') w):=by
 refine aR func73 ntmps73 aA (bC aA λb d e1 c a f=>aW aA (Cu (off:=0) c rfl) aA (aP aA (Xcl (S:=S) 126 [.pointer (some ⟨b,0,none⟩)] d _ (Xnr (h.bQ a) b c)) ?_));rintro _ g ⟨n,rfl,rfl,rfl⟩;exact aN aA (bE func73 aA ⟨rfl,a⟩)
theorem XnF{S:Sto}(h:Xq F Fr w S s by' mo)(old size:Int)(ho:old<=9223372036854775807)(hz:size<=9223372036854775807):Xf prog 111 #[Yq S,.int .i64 old,.int .i64 size] w (Grow (.bool (A0 S.c old size)) w):=by
 have d:=h.ca.1;have j:S.c.bT.length<=9223372036854775807:=by have:=Ye h.cW.may;have:=this.n;rw[h.rc] at this;omega
 refine aR func111 ntmps111 aA (aQ 13 Xe (by kernel_rfl) aA λa=>aE a h.obj aA (aG a (λw' f=>Ob S.p.ca S.p.cc S.c.bT old w' (d.bR f) j) aA (aE a h.obj aA (aF a aA λm g=>bG (Ob S.p.ca S.p.cc S.c.bT size m (d.bR g) j) aA λn k=>?_))));have b:=g.trans k;have l:=h.bQ b;by_cases e1:Xm S.c.bT old=Xm S.c.bT size
 .by_cases e2:Xm S.c.bT old=-1
  .have e:A0 S.c old size=decide (Qp old S.c.size=Qp size S.c.size):=by unfold A0;rw[bN e1,YJ,bO (λh=>h e2),Bool.false_or]
   rw[e];exact aQ 20 Xe (by kernel_rfl) aA λa=>Xd.yes Xb a rfl (by simpa using e1) rfl (Xd.no Xb a rfl (by rw[e2];rfl) rfl (aE a l.obj aA (aH a (λw' f=>Xau old S.c.size w' ho) aA (aE a l.obj aA (aF a aA λi c=>bH (Xau size S.c.size i hz) aA (bE func111 aA ⟨rfl,b.trans c⟩))))))
  .have e:A0 S.c old size=true:=by unfold A0;rw[bN e1,YJ,bN e2,Bool.true_or]
   rw[e];exact aQ 20 Xe (by kernel_rfl) aA λa=>Xd.yes Xb a rfl (by simpa using e1) rfl (Xd.yes Xb a rfl (by simpa using e2) rfl (aF a aA λi c=>bE func111 aA ⟨rfl,b.trans c⟩))
 .have e:A0 S.c old size=false:=by unfold A0;rw[bO e1,YZ]
  rw[e];exact aQ 20 Xe (by kernel_rfl) aA λa=>Xd.no Xb a rfl (by simpa using e1) rfl (aF a aA λi c=>bE func111 aA ⟨rfl,b.trans c⟩)
theorem Xck{S:Sto}(h:Xq F Fr w S s by' mo)(hs:s.OkP S.c pd)(size:Int):Xf prog 67 #[Yq S,.int .i64 size] w (Grow (.int .i64 (Yt S.c s size)) w):=by
 have g:S.c.bT.length<=9223372036854775807:=by have:=Ye h.cW.may;have:=this.n;rw[h.rc] at this;omega
 refine aR func67 ntmps67 aA (aT aA (λc=>?_) λc=>?_)
 .have e:Yt S.c s size=3:=by unfold Yt;rw[bK (.inl (bL c))]
  rw[e];exact bE func67 aA ⟨rfl,Xc.refl _ _⟩
 .have i:=bM c;refine bB h.obj aA (aT aA (λd=>?_) λd=>?_)
  .have e:Yt S.c s size=3:=by unfold Yt;rw[bK (.inr (bL d))]
   rw[e];exact bE func67 aA ⟨rfl,Xc.refl _ _⟩
  .have j:=bM d;have e:Yt S.c s size=if (Xy s (Xm S.c.bT size)).isSome then 0 else Qg S.c s.rm size:=by unfold Yt;rw[bJ (by omega)]
   rw[e];refine bB h.obj aA (bG (Ob S.p.ca S.p.cc S.c.bT size w h.ca.1 g) aA λk a=>?_);have b:=h.bQ a;refine bH (Lt b hs (Xm S.c.bT size)) aA ?_;cases hm:(Xy s (Xm S.c.bT size)).isSome with
   |true=>
    exact bI aA (bE func67 aA ⟨rfl,a⟩)
   |false=>
    refine aS aA (bB b.obj aA ?_);have hr:=Xgj b.cW size;rw[b.rc] at hr;exact bG hr aA λl f=>bE func67 aA ⟨rfl,a.trans f⟩
end Go.Proofs.YtdeihcnepljjaaaGreatDoor
