/-
  Texts put together: Laws22c, Tot22, Laws22g, Laws22h.
-/
import Derived.Test.YtohjeeapehmkcaaGreatDoorPt10
import Derived.Test.YtohjeeapehmkcaaGreatDoorQRule9
set_option linter.unusedVariables false
set_option maxRecDepth 100000
namespace Go.Proofs.YtohjeeapehmkcaaGreatDoor
open Go.RowKit
open Int renaming toNat_natCast->XA,eq_ofNat_of_zero_le->XD,le_refl->YL
open List renaming getElem?_eq_getElem->XB,getElem_mem->XJ,length_map->XM,length_range->YC
open Nat renaming zero_le->XL
open Go.Proofs.Tryz (func10 func11 func14 func23 func3 ntmps10 ntmps11 ntmps14 ntmps23 ntmps3 prog)
variable {A:Ar} {V:ArV} {c:Conf} {l':IL} {ahead by' size u who z:Int} {lg:List (Nat × List Nat)} {th:List (Option ThM)} {ps:List IL} {bs l p zs:List Int} {l2 ws:List Nat} {cs rest xs:List Value} {mo:Mo} {N at' b base cap fuel g i j k len lm lo m n n0 o off sz t tm vb xb y:Nat} {e:Nat × List Int} {fz:Nat × Nat} {f:Nat->Int} {G:Nat->Pg} {B C F F' Fr S S' T:Nat->Prop} {pd pd2:Option (Nat × PlcM)} {a:Option Addr} {pg:PgL} {P:Pl} {pl':PlM} {q:Plc} {R:Rm} {M:RmM} {r r1:SR} {x x':Sm} {s s':StM} {α:Type} {v:Value} {w w' w0 w1 w2:World}
theorem E1.up {S:Sto} (h:E1 c n0 w0 w1 F S s w') (hc:Xc Xe w w1):E1 c n0 w0 w F S s w':=by
 obtain ⟨F',a,b,d⟩:=h;have:=hc.size;exact ⟨F',a,fun z e=>(b z e).imp id (by omega),hc.gr.trans d⟩
theorem XhW {S:Sto} (h:Lv c n0 w0 w F S s) (u:Gr) (hu:Ie w u) (hout:0<u.bs.length->Xj F u.ba):Xf prog 11 #[Zk S,.agg (E4 u).toArray] w
 (fun v w' => ∃ a cap,v = .tuple #[.slice a (Qg c s u).length cap,.int .i64 (Q8 c s u)]/\Rd .u8 w' a (Qg c s u)/\(∀ b off s',a=some ⟨b,off,s'⟩->w.heap.size<=b/\b<w'.heap.size)/\E1 c n0 w0 w F S (Y6 c s u) w'):=by
 have B:=hu.kind;refine Xf.enter func11 rfl ntmps11 rfl rfl ?_;refine ζa rfl ?_;refine Xa.alloc Xb rfl ?_;intro ub y e1 d i A;refine ζa rfl ?_;replace d:y.heap[ub]? = some (.cells (E4 u).toArray 49 (0,0)):=d;have o:=h.grow i;refine Xa.loadb Xb rfl d rfl rfl ?_;refine Xa.div Xb rfl (by omega) (Fi (by omega)) rfl ?_;by_cases f:u.kind % 7=0
 ·have eE:Q8 c s u=A5 c s u.own u.a:=by unfold Q8; rw [if_pos f]
  have eS:Y6 c s u=Ao c s u.own u.a:=by unfold Y6; rw [if_pos f]
  have eB:Qg c s u = []:=by unfold Qg; rw [if_neg (by omega)]
  refine Xa.yes Xb rfl (decide_eq_true f) rfl ?_;refine Xa.loadb Xb rfl d rfl rfl ?_;refine Xa.loadb Xb rfl d rfl rfl ?_;refine ζc rfl (Xdn o u.own u.a) ?_;rintro _ p ⟨rfl,k⟩;refine ζa rfl ?_;have m:∀ {w'},Rd .u8 w' none []:=Rd.nil _ _ _;rw [eB];exact Xa.ret2 Xb rfl func11 rfl rfl rfl ⟨none,0,by rw [eE]; rfl,Rd.nil _ _ _,(by intro b off s' e; cases e),by rw [eS]; exact k.up i⟩
 by_cases g:u.kind % 7=1
 ·have eE:Q8 c s u=Yc s u.own:=by unfold Q8; rw [if_neg f,if_pos g]
  have eS:Y6 c s u=C4 c s u.own:=by unfold Y6; rw [if_neg f,if_pos g]
  have eB:Qg c s u = []:=by unfold Qg; rw [if_neg (by omega)]
  refine Xa.no Xb rfl (decide_eq_false f) rfl ?_;refine Xa.yes Xb rfl (decide_eq_true g) rfl ?_;refine Xa.loadb Xb rfl d rfl rfl ?_;refine ζc rfl (Ww o u.own) ?_;rintro _ p ⟨rfl,k⟩;refine ζa rfl ?_;have m:∀ {w'},Rd .u8 w' none []:=Rd.nil _ _ _;rw [eB];exact Xa.ret2 Xb rfl func11 rfl rfl rfl ⟨none,0,by rw [eE]; rfl,Rd.nil _ _ _,(by intro b off s' e; cases e),by rw [eS]; exact k.up i⟩
 by_cases j:u.kind % 7=2
 ·have eE:Q8 c s u=Bp c s u.own u.a:=by unfold Q8; rw [if_neg f,if_neg g,if_pos j]
  have eS:Y6 c s u=As c s u.own u.a:=by unfold Y6; rw [if_neg f,if_neg g,if_pos j]
  have eB:Qg c s u = []:=by unfold Qg; rw [if_neg (by omega)]
  refine Xa.no Xb rfl (decide_eq_false f) rfl ?_;refine Xa.no Xb rfl (decide_eq_false g) rfl ?_;refine Xa.yes Xb rfl (decide_eq_true j) rfl ?_;refine Xa.loadb Xb rfl d rfl rfl ?_;refine Xa.loadb Xb rfl d rfl rfl ?_;refine ζc rfl (Xia o u.own u.a) ?_;rintro _ p ⟨rfl,k⟩;refine ζa rfl ?_;have m:∀ {w'},Rd .u8 w' none []:=Rd.nil _ _ _;rw [eB];exact Xa.ret2 Xb rfl func11 rfl rfl rfl ⟨none,0,by rw [eE]; rfl,Rd.nil _ _ _,(by intro b off s' e; cases e),by rw [eS]; exact k.up i⟩
 by_cases l:u.kind % 7=3
 ·have eE:Q8 c s u=Qc s u.own u.a u.b:=by unfold Q8; rw [if_neg f,if_neg g,if_neg j,if_pos l]
  have eS:Y6 c s u=C5 c s u.own u.a u.b:=by unfold Y6; rw [if_neg f,if_neg g,if_neg j,if_pos l]
  have eB:Qg c s u=C6 c s u.own u.a u.b:=by unfold Qg; rw [if_pos l]
  refine Xa.no Xb rfl (decide_eq_false f) rfl ?_;refine Xa.no Xb rfl (decide_eq_false g) rfl ?_;refine Xa.no Xb rfl (decide_eq_false j) rfl ?_;refine Xa.yes Xb rfl (decide_eq_true l) rfl ?_;refine Xa.loadb Xb rfl d rfl rfl ?_;refine Xa.loadb Xb rfl d rfl rfl ?_;refine Xa.loadb Xb rfl d rfl rfl ?_;refine ζc rfl (Xds o u.own u.a u.b hu.a hu.b) ?_;rintro _ p ⟨z,t,rfl,x,r,k⟩;refine ζa rfl ?_;rw [eB,eE,eS];exact Xa.ret2 Xb rfl func11 rfl rfl rfl ⟨z,t,rfl,x,(fun b off s' e=>⟨by have:=(r b off s' e).1; have:=i.size; omega,(r b off s' e).2⟩),k.up i⟩
 by_cases n:u.kind % 7=4
 ·have eE:Q8 c s u=Qc s u.own u.a u.bs.length:=by unfold Q8; rw [if_neg f,if_neg g,if_neg j,if_neg l,if_pos n]
  have eS:Y6 c s u=Dr c s u.own u.a u.bs:=by unfold Y6; rw [if_neg f,if_neg g,if_neg j,if_neg l,if_pos n]
  have eB:Qg c s u = []:=by unfold Qg; rw [if_neg (by omega)]
  refine Xa.no Xb rfl (decide_eq_false f) rfl ?_;refine Xa.no Xb rfl (decide_eq_false g) rfl ?_;refine Xa.no Xb rfl (decide_eq_false j) rfl ?_;refine Xa.no Xb rfl (decide_eq_false l) rfl ?_;refine Xa.yes Xb rfl (decide_eq_true n) rfl ?_;refine Xa.loadb Xb rfl d rfl rfl ?_;refine Xa.loadb Xb rfl d rfl rfl ?_;refine Xa.loadb Xb rfl d rfl rfl ?_;refine ζc rfl (Xdw o u.own u.a u.ba u.bc u.bs hu.a (hu.rd.chg i) hu.lc (by have:=hu.lc; have:=hu.len; omega) hu.rng hout) ?_;rintro _ p ⟨rfl,k⟩;refine ζa rfl ?_;have m:∀ {w'},Rd .u8 w' none []:=Rd.nil _ _ _;rw [eB];exact Xa.ret2 Xb rfl func11 rfl rfl rfl ⟨none,0,by rw [eE]; rfl,Rd.nil _ _ _,(by intro b off s' e; cases e),by rw [eS]; exact k.up i⟩
 by_cases q:u.kind % 7=5
 ·have eE:Q8 c s u=0:=by unfold Q8; rw [if_neg f,if_neg g,if_neg j,if_neg l,if_neg n,if_pos q]
  have eS:Y6 c s u=De c s:=by unfold Y6; rw [if_neg f,if_neg g,if_neg j,if_neg l,if_neg n,if_pos q]
  have eB:Qg c s u = []:=by unfold Qg; rw [if_neg (by omega)]
  refine Xa.no Xb rfl (decide_eq_false f) rfl ?_;refine Xa.no Xb rfl (decide_eq_false g) rfl ?_;refine Xa.no Xb rfl (decide_eq_false j) rfl ?_;refine Xa.no Xb rfl (decide_eq_false l) rfl ?_;refine Xa.no Xb rfl (decide_eq_false n) rfl ?_;refine Xa.yes Xb rfl (decide_eq_true q) rfl ?_;refine ζc rfl (Xdv o) ?_;rintro _ p ⟨rfl,k⟩;refine ζa rfl ?_;have m:∀ {w'},Rd .u8 w' none []:=Rd.nil _ _ _;rw [eB];exact Xa.ret2 Xb rfl func11 rfl rfl rfl ⟨none,0,by rw [eE]; rfl,Rd.nil _ _ _,(by intro b off s' e; cases e),by rw [eS]; exact k.up i⟩
 ·have eE:Q8 c s u=Ch s u.own u.a:=by unfold Q8; rw [if_neg f,if_neg g,if_neg j,if_neg l,if_neg n,if_neg q]
  have eS:Y6 c s u=Dp s u.own u.a:=by unfold Y6; rw [if_neg f,if_neg g,if_neg j,if_neg l,if_neg n,if_neg q]
  have eB:Qg c s u = []:=by unfold Qg; rw [if_neg (by omega)]
  refine Xa.no Xb rfl (decide_eq_false f) rfl ?_;refine Xa.no Xb rfl (decide_eq_false g) rfl ?_;refine Xa.no Xb rfl (decide_eq_false j) rfl ?_;refine Xa.no Xb rfl (decide_eq_false l) rfl ?_;refine Xa.no Xb rfl (decide_eq_false n) rfl ?_;refine Xa.no Xb rfl (decide_eq_false q) rfl ?_;refine Xa.loadb Xb rfl d rfl rfl ?_;refine Xa.loadb Xb rfl d rfl rfl ?_;refine ζc rfl (Xib o u.own u.a) ?_;rintro _ p ⟨rfl,k⟩;refine ζa rfl ?_;have m:∀ {w'},Rd .u8 w' none []:=Rd.nil _ _ _;rw [eB];exact Xa.ret2 Xb rfl func11 rfl rfl rfl ⟨none,0,by rw [eE]; rfl,Rd.nil _ _ _,(by intro b off s' e; cases e),by rw [eS]; exact k.up i⟩
theorem XhV (c:Conf) (p:Y4) (w:World) (hc:Yp w c p) (ht:Az w) (hm:Zb c=true) (hp:c.pages<=512) (hk:Yf w p.ka):Xf prog 10 #[.agg (Zl c p).toArray] w
 (fun v w' => ∃ F S r n0,v = .tuple #[Zk S,.agg (Zn r).toArray]/\n0<=w'.heap.size/\Lv c n0 w w' F S (Cn c)/\S.R.lap=0/\X2 w' r (Cn c)/\(r.c=c/\r.cp=p)/\(∀ T:Nat->Prop,(∀ z,T z->z<w.heap.size\/F z)->Xj T p.ka->Ad T r)):=by
 refine Xf.enter func10 rfl ntmps10 rfl rfl ?_;refine ζa rfl ?_;refine Xa.alloc Xb rfl ?_;intro b w1 e1 J O ae;refine ζa rfl ?_;refine Xa.alloc Xb rfl ?_;intro qb w2 e2 C o af;refine ζa rfl ?_;replace J:w1.heap[b]? = some (.cells (Zl c p).toArray 24 (0,0)):=J;have D:=o.heap' J;have d:=O.trans o;refine Xa.loads Xb rfl D rfl rfl ?_;refine ζc rfl (Xdq c p w2 (hc.chg d) (ht.grow d) hm) ?_;rintro _ K ⟨F,S,rfl,L,M,E,m⟩;refine ζa rfl ?_;have P:=m.heap' D;have s:=d.trans m;refine Xa.loads Xb rfl P rfl rfl ?_;refine ζc rfl (XjU c p K (hc.chg s) hm hp) ?_;rintro _ w4 ⟨r,rfl,G,H,Q,t,I⟩;refine ζa rfl ?_;refine Xa.alloc Xb rfl ?_;intro xb w5 e5 R U ag;refine ζa rfl ?_;refine Xa.store Xb rfl R rfl rfl ?_;intro V f W ah;refine ζa rfl ?_;replace f:X6 V xb r:=f;have g:Xc Xe w4 V:=U.since W (fun z a e=>by omega);refine Xa.drawn (q:=3) Xe Xb Xo (by kernel_rfl) rfl ?_;intro hB;refine Xd.loads Xb hB rfl f (by first | exact fun h=>h | (intro h; omega) | assumption) rfl rfl ?_;refine Xd.nil hB ?_;intro N u;refine ζa rfl ?_;have i:=(I.trans (g.trans u)).heap' (m.heap' C);have j:=I.trans (g.trans u);have y:=L.grow j;have lqb:=Xg C;have ai:=d.size;have s2:=o.size;have s3:=m.size;have aj:=j.size;refine Xa.store Xb rfl i rfl rfl ?_;intro B k n ak;refine ζa rfl ?_;replace k:X6 B qb r:=k;have a1:¬ F qb:=fun a=>by have:=L.base qb a; omega
 have A:Xc Xe w B:=(s.trans j).since n (fun z a e=>by omega);have tl:0<w.heap.size:=by have:=World.block_lt_of_cell? w _ (ht 0 (by decide)); exact this
 have a2:=Ye hm;have a3:Lv c K.heap.size w B F S (Cn c):=by
  obtain ⟨Fr,mo,k1⟩:=y.ok;have a6:N.heap[qb]? = some (.cells (Value.int .i64 0::(Zn r).tail).toArray 42 (0,0)) \/ ∃ l,N.heap[qb]? = some (.cells (Value.int .i64 0::l).toArray 42 (0,0)) := .inr ⟨_,i⟩;obtain ⟨l,a⟩:∃ l,N.heap[qb]? = some (.cells (Value.int .i64 0::l).toArray 42 (0,0)):=⟨_,i⟩;have k2:=k1.old a a1 (by decide) (fun x e=>by cases e) (by omega) (by rw [E]; intro off s' e; have:=hc.classes.block (by have:=a2.n; omega) e; omega) (by rw [E]; intro off s' e; have:=hk _ _ _ e; omega) n;exact ⟨⟨Fr,mo,k2⟩,y.inv,y.sc,y.fx,fun z a=>by have:=y.base z a; omega,A⟩
 have ho:Ad (fun z=>z=qb) r:=t _ (fun z e=>by omega) (fun b' off s' e a=>by have:=hk _ _ _ e; omega);have a4:X2 B r (Cn c):=(Q.grow (g.trans u)).far ho (by rw [G,H]; exact hc.chg A) n;have s8:=n.size;exact ζq rfl func10 (Xk.tmp rfl (Xk.cell rfl rfl rfl k rfl .nil)) ⟨F,S,r,K.heap.size,rfl,by omega,a3,M,a4,⟨G,H⟩,fun T hT a5=>t T (fun z a=>(hT z a).elim (by omega) (fun a=>L.low z a)) a5⟩
section
variable {c:Conf} {s:StM} {pd:Option (Nat × PlcM)}
theorem XfG {q:PlcM} (h:s.OkP c (some (o,q))) (ht:0<=s.rm.tot/\s.rm.tot<=999999900000):0<=(B6 c s q).rm.tot/\(B6 c s q).rm.tot<=s.rm.tot+40000:=by
 obtain ⟨e,i,j⟩:=Xcr h.rm q;have a:0<=(Yv s.rm q).tot/\(Yv s.rm q).tot<=s.rm.tot+10000:=by
  rw [<- e];show 0<=Xw s.rm.tot _/\Xw s.rm.tot _<=_
  rw [Ba (by omega)];omega
 have b:=h.dropped;unfold B6;split
 ·show 0<=(Yv s.rm q).tot/\(Yv s.rm q).tot<=_
  omega
 ·have d:=Tz b q.cls.toNat ⟨a.1,by have:=a.2; show (Yv s.rm q).tot<=_; omega⟩;have g:(Yw c {s with rm:=Yv s.rm q} q.cls.toNat).rm.tot<=(Yv s.rm q).tot+10000:=d.2;have f:=Xbj (b.begin q.cls.toNat) q.cls.toNat c.step ⟨d.1,by omega⟩;exact ⟨f.1,by omega⟩
theorem XfH (o:Int) (i n:Nat) (hn:n<=25000000) (ht:0<=s.rm.tot/\s.rm.tot<=1000000000000):0<=(Ac s o i n).rm.tot/\(Ac s o i n).rm.tot<=s.rm.tot+n:=by
 unfold Ac;split
 ·rename_i m _
  split
  ·have a:Qt i n m.gone<=n:=by unfold Qt; omega
   show 0<=Xw s.rm.tot _/\Xw s.rm.tot _<=_
   rw [Ba (by omega)];omega
  ·omega
 ·omega
theorem XfF (q:Plc) (i n:Nat) (hm:Zb c=true) (hn:n<=25000000) (ht:0<=s.rm.tot/\s.rm.tot<=1000000000000):0<=(Qf s (X8 c q i n)).rm.tot/\(Qf s (X8 c q i n)).rm.tot<=s.rm.tot+(2*n+1):=by
 have:=Ij (q:=q) (at':=i) (n:=n) hm;show 0<=Xw s.rm.tot _/\Xw s.rm.tot _<=_
 rw [Ba (by omega)];omega
theorem XlC {u:Gr} (h:s.Ok c) (ht:0<=s.rm.tot/\s.rm.tot<=900000000000):0<=(Y6 c s u).rm.tot/\(Y6 c s u).rm.tot<=s.rm.tot+1000000000:=by
 have z:=(Ye h.may).most.2;unfold Y6;split
 ·unfold Ao;split
  ·rename_i d
   obtain ⟨j,e,w,x,n⟩:=XbO d;rw [e];have:=Xbk h j w u.a (StM.OkP.lay h x n (by rintro _ _ ⟨⟩)) ⟨ht.1,by omega⟩;omega
  ·omega
 split
 ·unfold C4;split
  ·omega
  ·rename_i y
   obtain ⟨j,t,e,a⟩:=Jd (Decidable.not_not.1 y);rw [e,Qx a];obtain ⟨t',b,_,_,_,f⟩:=On h a;rw [Qx b,XA];have i:=T0 h t.q.cls ⟨ht.1,by omega⟩;have p:=XfG ((K0 h t.q.cls).ok.away b f) ⟨i.1,by have:=i.2; show (Zj s t.q.cls).rm.tot<=_; omega⟩;refine ⟨p.1,Int.le_trans p.2 ?_⟩;show (Zj s t.q.cls).rm.tot+40000<=_
   omega
 split
 ·unfold As;split
  ·omega
  ·rename_i d
   obtain ⟨j,t,e,a,A,g⟩:=Xey (Decidable.not_not.1 d);have m:=h.size j t a;rw [e,Ez a,Qx a];split
   ·split
    ·have o:(Xy (t.size - u.a).toNat).length<=25000000:=by rw [C8]; omega
     have b:=Ny (s:=s) h.may t.q u.a.toNat (Xy (t.size - u.a).toNat) ⟨ht.1,by omega⟩ o;rw [C8] at o b;have f:=XfH (s:=Dq (Z4 c s t.q u.a.toNat (Xy (t.size - u.a).toNat)) (j:Nat) ⟨u.a,t.q⟩) (j:Nat) u.a.toNat (t.size - u.a).toNat o ⟨b.1,by have:=b.2; show (Z4 c s t.q u.a.toNat _).rm.tot<=_; omega⟩;exact ⟨f.1,by have:=f.2; have:=b.2; have e:(Dq (Z4 c s t.q u.a.toNat (Xy (t.size - u.a).toNat)) (j:Nat) ⟨u.a,t.q⟩).rm.tot=(Z4 c s t.q u.a.toNat (Xy (t.size - u.a).toNat)).rm.tot:=rfl; omega⟩
    ·show 0<=s.rm.tot/\s.rm.tot<=_
     omega
   ·rename_i q
    rcases g with g | ⟨g,n⟩
    ·exact absurd g q
    ·obtain ⟨t',M⟩:=Sk h a g n;have r:j<(Zj s t.q.cls).th.length:=(List.getElem?_eq_some_iff.1 M.th1).1;unfold Kh;simp only
     rw [Qx a,Qx M.th1,Ez a];have i:=T0 h t.q.cls ⟨ht.1,by omega⟩;have b:=XfF (s:=Zj s t.q.cls) t'.q.plc 0 (min t.size u.a).toNat h.may (by omega) ⟨i.1,by omega⟩;have f:=Xbk (M.ok1.tot (X8 c t'.q.plc 0 (min t.size u.a).toNat)) j r u.a M.ok2 ⟨b.1,by omega⟩;have k:(Yh c t'.q.plc (Zj s t.q.cls).bs 0 (min t.size u.a).toNat).length=(min t.size u.a).toNat:=by unfold Yh; rw [XM,YC]
     have l:=Ny (s:=Y9 c (Qf (Zj s t.q.cls) (X8 c t'.q.plc 0 (min t.size u.a).toNat)) (j:Nat) u.a) h.may (Yy (Y9 c (Qf (Zj s t.q.cls) (X8 c t'.q.plc 0 (min t.size u.a).toNat)) (j:Nat) u.a) (j:Nat)) 0 (Yh c t'.q.plc (Zj s t.q.cls).bs 0 (min t.size u.a).toNat) ⟨f.1,by omega⟩ (by rw [k]; omega);rw [k] at l;have v:=XfG (M.ok2.put _ 0 (Pz M.ok1.bi _ _)) ⟨l.1,by omega⟩;exact ⟨v.1,by have:=v.2; omega⟩
 split
 ·unfold C5;split
  ·rename_i d
   obtain ⟨j,t,e,a,_,_,l⟩:=T6 d;have m:=h.size j t a;have:=XfF (s:=s) (Yy s u.own).plc u.a.toNat u.b.toNat h.may (by omega) ⟨ht.1,by omega⟩;omega
  ·omega
 split
 ·unfold Dr;split
  ·rename_i d
   obtain ⟨j,t,e,a,_,_,l⟩:=T6 d;have m:=h.size j t a;have b:=Ny (s:=s) h.may (Yy s u.own) u.a.toNat u.bs ⟨ht.1,by omega⟩ (by omega);have f:=XfH (s:=Z4 c s (Yy s u.own) u.a.toNat u.bs) u.own u.a.toNat u.bs.length (by omega) ⟨b.1,by omega⟩;omega
  ·omega
 split
 ·have k:s.mv.length<=16:=by have:=h.ml; have:=(Ye h.may).n; omega
  have:=Xbl h ⟨ht.1,by omega⟩ s.mv.length k;unfold De;omega
 ·unfold Dp;split
  ·show 0<=s.rm.tot/\s.rm.tot<=_
   omega
  ·omega
end
theorem Xj.or {A:Nat->Prop} (h1:Xj A a) (h2:Xj B a) (h:∀ z,C z->A z\/B z):Xj C a:=fun b off s e c=>(h b c).elim (h1 b off s e) (h2 b off s e)
theorem Z0.or {A B C:Nat->Prop} {r:RS} (h1:Z0 A r) (h2:Z0 B r) (h:∀ z,C z->A z\/B z):Z0 C r:=⟨h1.o.or h2.o h,h1.f.or h2.f h,h1.nums.or h2.nums h,h1.opn.or h2.opn h,h1.pa.or h2.pa h,fun l a=>(h1.each l a).or (h2.each l a) h⟩
theorem Bq.or {A B C:Nat->Prop} {r:RR} (h1:Bq A r) (h2:Bq B r) (h:∀ z,C z->A z\/B z):Bq C r:=⟨h1.o.or h2.o h,h1.f.or h2.f h,h1.sa.or h2.sa h,fun s a=>(h1.each s a).or (h2.each s a) h,h1.la.or h2.la h,fun q b=>(h1.lgo q b).or (h2.lgo q b) h⟩
theorem Ad.or {A B C:Nat->Prop} {r:SR} (h1:Ad A r) (h2:Ad B r) (h:∀ z,C z->A z\/B z):Ad C r:=⟨h1.k.or h2.k h,h1.ra.or h2.ra h,h1.rr.or h2.rr h,h1.ta.or h2.ta h,fun t a=>(h1.tq t a).or (h2.tq t a) h,h1.ma.or h2.ma h⟩
structure Bs (c:Conf) (p:Y4) (n0:Nat) (w0 w:World) (F:Nat->Prop) (s:StM) (r:SR) (xb:Nat):Prop where
 sr:X2 w r s
 rc:r.c=c/\r.cp=p
 out:Ad F r
 xr:Ad (fun z=>z=xb) r
 box:X6 w xb r
 xo:n0<=xb/\w0.heap.size<=xb /\ ¬ F xb
section
variable {c:Conf} {p:Y4} {n0:Nat} {w0 w w':World} {F F':Nat->Prop} {S S':Sto} {s s':StM} {r:SR} {xb:Nat}
theorem Bs.grow (h:Bs c p n0 w0 w F s r xb) (hc:Xc Xe w w'):Bs c p n0 w0 w' F s r xb:=⟨h.sr.grow hc,h.rc,h.out,h.xr,hc.heap' h.box,h.xo⟩
theorem Bs.prog (h:Bs c p n0 w0 w F s r xb) (hc:Yp w' c p) (hF:∀ z,F' z->F z\/w.heap.size<=z) (hch:Xc F w w'):Bs c p n0 w0 w' F' s r xb :=
 ⟨h.sr.far h.out (by rw [h.rc.1,h.rc.2]; exact hc) hch,h.rc,h.out.or (h.sr.out fun _ a=>a) hF,h.xr,hch.heap h.box h.xo.2.2,h.xo.1,h.xo.2.1,fun a=>(hF _ a).elim h.xo.2.2 fun g=>by have:=Xg h.box; omega⟩
end
theorem Lv.mbF {c:Conf} {n0:Nat} {w0 w:World} {F:Nat->Prop} {S:Sto} {s:StM} (h:Lv c n0 w0 w F S s):F S.mb:=by obtain ⟨Fr,mo,a⟩:=h.ok; exact a.mb.1
abbrev Xcz (n:Nat) (E:Int) (x:SR × Option Addr × Nat):Value := .tuple #[.agg (Zn x.1).toArray,.slice x.2.1 n x.2.2,.int .i64 E]
abbrev R2 (w:World) (r:SR) (s':StM) (bs:List Int) (x:SR × Option Addr × Nat) (w2:World):Prop:=X2 w2 x.1 s'/\Zp w r x.1/\Xc Xe w w2/\Rd .u8 w2 x.2.1 bs /\ ∀ b off s',x.2.1=some ⟨b,off,s'⟩->w.heap.size<=b
abbrev XcA (x:SR × Option Addr × Nat) (b:Nat):Prop:=Ad (fun z=>z=b) x.1/\Xj (fun z=>z=b) x.2.1
theorem Xhe {w:World} {r:SR} {s':StM}:∀ x w2 w3,R2 w r s' bs x w2->Xc Xe w2 w3->R2 w r s' bs x w3:=fun _ _ _ ⟨a,b,c,d,e⟩ f=>⟨a.grow f,b,c.trans f,d.chg f,e⟩
theorem XjQ {c:Conf} {p:Y4} {n0:Nat} {w0 w:World} {F:Nat->Prop} {s:StM} {r:SR} {xb:Nat} (h:Bs c p n0 w0 w F s r xb) (u:Gr) (hs:s.Ok c) (hu:Ie w u) (ht:0<=s.rm.tot/\s.rm.tot<=999900000000):∀ w',Xc Xe w w'->Xf prog 12 #[.agg (Zn r).toArray,.agg (E4 u).toArray] w' (fun v w2=>Xc Xe w' w2 /\ ∃ x,v=Xcz (Qg c s u).length (Q8 c s u) x/\R2 w r (Y6 c s u) (Qg c s u) x w2 /\ ∀ b,w.heap.size<=b->(b<w'.heap.size\/w2.heap.size<=b)->XcA x b):=fun w' d=>by
 have g:=XjP u (h.sr.grow d) (by rw [h.rc.1]; exact hs) (hu.grow d) ht;rw [h.rc.1] at g;refine g.mono fun v w2 ⟨r',a,cap,e,k,i,f⟩=>⟨f.2.2,(r',a,cap),e,⟨f.1,f.2.1.back d.size,d.trans f.2.2,k,fun b off s' e => ?_⟩,fun b l j=>⟨XaZ h.sr f.1 f.2.1 b l j,fun b' off s' e m => ?_⟩⟩
 ·have:=(i b off s' e).1;have:=d.size;omega
 ·have:=i b' off s' e;omega
theorem XhX {w:World} {r:SR} {s:StM} {c:Conf} (h:X2 w r s) (hs:s.OkP c pd) (k:Int) (hk : -9223372036854775808<=k/\k<=9223372036854775807):Xf prog 23 #[.agg (Zn r).toArray,.int .i64 k] w (Grow (.int .i64 (Yg s.rm k:Nat)) w):=by
 have g:=h.rr.n;have p:=h.rr.few;refine Xf.enter func23 rfl ntmps23 rfl rfl ?_;refine ζa rfl ?_;refine Xa.alloc Xb rfl ?_;intro b q e1 d a u;refine ζa rfl ?_;replace d:X6 q b r:=d;have m:=h.grow a;by_cases l:k<0
 ·have e:Yg s.rm k=0:=by unfold Yg; rw [Nm l]
  rw [e];refine Xa.yes Xb rfl (decide_eq_true l) rfl ?_;exact Xa.ret1 Xb rfl func23 rfl rfl ⟨rfl,a⟩
 ·refine Xa.no Xb rfl (decide_eq_false l) rfl ?_;refine Xa.loadb Xb rfl d rfl rfl ?_;by_cases n:(r.rr.ss.length:Int)<=k
  ·have e:Yg s.rm k=0:=by unfold Yg; rw [Nn (.inr (by rw [show (Yl s.rm).shs=s.rm.shs from rfl] at g; omega))]
   rw [e];refine Xa.yes Xb rfl (decide_eq_true n) rfl ?_;exact Xa.ret1 Xb rfl func23 rfl rfl ⟨rfl,a⟩
  ·obtain ⟨j,rfl⟩:=XD (show 0<=k by omega);have o:j<r.rr.ss.length:=by omega
   have i:j<s.rm.shs.length:=by rw [show (Yl s.rm).shs=s.rm.shs from rfl] at g; omega
   obtain ⟨pk,t,_⟩:=m.rr.each j _ _ (XB o) (XB i);have eO:Yg s.rm (j:Nat)=r.rr.ss[j].opn.x.length:=by
    unfold Yg;rw [Ll i];show s.rm.shs[j].opn.length=_
    rw [t.e5,XM]
   obtain ⟨ab,aoff,ea,f⟩:=m.rr.sr.at o;refine Xa.no Xb rfl (decide_eq_false n) rfl ?_;refine Xa.loadb Xb rfl d rfl rfl ?_;rw [ea];refine Xa.index Xb rfl (j:=(j*7)) (by omega) (by omega) (by first | rfl | omega | (simp; done) | (simp; omega)) rfl ?_;refine ζk rfl (f 6 _ rfl) rfl ?_;rw [eO];exact Xa.ret1 Xb rfl func23 rfl rfl ⟨rfl,a⟩
theorem Xc7 {c:Conf} {n0:Nat} {w0 w:World} {F:Nat->Prop} {S:Sto} {s:StM} {r:SR} (h:Lv c n0 w0 w F S s) (hr:X2 w r s):Xf prog 14 #[Zk S,.agg (Zn r).toArray] w (Grow (.bool true) w):=by
 have f:=h.inv;have z:s.mv.length<=16:=by have:=f.ml; have:=(Ye f.may).n; omega
 have A:=hr.mn;refine Xf.enter func14 rfl ntmps14 rfl rfl ?_;refine ζa rfl ?_;refine Xa.alloc Xb rfl ?_;intro b p e1 o t B;refine ζa rfl ?_;replace o:X6 p b r:=o;refine Xa.loop (α:=Nat) (fun i => [(0,false,Zk S),(3,false,.pointer (some ⟨b,0,none⟩)),(5,false,.int .i64 ((i:Int) - 1))])
  (fun i w'=>i<=s.mv.length+2/\Xc Xe p w') (fun i=>s.mv.length+2 - i) 0 ⟨rfl,rfl,rfl,trivial⟩ ⟨XL _,Xc.refl _ _⟩ ?_
 rintro i E ⟨G,k⟩ ih;have e:=k.heap' o;have j:=t.trans k;have l:=h.grow j;have m:=hr.grow j;refine ζa rfl ?_;refine Xa.loadb Xb rfl e rfl rfl ?_;by_cases C:i<s.mv.length+2
 ·refine Xa.yes Xb rfl (decide_eq_true (show (i:Int) - 1<=(r.ms.length:Nat) by omega)) rfl ?_;refine Xa.drawn (q:=13) Xe Xb Xo (by kernel_rfl) rfl ?_;intro a;refine Xd.call Xb a rfl (fun w' d=>(Wx (l.grow d) ((i:Int) - 1))) rfl ?_;refine Xd.loads Xb a rfl e (by first | exact fun h=>h | (intro h; omega) | assumption) rfl rfl ?_;refine Xd.call Xb a rfl (fun w' d=>(XjT (m.grow d) f ((i:Int) - 1))) rfl ?_;refine Xd.no Xb a rfl (bne_self_eq_false _) rfl ?_;refine Xd.call Xb a rfl (fun w' d=>(Xdr (l.grow d) ((i:Int) - 1))) rfl ?_;refine Xd.loads Xb a rfl e (by first | exact fun h=>h | (intro h; omega) | assumption) rfl rfl ?_;refine Xd.nil a ?_;intro x g;refine ζa rfl ?_;refine ζc rfl ((XhX (m.grow g) f ((i:Int) - 1) (by omega))) ?_;rintro _ y ⟨rfl,n⟩;refine ζa rfl ?_;refine Xa.no Xb rfl (bne_self_eq_false _) rfl ?_;refine Xa.arith Xb rfl (w64 (by omega)) rfl ?_;exact ih (i+1) _ _ ⟨by omega,(k.trans g).trans n⟩ (by omega) ⟨rfl,rfl,by rw [show ((i+1:Nat):Int) - 1=(i:Int) - 1+1 by omega]; rfl,trivial⟩
 ·refine Xa.no Xb rfl (decide_eq_false (show ¬ (i:Int) - 1<=(r.ms.length:Nat) by omega)) rfl ?_;have D:=f.rm.mok.good.len.2;have v:Zh s.rm.pl<=1024:=by have:=f.rm.mok.good.many; have:Zh s.rm.pl=Xv s.rm.pl.own:=rfl; omega
  have u:((r.rr.p.o.x.length:Int) - r.rr.p.f.x.length)=(Zh s.rm.pl:Nat):=by
   have H:r.rr.p.o.x.length=s.rm.pl.own.length:=by rw [hr.rr.p.eo]
   have l:r.rr.p.f.x.length=s.rm.pl.free.length:=by rw [hr.rr.p.ef,XM]
   have I:=f.rm.mok.good.many;have J:Zh s.rm.pl=Xv s.rm.pl.own:=rfl;omega
  refine Xa.drawn (q:=18) Xe Xb Xo (by kernel_rfl) rfl ?_;intro a;refine Xd.call Xb a rfl (fun w' d=>(Xdp (l.grow d))) rfl ?_;refine Xd.loadb Xb a rfl e (by first | exact fun h=>h | (intro h; omega) | assumption) rfl rfl ?_;refine Xd.loadb Xb a rfl e (by first | exact fun h=>h | (intro h; omega) | assumption) rfl rfl ?_;refine Xd.arith Xb a rfl (w64 (by omega)) rfl ?_;rw [u];refine Xd.yes Xb a rfl (beq_self_eq_true _) rfl ?_;refine Xd.call Xb a rfl (fun w' d=>(Xdo (l.grow d))) rfl ?_;refine Xd.loads Xb a rfl e (by first | exact fun h=>h | (intro h; omega) | assumption) rfl rfl ?_;refine Xd.nil a ?_;intro x g;refine ζa rfl ?_;refine ζc rfl ((XjO (m.grow g) f)) ?_;rintro _ y ⟨rfl,n⟩;refine ζa rfl ?_;exact Xa.ret1 Xb rfl func14 rfl rfl ⟨congrArg Value.bool (beq_self_eq_true _),(j.trans g).trans n⟩
theorem law_StoreActs (c:Conf) (p:Y4) (sa:Option Addr) (sc:Nat) (xs:List Gr) (w:World) (ht:Az w) (hc:Yp w c p) (hrs:Rows E4 5 w sa xs) (hl:xs.length<=9223372036854775807) (hxs:∀ x ∈ xs,Ie w x):Xf prog 3 #[.agg (Zl c p).toArray,.slice sa xs.length sc] w (Grow (.bool true) w):=by
 refine Xf.enter func3 rfl ntmps3 rfl rfl ?_;refine ζa rfl ?_;refine Xa.alloc Xb rfl ?_;intro cb w1 e1 a0 ag cj;refine ζa rfl ?_;replace a0:w1.heap[cb]? = some (.cells (Zl c p).toArray 24 (0,0)):=a0;refine ζc rfl (XhU w1 (ht.grow ag)) ?_;rintro _ w2 ⟨rfl,ah⟩;refine ζa rfl ?_;have a2:=ag.trans ah;have a3:=ah.heap' a0;refine Xa.loads Xb rfl a3 rfl rfl ?_;refine ζc rfl (Xjg c p w2 (hc.chg a2)) ?_;rintro _ H ⟨rfl,ai⟩;refine ζa rfl ?_;have d:=a2.trans ai;have aw:=ai.heap' a3;cases hf:Ol c with
 |false =>
  refine Xa.yes Xb rfl rfl rfl ?_;exact Xa.ret1 Xb rfl func3 rfl rfl ⟨rfl,d⟩
 |true =>
 obtain ⟨hm,ck,cl⟩:=Xhl hf;have aj:=Ye hm;refine Xa.no Xb rfl rfl rfl ?_;refine ζc rfl (XjR sa sc xs H (hrs.chg d) hl) ?_;rintro _ w4 ⟨b0,rfl,bj,rfl⟩;refine ζa rfl ?_;refine Xa.fork Xb rfl rfl rfl (fun g0 => ?_) (fun g0 => ?_)
 ·exact Xa.ret1 Xb rfl func3 rfl rfl ⟨rfl,d⟩
 obtain ⟨c1,bx⟩:=bj (by simpa using g0);have ak:Yf w p.ka:=fun b off s e=>hc.keep.block (by have:=aj.keep; have:=aj.n; omega) e;have P:=hc.chg d;refine Xa.loads Xb rfl aw rfl rfl ?_;refine ζc rfl (XhV c p H (hc.chg d) (ht.grow d) hm (by omega) (ak.grow d.size)) ?_;rintro _ w5 ⟨F,S,r,V,rfl,cm,h5,ax,al,bl,ay⟩;refine ζa rfl ?_;refine Xa.alloc Xb rfl ?_;intro xb w6 e6 am bm cn;refine ζa rfl ?_;have c3:=Yb am;refine Xa.store Xb rfl am rfl rfl ?_;intro w7 L bn co;refine ζa rfl ?_;replace L:X6 w7 xb r:=L;have a4:Xc Xe w5 w7:=bm.since bn (fun z g e=>by omega);have h7:=h5.grow a4;have cp:=h5.chg.size;have b1:Bs c p V H w7 F (Cn c) r xb:=⟨al.grow a4,bl,ay F (fun z g => .inr g) (fun b off s e g=>by have:=h5.base b g; have:=ak b off s e; have:=d.size; omega),(al.out fun z e=>by omega),L,by omega,by omega,fun g=>by have:=h5.low _ g; omega⟩;refine Xa.loop (α:=Nat) (fun k => [(1,false,.slice sa xs.length sc),(5,false,.bool true),(6,false,Zk S),(7,false,.pointer (some ⟨xb,0,none⟩)),(8,false,.int .i64 k)])
  (fun k w'=>k<=xs.length /\ ∃ F S1 s r,Zk S1=Zk S/\Lv c V H w' F S1 s/\Bs c p V H w' F s r xb/\S1.R.lap=s.rm.tot/\0<=s.rm.tot/\s.rm.tot<=k*1000000000) (fun k=>xs.length - k) 0 ⟨rfl,rfl,rfl,rfl,rfl,trivial⟩ ⟨XL _,F,S,Cn c,r,rfl,h7,b1,ax,YL _,YL _⟩ ?_
 rintro k w9 ⟨hk,F9,n,l,r9,a5,M,Q,b3,bo,c8⟩ ih;have an:=M.inv;have N:=d.trans M.chg;rw [<- a5];refine ζa rfl ?_;refine Xa.fork Xb rfl rfl rfl (fun g1 => ?_) (fun g1 => ?_)
 ·have g1:=of_decide_eq_true g1;have ao:k<xs.length:=by omega
  obtain ⟨ab,aoff,rfl,R⟩:=hrs.at ao;have hu:=hxs xs[k] (XJ ao);have a6:∀ i v,(E4 xs[k])[i]? = some v->w9.cell? ⟨ab,aoff+k*5+i,none⟩=some v:=fun i v hv=>N.cell (R i v hv) id;refine Xa.index Xb rfl (j:=(k*5)) (by omega) (by omega) (by first | rfl | omega | (simp; done) | (simp; omega)) rfl ?_;refine Xa.loadC Xb ((E4 xs[k])) rfl (by first | rfl | (simp; done) | (simp [*]; done) | (simp; omega)) (a6) rfl ?_;have ae:0<xs[k].bs.length->Xj F9 xs[k].ba:=fun hp b off s e g=>by
   have:=hu.rd.block hp e;have:=M.base _ g;have:=d.size;omega
  refine ζc rfl (XhW M xs[k] (hu.grow N) ae) ?_;rintro _ I ⟨bp,bz,rfl,b7,a7,T,o,b8,a8⟩;refine ζa rfl ?_;have U:=d.trans o.chg;have a:=Q.prog (P.chg o.chg) b8 a8;have W:∀ i v,(E4 xs[k])[i]? = some v->I.cell? ⟨ab,aoff+k*5+i,none⟩=some v:=fun i v hv=>U.cell (R i v hv) id;have cq:=XlC (u:=xs[k]) an ⟨bo,by omega⟩;refine Xa.loadb Xb rfl a.box rfl rfl ?_;rw [a.sr.rs];refine Xa.drawn (q:=13) Xe Xb Xo (by kernel_rfl) rfl ?_;intro f;refine Xd.loads Xb f rfl a.box (by first | exact fun h=>h | (intro h; omega) | assumption) rfl rfl ?_;refine Xd.index Xb f rfl (j:=(k*5)) (by omega) (by omega) (by first | rfl | omega | (simp; done) | (simp; omega)) rfl ?_;refine Xd.loadC Xb f ((E4 xs[k])) rfl (by first | rfl | (simp; done) | (simp [*]; done) | (simp; omega)) (W) (by first | exact fun h=>h | (intro h; omega) | assumption) rfl ?_;have hd:=XjQ a xs[k] an (hu.grow U) (by omega);refine Xd.callAllocG (Xcz (Qg c l xs[k]).length (Q8 c l xs[k])) (R2 I r9 (Y6 c l xs[k]) (Qg c l xs[k])) (XcA) Xb f rfl rfl rfl (fun _=>rfl) rfl (fun _=>rfl) (fun _=>rfl) rfl rfl (fun _ _=>rfl) rfl (fun _ _=>rfl) (hd) (Xhe) ((fun _ h=>h.elim)) ?_;rintro nb x cr cs bq b9 ⟨q1,J,q3,q4,q5⟩ hG;refine Xd.turn1 f rfl ?_;intro bt y;refine Xq.store Xb f rfl (y.heap' bq) (by first | (intro h; exact rfl) | (intro h; omega)) rfl rfl rfl ?_;intro ap A B ce;refine Xd.nil f ?_;intro bu C;refine ζa rfl ?_;replace A:X6 ap nb x.1:=A;have ct:=o.chg.size;have lxb:=Xg a.box;have K:Xc Xe I bt:=b9.trans y;have m:Xc Xe I bu:=(K.since B (fun z g e=>by omega)).trans C;have af:Yp ap x.1.c x.1.cp:=by
   rw [J.1,J.2.1,a.rc.1,a.rc.2];exact P.chg (o.chg.trans (K.since B (fun z g e=>by omega)))
  have ba:=((q1.grow y).far hG.1 af B).grow C;refine Xa.loads Xb rfl (C.heap' A) rfl rfl ?_;refine Xa.store Xb rfl (m.heap' a.box) rfl rfl ?_;intro t D E cf;refine ζa rfl ?_;replace D:X6 t xb x.1:=D;have aq:Ad (fun z=>z=xb) x.1:=J.2.2 _ (fun z e=>by omega) a.xr;have bb:=o.grow m;have O:Lv c V H t T n (Y6 c l xs[k]):=bb.box a.xo.1 a.xo.2.2 (Yb (m.heap' a.box)) (by decide) E a.xo.2.1;have G:Bs c p V H t T (Y6 c l xs[k]) x.1 xb:=⟨ba.far aq (by have:=P.chg O.chg; rw [J.1,J.2.1,a.rc.1,a.rc.2]; exact this) E,⟨J.1.trans a.rc.1,J.2.1.trans a.rc.2⟩,J.2.2 _ (fun z g=>o.low z g) a.out,aq,D,a.xo⟩;have ar:=O.mbF;have cu:¬ xb=n.mb:=fun e=>a.xo.2.2 (e▸ar);have lmb:=M.mbF;have cg:=M.low _ lmb;have ch:=a8.size;have bc:Rd .u8 t bp (Qg c l xs[k]):=(b7.chg m).far (fun b off s' e g=>by have:=a7 b off s' e; have:=Xg Q.box; omega) E;have bd:Rd .u8 t x.2.1 (Qg c l xs[k]):=(((q4.chg y).far hG.2 B).chg C).far (fun b off s' e g=>by have:=q5 b off s' e; omega) E;refine Xa.drawn (q:=23) (fun z=>z=n.mb) Xb Xo (by kernel_rfl) rfl ?_;intro f;refine Xd.bstrN Xb f ((Qg c l xs[k])) rfl rfl (⟨bc,fun b off s' e g=>by have:=a7 b off s' e; omega⟩) rfl ?_;refine Xd.bstrN Xb f ((Qg c l xs[k])) rfl rfl (⟨bd,fun b off s' e g=>by have:=q5 b off s' e; omega⟩) rfl ?_;refine Xd.streq Xb f rfl (rfl) rfl ?_;refine Xd.no Xb f rfl rfl rfl ?_;refine Xd.no Xb f rfl (bne_self_eq_false _) rfl ?_;have bv:∀ w',Xc Xe t w'->Xf prog 13 #[Zk n] w' (fun v w2=>Xc (fun z=>z=n.mb) w' w2/\v = .int .i64 ((Y6 c l xs[k]).rm.tot - n.R.lap)/\Lv c V H w2 T (n.relap (Y6 c l xs[k]).rm.tot) (Y6 c l xs[k])):=fun w' bw=>(Xdt (O.grow bw)).mono fun v w2 ⟨e,h2,hc,_⟩=>⟨hc,e,h2⟩;refine Xd.loadb Xb f rfl G.box (by first | exact fun h=>h | (intro h; omega) | assumption) rfl rfl ?_;rw [G.sr.rs];refine Xd.arith Xb f rfl (w64 (by omega)) rfl ?_;refine Xd.callQ f rfl rfl (bv) ?_;rintro _ cv be ⟨rfl,au⟩;refine Xd.adv Xb f rfl ?_;rw [b3];refine Xd.no Xb f rfl (bne_self_eq_false _) rfl ?_;have bf:=G.prog (P.chg au.chg) (fun z g => .inl g) (be.mono fun z _ e=>e▸ar);refine Xd.loads Xb f rfl G.box (by first | exact fun h=>h | (intro h; omega) | assumption) rfl rfl ?_;refine Xd.nil f ?_;intro cw a9;refine ζa rfl ?_;have av:=au.grow a9;have aa:=bf.grow a9;rw [show Zk n=Zk (n.relap (Y6 c l xs[k]).rm.tot) from rfl];refine ζc rfl (Xc7 av aa.sr) ?_;rintro _ cx ⟨rfl,ac⟩;refine ζa rfl ?_;refine Xa.no Xb rfl rfl rfl ?_;refine Xa.arith Xb rfl (w64 (by omega)) rfl ?_;exact ih (k+1) _ _ ⟨by omega,T,n.relap (Y6 c l xs[k]).rm.tot,Y6 c l xs[k],x.1,a5,av.grow ac,aa.grow ac,rfl,by omega,by omega⟩ (by omega) ⟨rfl,rfl,by rw [<- a5]; rfl,rfl,rfl,trivial⟩
 ·refine Xa.yes Xb rfl rfl rfl ?_;refine Xa.loads Xb rfl Q.box rfl rfl ?_;refine ζc rfl (Xc7 M Q.sr) ?_;rintro _ I ⟨rfl,bg⟩;refine ζa rfl ?_;exact Xa.ret1 Xb rfl func3 rfl rfl ⟨rfl,N.trans bg⟩
end Go.Proofs.YtohjeeapehmkcaaGreatDoor
