/-
  Texts put together: Plain21b, Plain21c, Sto2, Sto3, Sto4, Sto5, Sto6, Sto7, Sto8, StBy, Sto9, Sto10, Sto11, Sto12, Sto13, Sto14, Sto15, Ref20j, Sr0, Sr1, Sr2, Sr3, Sr4, Sr5, Sr6, Sr7, Sr8, Sr9, Sr10, Sr11, Sr12, Sr13, Sr14, Xaa, Sr15, Laws22, Tb, Tb0, Tb1, Szs, Hp0, Flt, Hp1, Hp2, Hp3.
-/
import Derived.Test.YtgddpaiandefgaaGreatDoorPt3
import Derived.Test.YtgddpaiandefgaaGreatDoorQRule18
import Derived.Test.YtgddpaiandefgaaGreatDoorQRule22
import Derived.Test.YtgddpaiandefgaaGreatDoorQRule23
import Derived.Test.YtgddpaiandefgaaGreatDoorQRule21
import Derived.Test.YtgddpaiandefgaaGreatDoorQRule24
import Derived.Test.YtgddpaiandefgaaGreatDoorQRule9
set_option linter.unusedVariables false
set_option maxRecDepth 100000
namespace Go.Proofs.YtgddpaiandefgaaGreatDoor
open Go.RowKit
theorem Xro {sz:Nat} (hp:1≤sz):∀ (n at' k:Nat) (h:k<(Xrj at' n sz).length),(Xrj at' n sz)[k].1*sz+(Xrj at' n sz)[k].2.1=at'+(((Xrj at' n sz).take k).map fun s=>s.2.2).sum:=by
 intro n
 induction n using Nat.strongRecOn with
 |_ n ih =>
  intro at' k h;by_cases b:n=0
  ·subst b; simp [Xrm] at h
  ·have c:=Xg8 (at':=at') hp (show 0<n by omega);have e:=Nat.div_add_mod at' sz;have a:=Xrk (at':=at') hp (show 0<n by omega);cases k with
   |zero =>
    simp only [a,List.getElem_cons_zero,List.take_zero,List.map_nil,List.sum_nil];unfold Xg7;simp only
    rw [Nat.mul_comm]; omega
   |succ k =>
    have d:k<(Xrj (at'+min n (sz - at' % sz)) (n - min n (sz - at' % sz)) sz).length:=by rw [a] at h; simpa using h
    have:=ih _ (by omega) _ k d;simp only [a,List.getElem_cons_succ,List.take_succ_cons,List.map_cons,List.sum_cons];rw [this];unfold Xg7;simp only
    omega
theorem XlY {c:Conf} {q:Plc} {at' n k i m:Nat} (hm:XjN c=true) (hk:k<(Xl1 c q at' n).length) (hp:(Xl1 c q at' n)[k]=((i:Int),(m:Int))) :
 ∀ j,j<m→Xug c q (at'+(Xtr ((Xl1 c q at' n).take k)+j))=(i:Int)+j:=by
 obtain ⟨y,z,B⟩:=XjP hm;intro j C;by_cases b:q.cls = -1
 ·obtain ⟨sz,h⟩:=Int.eq_ofNat_of_zero_le (show 0≤c.size by omega);have a:Xl1 c q at' n=(Xrj at' n sz).map fun s=>(q.pages.getD s.1 0*c.size+s.2.1,(s.2.2:Int)):=by unfold Xl1; rw [if_pos b,show c.size.toNat=sz from by omega]
  have g:k<(Xrj at' n sz).length:=by rw [a,List.length_map] at hk; exact hk
  have e:=Xro (sz:=sz) (by omega) n at' k g;obtain ⟨l,o,p,x⟩:=Xrg (page:=sz) (by omega) n at' _ (List.getElem_mem g);have r:Xtr ((Xl1 c q at' n).take k)=(((Xrj at' n sz).take k).map fun s=>s.2.2).sum:=by
   unfold Xtr;rw [a,← List.map_take,List.map_map];rfl
  have t:(q.pages.getD (Xrj at' n sz)[k].1 0*c.size+((Xrj at' n sz)[k].2.1:Int),((Xrj at' n sz)[k].2.2:Int))=((i:Int),(m:Int)):=by
   rw [← hp]; simp only [a,List.getElem_map]
  obtain ⟨e1,e2⟩:=Prod.mk.inj t;rw [r,← Nat.add_assoc,← e];obtain ⟨s,u⟩:∃ s,s=(Xrj at' n sz)[k]:=⟨_,rfl⟩;rw [← u] at e1 e2 l o p ⊢
  clear u e x
  obtain ⟨N,A,L⟩:=s;simp only at e1 e2 l o p ⊢
  have d:(N*sz+A) % sz=A:=by rw [Nat.mul_comm,Nat.mul_add_mod]; exact Nat.mod_eq_of_lt (by omega)
  have f:(N*sz+A) / sz=N:=by rw [Nat.mul_comm,Nat.mul_add_div (by omega),Nat.div_eq_of_lt (by omega)]; rfl
  rw [Xuj b h (by rw [d]; omega),d,f];omega
 ·have a:Xl1 c q at' n = [(XtM c q+at',(n:Int))]:=by unfold Xl1; rw [if_neg b]
  have v:k=0:=by rw [a] at hk; simpa using hk
  subst v;have w:(XtM c q+(at':Int),(n:Int))=((i:Int),(m:Int)):=by rw [← hp]; simp only [a]; rfl
  obtain ⟨e1,e2⟩:=Prod.mk.inj w;unfold Xug;rw [if_neg b];simp only [List.take_zero,Xtr,List.map_nil,List.sum_nil];omega
theorem Xiy {c:Conf} {q:Plc} {bs l:List Int} {at' off i m:Nat} (him:i+m≤bs.length) (hol:off+m≤l.length) (hw:∀ j,j<m→Xug c q (at'+(off+j))=(i:Int)+j) :
 ∀ j,j≤m→Xir c q bs at' l (off+j)=XlR (Xir c q bs at' l off) i (sub l off m) j
 |0,_=>by rw [XlW]; rfl
 |j+1,h=>by
  have a:(sub l off m).length=m:=Xsy hol;have ih:=Xiy him hol hw j (by omega);have b:(sub l off m).getD j 0=l.getD (off+j) 0:=by
   rw [Xsz hol,List.getD_eq_getElem?_getD,List.getElem?_map,List.getElem?_range (by omega)]; rfl
  rw [← XlV (by rw [a,Xit]; exact him) (by rw [a]; omega),b,← ih];show (Xir c q bs at' l (off+j)).set (Xug c q (at'+(off+j))).toNat (l.getD (off+j) 0)=_
  rw [hw j (by omega)];rfl
theorem XuG {c:Conf} {q:Plc} {A:Ar} {V:ArV} {at':Nat} {l:List Int} (hm:XjN c=true) (hck:Xer c q at' l.length=0) (hfew:q.pages.length≤4096) (hlen:(V.bs.length:Int)=c.size*c.pages) :
 ∀ k,k≤(Xl1 c q at' l.length).length→(vsW q A V (Xl1 c q at' l.length) l k).bs=Xir c q V.bs at' l (Xtr ((Xl1 c q at' l.length).take k))
 |0,_=>rfl
 |k+1,h=>by
  have a:k<(Xl1 c q at' l.length).length:=h;obtain ⟨i,m,b,n⟩:=Xl3 hm hck hfew _ (List.getElem_mem a);have ih:=XuG (A:=A) hm hck hfew hlen k (by omega);have j:Xtr (Xl1 c q at' l.length)=l.length:=Xl5 hm;have d:=Xtv a;rw [b] at d;simp only [Int.toNat_natCast] at d;have f:Xtr ((Xl1 c q at' l.length).take (k+1))=Xtr ((Xl1 c q at' l.length).take k)+m:=by
   rw [List.take_add_one,List.getElem?_eq_getElem a,b,Xts]; simp [Xtr]
  have g:i+m≤V.bs.length:=by omega
  have e:Xtr ((Xl1 c q at' l.length).take k)+m≤l.length:=by omega
  rw [Xud a b,f,Xiy g e (XlY hm a b) m (Nat.le_refl _)];show wrB _ i (sub l _ m)=_
  rw [ih];have:=XlS (bs:=Xir c q V.bs at' l (Xtr ((Xl1 c q at' l.length).take k))) (l:=sub l (Xtr ((Xl1 c q at' l.length).take k)) m) (i:=i);rw [Xsy e] at this;exact this.symm
theorem XuH {c:Conf} {q:Plc} {A:Ar} {V:ArV} {at':Nat} {l:List Int} (hm:XjN c=true) (hck:Xer c q at' l.length=0) (hfew:q.pages.length≤4096) (hlen:(V.bs.length:Int)=c.size*c.pages) :
 (vsW q A V (Xl1 c q at' l.length) l (Xl1 c q at' l.length).length).bs=Xir c q V.bs at' l l.length:=by
 rw [XuG hm hck hfew hlen _ (Nat.le_refl _),List.take_length,Xl5 hm]
def Xdd (q:Plc) (k:Nat):Int:=if q.cls = -1 then (k:Int) else 0
theorem Xl2 {c:Conf} {q:Plc} {at' n:Nat} (hm:XjN c=true):((Xtr (Xl1 c q at' n):Nat):Int)+Xdd q (Xl1 c q at' n).length=Xeh c q at' n:=by
 rw [Xl5 hm];unfold Xdd Xeh Xl1;by_cases a:q.cls = -1
 ·rw [if_pos a,if_pos a,if_pos a,List.length_map]
 ·rw [if_neg a,if_neg a]
theorem Xep {t a b:Int} (h:0≤t∧t≤4611686018427387904) (ha:0≤a) (hb:0≤b):Xel (Xel t a) b=Xel t (a+b):=by
 unfold Xel;split <;> split <;> split <;> omega
theorem Xem (t:Int):Xel t 0=t:=by unfold Xel; rw [if_pos (by omega)]
theorem Xek {V:ArV} {A:Ar} {b:Nat} {n:Int} (hb:A.mb=some b):(V.charge A n).total=Xel V.total n:=by unfold ArV.charge; rw [hb]
theorem Xey {q:Plc} {V:ArV} {A:Ar} {b:Nat} (hb:A.mb=some b):(Xew q A V).total=Xel V.total (Xdd q 1):=by
 unfold Xew Xdd;split
 ·exact Xek hb
 ·rw [Xem]
theorem Xez {q:Plc} {V:ArV} {A:Ar}:(Xew q A V).lap=V.lap:=by unfold Xew; split; exact V.charge_lap A _; rfl
theorem Xde (q:Plc) (k:Nat):Xdd q (k+1)=Xdd q k+Xdd q 1∧0≤Xdd q k∧0≤Xdd q 1:=by unfold Xdd; split <;> omega
theorem Xtu {ps:List (Int × Int)} {k i m:Nat} (hk:k<ps.length) (hp:ps[k]=((i:Int),(m:Int))):Xtr (ps.take (k+1))=Xtr (ps.take k)+m:=by
 rw [List.take_add_one,List.getElem?_eq_getElem hk,hp,Xts]; simp [Xtr]
theorem Xt9 {q:Plc} {A:Ar} {V:ArV} {ps:List (Int × Int)} {b:Nat} (hb:A.mb=some b) (hps:∀ p ∈ ps,∃ i m:Nat,p=((i:Int),(m:Int))) (hV:0≤V.total∧V.total≤4611686018427387904) :
 ∀ k,k≤ps.length→(vsT q A V ps k).total=Xel V.total (Xtr (ps.take k)+Xdd q k)∧(vsT q A V ps k).lap=V.lap
 |0,_=>by
  have e:((Xtr (ps.take 0):Nat):Int)+Xdd q 0=0:=by unfold Xdd; simp [Xtr]
  rw [e,Xem];exact ⟨rfl,rfl⟩
 |k+1,h=>by
  have a:k<ps.length:=h;obtain ⟨i,m,c⟩:=hps _ (List.getElem_mem a);obtain ⟨d,f⟩:=Xt9 (q:=q) hb hps hV k (by omega);obtain ⟨g,l,j⟩:=Xde q k;rw [Xua a,c];simp only
  rw [ArV.charge_lap,Xez,Xek hb,Xey hb,d,Xep hV (by omega) j,Xep hV (by omega) (by omega),Xtu a c,g];exact ⟨by congr 1; omega,f⟩
theorem Xub {q:Plc} {A:Ar} {V:ArV} {ps:List (Int × Int)} {l:List Int} {b:Nat} (hb:A.mb=some b) (hps:∀ p ∈ ps,∃ i m:Nat,p=((i:Int),(m:Int))) (hV:0≤V.total∧V.total≤4611686018427387904) :
 ∀ k,k≤ps.length→(vsW q A V ps l k).total=Xel V.total (Xtr (ps.take k)+Xdd q k)∧(vsW q A V ps l k).lap=V.lap
 |0,_=>by
  have e:((Xtr (ps.take 0):Nat):Int)+Xdd q 0=0:=by unfold Xdd; simp [Xtr]
  rw [e,Xem];exact ⟨rfl,rfl⟩
 |k+1,h=>by
  have a:k<ps.length:=h;obtain ⟨i,m,c⟩:=hps _ (List.getElem_mem a);obtain ⟨d,f⟩:=Xub (q:=q) (l:=l) hb hps hV k (by omega);obtain ⟨g,n,j⟩:=Xde q k;rw [Xud a c];show ((Xew q A (vsW q A V ps l k)).charge A m).total=_∧((Xew q A (vsW q A V ps l k)).charge A m).lap=_
  rw [ArV.charge_lap,Xez,Xek hb,Xey hb,d,Xep hV (by omega) j,Xep hV (by omega) (by omega),Xtu a c,g];exact ⟨by congr 1; omega,f⟩
theorem ArV.eq {V:ArV} {bs:List Int} {t l:Int} (h1:V.bs=bs) (h2:V.total=t) (h3:V.lap=l):V=⟨bs,t,l⟩:=by cases V; cases h1; cases h2; cases h3; rfl
theorem Xeu {c:Conf} {q:Plc} {i n:Int} (hv:XtQ c q=true) (hi:0≤i) (hn:0≤n) (h:i+n≤XtN c q):Xer c q i n=0:=by
 unfold Xer;rw [if_neg (by rw [hv]; decide),if_neg (by omega)]
section
variable {F Fr:Nat→Prop} {w w':World} {S:Sto} {s:StM} {by':Int} {mo:Mo} {pd:Option (Nat × PlcM)}
theorem Xbz.footF (h:Xbz F Fr w S s by' mo):∀ z,Xgh S.A z→F z:=fun z a=>by
 rcases a with e | e
 ·exact e▸h.f2.2.2.1
 ·rw [h.amb] at e; cases e; exact h.mb.1
theorem Xbz.tot (h:Xbz F Fr w S s by' mo):0≤s.rm.tot∧s.rm.tot≤4611686018427387904:=h.room.ok.tot
theorem Xbz.vwf (h:Xbz F Fr w S s by' mo):¬ Xgh S.A S.v.vb∧(0<S.v.c.classes.length→XaX (Xgh S.A) S.v.p.ca)∧(0<S.v.c.keep.length→XaX (Xgh S.A) S.v.p.ka):=by
 refine ⟨fun b=>h.nF.2.2.1 (h.footF _ b),fun a => ?_,fun a => ?_⟩
 ·rw [h.vc] at a; rw [h.vp]; exact (h.ca.2 a).mono h.footF
 ·rw [h.vc] at a; rw [h.vp]; exact (h.ka.2 a).mono h.footF
theorem Xl4 {c:Conf} {q:Plc} {i n:Nat} (hm:XjN c=true) (hck:Xer c q i n=0) (hfew:q.pages.length≤4096):∀ p ∈ Xl1 c q i n,∃ a b:Nat,p=((a:Int),(b:Int)):=fun p d=>by
 obtain ⟨a,b,e,_⟩:=Xl3 hm hck hfew p d;exact ⟨a,b,e⟩
theorem Xr0 (h:Xbz F Fr w S s by' mo) (hm:XjN S.c=true) (hbl:(s.bs.length:Int)=S.c.size*S.c.pages) (q:Plc) (i:Nat) (a:Option Addr) (cap:Nat) (l:List Int) (hq:Xa4 w q) (hF:XaX F q.pa) (hck:Xer S.c q i l.length=0) (hfew:q.pages.length≤4096) (hr:Rd .u8 w a l) (hlc:l.length≤cap) (hin:InB l) (hout:0<l.length→XaX F a) :
 Xan Tryz.prog 128 #[vwV S.v,.agg (Xm6 q).toArray,.int .i64 i,.slice a l.length cap] w (fun u w'=>u = .int .i64 0∧Xbz F Fr w' S (XrF S.c s (Xm8 q) i l) by' mo∧Chg F w w'):=by
 obtain ⟨f,g,j⟩:=h.vwf;have ec:=h.vc;refine (XtX S.v q i a cap l S.A (arV S s) w h.vw hq (h.vmb.trans h.amb.symm) h.vab (by rw [ec]; exact hck) hfew f (fun _=>hF.mono h.footF) g j h.ar (by rw [ec]; exact hbl) hr hlc hin (fun k=>(hout k).mono h.footF)).mono fun u w' ⟨e,b,c⟩=>⟨e,?_,c.mono fun z _ m=>h.footF z m⟩;rw [ec] at b;obtain ⟨d,o⟩:=Xub (q:=q) (V:=arV S s) (l:=l) h.amb (Xl4 hm hck hfew) h.tot _ (Nat.le_refl _);rw [List.take_length,Xl2 hm] at d;have e1:=ArV.eq (XuH (A:=S.A) (V:=arV S s) hm hck hfew hbl) d o;rw [e1,Xiu,Xei] at b;exact h.arena' (bs:=Xir S.c (Xm8 q).plc s.bs i l l.length) (n:=Xeh S.c (Xm8 q).plc i l.length) c b (Xit _ _ _ _ _ _)
theorem Xu3 (n:Nat):(Xu1 n).length=n:=by unfold Xu1; rw [List.length_replicate]
theorem Xr1 (h:Xbz F Fr w S s by' mo) (hm:XjN S.c=true) (hbl:(s.bs.length:Int)=S.c.size*S.c.pages) (q:Plc) (i n:Nat) (hq:Xa4 w q) (hF:XaX F q.pa) (hck:Xer S.c q i n=0) (hfew:q.pages.length≤4096) :
 Xan Tryz.prog 131 #[vwV S.v,.agg (Xm6 q).toArray,.int .i64 i,.int .i64 n] w (fun u w'=>u = .int .i64 0∧Xbz F Fr w' S (XrF S.c s (Xm8 q) i (Xu1 n)) by' mo∧Chg F w w'):=by
 obtain ⟨g,j,k⟩:=h.vwf;have ec:=h.vc;have a:=Xu3 n;refine (XtZ S.v q i n S.A (arV S s) w h.vw hq (h.vmb.trans h.amb.symm) h.vab (by rw [ec]; exact hck) hfew g (fun _=>hF.mono h.footF) j k h.ar (by rw [ec]; exact hbl)).mono fun u w' ⟨e,b,c⟩=>⟨e,?_,c.mono fun z _ a=>h.footF z a⟩;rw [ec] at b;obtain ⟨d,m⟩:=Xub (q:=q) (V:=arV S s) (l:=Xu1 n) h.amb (Xl4 hm hck hfew) h.tot _ (Nat.le_refl _);rw [List.take_length,Xl2 hm] at d;have f:=XuH (A:=S.A) (V:=arV S s) (l:=Xu1 n) (q:=q) (at':=i) hm (by rw [a]; exact hck) hfew hbl;rw [a] at f;have e1:=ArV.eq f d m;rw [e1,Xiu,Xei] at b;have:=h.arena' (bs:=Xir S.c (Xm8 q).plc s.bs i (Xu1 n) n) (n:=Xeh S.c (Xm8 q).plc i n) c b (Xit _ _ _ _ _ _);unfold XrF;rw [a];exact this
theorem XrZ (h:Xbz F Fr w S s by' mo) (hm:XjN S.c=true) (hbl:(s.bs.length:Int)=S.c.size*S.c.pages) (q:Plc) (i n:Nat) (hq:Xa4 w q) (hF:XaX F q.pa) (hck:Xer S.c q i n=0) (hfew:q.pages.length≤4096) :
 Xan Tryz.prog 126 #[vwV S.v,.agg (Xm6 q).toArray,.int .i64 i,.int .i64 n] w (fun u w' => ∃ u1,u = .tuple #[u1,.int .i64 0]∧Xbz F Fr w' S (XeB s (Xeh S.c (Xm8 q).plc i n)) by' mo∧Chg (Xgh S.A) w w' ∧
  Own w.heap.size 5 1 w' u1 n ((Xto S.c (Xm8 q).plc s.bs i n).map (Value.int .u8))):=by
 obtain ⟨j,k,l⟩:=h.vwf;have ec:=h.vc;have mF:∀ z,XjD S.A z→Xgh S.A z:=fun z a => .inr a;refine (XtV S.v q i n S.A (arV S s) w h.vw hq (h.vmb.trans h.amb.symm) h.vab (by rw [ec]; exact hck) hfew (fun a=>j (mF _ a)) (fun _=>(hF.mono h.footF).mono mF) (fun b=>(k b).mono mF) (fun b=>(l b).mono mF) h.ar (by rw [ec]; exact hbl)).mono fun u w' ⟨u1,e,c,f,d⟩=>⟨u1,e,?_,f.mono fun z _ a=>mF z a,?_⟩
 ·rw [ec] at c;obtain ⟨g,m⟩:=Xt9 (q:=q) (V:=arV S s) h.amb (Xl4 hm hck hfew) h.tot _ (Nat.le_refl _);rw [List.take_length,Xl2 hm] at g;have e1:=ArV.eq (Xt8 q S.A (arV S s) (Xl1 S.c q i n) _) g m;rw [e1,Xei] at c;exact h.arena' (bs:=s.bs) (n:=Xeh S.c (Xm8 q).plc i n) (f.mono fun z _ a=>mF z a) c rfl
 ·rw [ec,XnL hm hck hbl] at d;have e:(Xto S.c q s.bs i n).length=n:=by unfold Xto; rw [List.length_map,List.length_range]
  rw [e,Xtq] at d;exact d
end
theorem XjI {n q:Int} (hn:1≤n) (hq:1≤q):n≤XjG n q*q:=by
 have a:=Int.emod_add_mul_ediv (n - 1) q;have:=Int.emod_lt_of_pos (n - 1) (show 0<q by omega);have e:XjG n q=(n - 1) / q+1:=by unfold XjG; rw [if_neg (by omega)]
 rw [e,Int.add_mul,Int.one_mul,Int.mul_comm ((n - 1) / q) q];omega
section
variable {c:Conf} {s:StM} {pd:Option (Nat × PlcM)}
theorem XiQ:∀ {l:List (Nat × List Nat)} {e:Nat × List Nat},e ∈ l→e.2.length+1≤XiO l
 |a::l,e,h=>by
  have b:XiO (a::l)=(a.2.length+1)+XiO l:=by unfold XiO; simp
  rcases List.mem_cons.1 h with rfl | h
  ·omega
  ·have:=XiQ h; omega
theorem XiS (h:s.OkP c pd) {n:Nat} {r:List Nat} (hm:(n,r) ∈ s.rm.lg):(∀ m ∈ r,(m:Int)<c.pages)∧r.length≤1024:=by
 have f:=h.rm.ok.own;have a:=h.rm.mok.good;refine ⟨fun m b => ?_,?_⟩
 ·have:=(h.rm.ok.lg m (XjV hm (List.mem_cons_of_mem _ b))).1;omega
 ·have d:=XiQ hm;have e:=h.rm.ok.sum;have g:=a.many;have i:=a.len;unfold Xho at e;simp only at d
  omega
theorem Xij (h:s.OkP c pd) {n:Nat} {r:List Nat} {size:Int} (hm:(n,r) ∈ s.rm.lg) (hs:1≤size) (hr:(r.length+1:Int)=Xb7 size c.size):XtQ c (PlcM.mk (-1) (n:Nat) 0 (XkA r)).plc=true∧size≤XtN c (PlcM.mk (-1) (n:Nat) 0 (XkA r)).plc∧(XkA r).length≤4096:=by
 obtain ⟨g,l⟩:=XiS h hm;have i:1≤c.size:=by have:=(XjP h.may).1; omega
 have a:=XjI hs i;have k:1≤XjG size c.size:=by
  have o:0≤(size - 1) / c.size:=Int.ediv_nonneg (by omega) (by omega);unfold XjG;rw [if_neg (by omega)];omega
 have e:(r.length:Int)=XjG size c.size:=by
  unfold Xb7 at hr;split at hr <;> omega
 have j:=XkC r;have b:XtQ c (PlcM.mk (-1) (n:Nat) 0 (XkA r)).plc=true:=by
  unfold XtQ PlcM.plc;show (if (-1:Int) = -1 then (decide (0<(XkA r).length) && !(XkA r).any fun n => !inT n c.pages) else _)=true
  rw [if_pos rfl,Bool.and_eq_true];refine ⟨decide_eq_true (by omega),?_⟩;rw [Bool.not_eq_true',List.any_eq_false];intro x d;unfold XkA at d;obtain ⟨m,f,rfl⟩:=List.mem_map.1 d;have:=g m f;rw [XhP.2 (by omega)]
  decide
 refine ⟨b,?_,by omega⟩;unfold XtN;rw [if_pos b];show size≤if (-1:Int) = -1 then ((XkA r).length:Int)*c.size else _
 rw [if_pos rfl,j,e];exact a
theorem Xrc (h:s.OkP c pd) {k n a:Int} (ho:XoB s.rm k n a ≠ -1):XtQ c (PlcM.mk k n a []).plc=true∧XtN c (PlcM.mk k n a []).plc=XeW c k:=by
 obtain ⟨b,d,_⟩:=XlF h ho;refine ⟨b,?_⟩;unfold XtN;rw [if_pos (show XtQ c (PlcM.mk k n a []).plc=true from b)];show (if k = -1 then _ else XeW c k)=_
 rw [if_neg (by omega)]
theorem XmF {size:Int} {k:Nat} (hp:XmC c.classes size=(k:Nat)):size≤XeW c k:=by
 unfold XeW;rw [Int.toNat_natCast];exact XmG hp
theorem XmX (h:s.OkP c pd) {o:Nat} {t:ThM} (ht:s.th[o]? = some (some t)):XtQ c t.q.plc=true∧t.size≤XtN c t.q.plc∧t.q.pages.length≤4096:=by
 by_cases d:XmC c.classes t.size = -1
 ·obtain ⟨n,r,f,b,g⟩:=h.large o t ht d;rw [b];exact Xij h f (h.size o t ht).1 g
 ·obtain ⟨f,b,g⟩:=h.small o t ht d;obtain ⟨m,p⟩:=XmE d;obtain ⟨k,i⟩:=Int.eq_ofNat_of_zero_le m;obtain ⟨j,l⟩:=Xrc h (k:=t.q.cls) (n:=t.q.page) (a:=t.q.idx) (by rw [g]; omega);have e:t.q=⟨t.q.cls,t.q.page,t.q.idx,[]⟩:=by
   obtain ⟨sz,q,u,v,w⟩:=t;simp only at b
   rw [b]
  rw [← e] at j l;refine ⟨j,?_,by rw [b]; simp⟩;rw [l,f,i];exact XmF i
end
section
variable {F Fr:Nat→Prop} {w w':World} {S:Sto} {s:StM} {by':Int} {mo:Mo} {pd:Option (Nat × PlcM)}
def Xtf (s:StM) (k:Int):Bool:=decide (0≤k) && decide (k<s.mv.length)
theorem OkP.few (hs:s.OkP S.c pd):s.mv.length≤16∧s.keep.length=s.mv.length∧0<s.mv.length:=by
 have hm:=XjT hs.may;have:=hm.n;have:=hs.ml;have:=hs.kl;omega
end
theorem Xss {F Fr:Nat→Prop} {w:World} {S:Sto} {s:StM} {by':Int} {mo:Mo} {pd:Option (Nat × PlcM)} (h:Xbz F Fr w S s by' mo) (hs:s.OkP S.c pd) (k:Int):Xan Tryz.prog 134 #[XrY S,.int .i64 k] w (Xbp (.bool (Xtf s k)) w):=by
 refine ζe Tryz.func134 Tryz.ntmps134 rfl (ζg rfl (fun a => ?_) fun a => ?_)
 ·refine ζl h.obj rfl ?_;have e:Xtf s k=decide (k<s.mv.length):=by unfold Xtf; rw [decide_eq_true (show 0≤k from of_decide_eq_true a)]; rfl
  rw [e];exact ζr Tryz.func134 rfl ⟨rfl,rfl⟩
 ·have e:Xtf s k=false:=by unfold Xtf; rw [decide_eq_false (show ¬ 0≤k from of_decide_eq_false a)]; rfl
  rw [e];exact ζr Tryz.func134 rfl ⟨rfl,rfl⟩
theorem Xkt {s:StM} {k:Int} (h:Xtf s k=false):XrE s k=none:=by
 unfold XrE;split
 ·rename_i a
  unfold Xtf at h;rw [decide_eq_true a,Bool.true_and] at h;have:=of_decide_eq_false h;rw [List.getD_eq_getElem?_getD,List.getElem?_eq_none (by omega)]; rfl
 ·rfl
theorem Xtg {s:StM} {k:Int} (h:Xtf s k=true):∃ j:Nat,k=j∧j<s.mv.length:=by
 unfold Xtf at h;simp only [Bool.and_eq_true,decide_eq_true_eq] at h;exact ⟨k.toNat,by omega,by omega⟩
theorem Xkp {s:StM} {j:Nat} (h:j<s.mv.length):XrE s (j:Nat)=s.mv[j]:=by
 unfold XrE;rw [if_pos (by omega),Int.toNat_natCast,List.getD_eq_getElem?_getD,List.getElem?_eq_getElem h]; rfl
section
variable {F Fr:Nat→Prop} {w w':World} {S:Sto} {s:StM} {by':Int} {mo:Mo} {pd:Option (Nat × PlcM)}
theorem Xbz.mo_at (h:Xbz F Fr w S s by' mo) {j:Nat} (hj:j<s.mv.length):∃ x,mo[j]? = some x∧x.map (·.2)=XrE s (j:Nat):=by
 have b:=h.mol;have a:j<mo.length:=by omega
 refine ⟨mo[j],List.getElem?_eq_getElem a,?_⟩;rw [Xkp hj];have e:=h.mom;unfold Xkb at e;simp only [← e,List.getElem_map]
theorem Xbz.mcell (h:Xbz F Fr w S s by' mo) {j:Nat} {x:Option (Nat × MvM)} (hx:mo[j]? = some x) {i:Nat} (hi:i<6) {v:Value} (hv:(Xkx x)[i]? = some v):w.cell? ⟨S.vb,0+j*6+i,none⟩=some v:=by
 refine (Xd7 h.mvs).trans ?_;rw [Nat.zero_add,List.getElem?_toArray,Xgc Xky hi mo j x hx,hv]
end
theorem Xso {F Fr:Nat→Prop} {w:World} {S:Sto} {s:StM} {by':Int} {mo:Mo} {pd:Option (Nat × PlcM)} (h:Xbz F Fr w S s by' mo) (hs:s.OkP S.c pd) (k:Int):Xan Tryz.prog 93 #[XrY S,.int .i64 k] w (Xbp (.bool (XrE s k).isSome) w):=by
 obtain ⟨f1,_,_⟩:=OkP.few hs;refine ζe Tryz.func93 Tryz.ntmps93 rfl (ζw (Xss h hs k) rfl ?_);cases a:Xtf s k with
 |false =>
  refine ζf rfl ?_;rw [Xkt a];exact ζr Tryz.func93 rfl ⟨rfl,rfl⟩
 |true =>
  obtain ⟨j,rfl,d⟩:=Xtg a;obtain ⟨x,c,e⟩:=h.mo_at d;rw [← e];refine ζy rfl (ζl h.obj rfl (ζi (j*6) rfl ?_));cases x with
  |none =>
   exact ζk rfl (h.mcell c (i:=0) (by decide) rfl) rfl (ζr Tryz.func93 rfl ⟨rfl,rfl⟩)
  |some p =>
   obtain ⟨b,m⟩:=p;exact ζk rfl (h.mcell c (i:=0) (by decide) rfl) rfl (ζr Tryz.func93 rfl ⟨rfl,rfl⟩)
section
variable {F Fr:Nat→Prop} {w w':World} {S:Sto} {s:StM} {by':Int} {mo:Mo} {pd:Option (Nat × PlcM)}
theorem Xbz.mvOk (h:Xbz F Fr w S s by' mo) (hs:s.OkP S.c pd) {j b:Nat} {m:MvM} (hx:mo[j]? = some (some (b,m))):XaT w S.A (arV S s) (Xkl b m) m.gone:=by
 have hm:s.mv[j]? = some (some m):=by rw [← h.mom]; unfold Xkb; rw [List.getElem?_map,hx]; rfl
 obtain ⟨a,c,d,_⟩:=Xks hs hm;have e:=(hs.mv j m hm).2.2.2.2.2.2;exact ⟨h.ar,(h.mob j b m hx).1,d,by show m.gone≤m.size; omega,a,c⟩
end
def XaZ (F:Nat→Prop) (w0:World) (s:StM) (o e:Int) (v:Value):Prop := ∃ q,v = .tuple #[.agg (thL (XrL s o) q).toArray,.int .i64 e]∧Xm8 q=stQ s o∧Xa4 w0 q∧XaX F q.pa∧XaD w0 q.pa
abbrev q0:Plc:=⟨0,0,0,none,0,[]⟩
theorem Xls {F:Nat→Prop} {s:StM} {o e:Int} {w':World} (h:XrO s o=none):XaZ F w' s o e (.tuple #[.agg (thL 0 q0).toArray,.int .i64 e]):=by
 refine ⟨q0,?_,?_,⟨Rd.nil _ _ _,by simp⟩,(fun _ _ _ e=>by cases e),(fun _ _ _ e=>by cases e)⟩
 ·have:XrL s o=0:=by unfold XrL; rw [h]
  rw [this]
 ·unfold stQ; rw [h]; rfl
theorem Xsp {F Fr:Nat→Prop} {w0 w:World} {S:Sto} {s:StM} {by':Int} {mo:Mo} {pd:Option (Nat × PlcM)} (h0:Xbz F Fr w0 S s by' mo) (hw0:Chg XaW w0 w) (hs:s.OkP S.c pd) (o:Int):Xan Tryz.prog 98 #[XrY S,.int .i64 o] w (fun v w'=>XaZ F w0 s o (Xlz s o) v∧Chg XaW w w'):=by
 have a0:=hs.tl;have h:=h0.grow hw0;refine ζe Tryz.func98 Tryz.ntmps98 rfl (ζn rfl fun b w1 e1 y d a1 => ?_);have C:=h.grow d;by_cases g:o<0∨S.c.slots≤o
 ·have l:Xlz s o=1:=by unfold Xlz; rw [if_pos (by omega)]
  have f:XrO s o=none:=by
   unfold XrO;split
   ·rw [List.getD_eq_getElem?_getD,List.getElem?_eq_none (by omega)]; rfl
   ·rfl
  rw [l];refine ζg rfl (fun m => ?_) fun m => ?_
  ·exact ζb rfl (ζs y rfl fun D c a n=>ζR Tryz.func98 c rfl ⟨Xls f,d.since a (fun z p e=>by omega)⟩)
  ·have a2:=of_decide_eq_false m;exact ζl C.obj rfl (ζy rfl (ζb rfl (ζs y rfl fun D c a n=>ζR Tryz.func98 c rfl ⟨Xls f,d.since a (fun z p e=>by omega)⟩)))
 ·obtain ⟨j,rfl⟩:=Int.eq_ofNat_of_zero_le (show 0≤o by omega);refine ζf rfl (ζl C.obj rfl (ζf rfl (ζl C.obj rfl ?_)));obtain ⟨al,E,a3,H,I⟩:=h0.th;have A:=E.chg (hw0.trans d) id;cases k:s.th[j]? with
  |none=>exact absurd k (by rw [List.getElem?_eq_none_iff]; omega)
  |some x =>
   cases x with
   |none =>
    have f:XrO s (j:Nat)=none:=by
     unfold XrO;rw [if_pos (by omega),Int.toNat_natCast,List.getD_eq_getElem?_getD,k]; rfl
    have l:Xlz s (j:Nat)=9:=by unfold Xlz; rw [if_neg (by omega),f]
    have M:Xcc al (j:Nat)=none:=I _ fun N t1 m e=>by
     have:N=j:=by omega
     subst this;rw [k] at m; cases m
    rw [l];exact Xay.lookup hTT rfl (A) ((show Xjf al _ _ true = .tuple #[.agg (thL 0 q0).toArray,.bool false] from by unfold Xjf; rw [M]; rfl)) rfl (ζn rfl fun O D e2 c a n=>ζs c rfl fun P B i J=>ζy rfl (ζb rfl (ζs (i.heap (a.heap' y) (by omega)) rfl fun Q r u K=>ζR Tryz.func98 r rfl ⟨Xls f,((d.trans a).since i (fun z p e=>by omega)).since u (fun z p e=>by omega)⟩)))
   |some t =>
    have f:=Xtd k;have l:Xlz s (j:Nat)=0:=by unfold Xlz; rw [if_neg (by omega),f]
    have L:XrL s (j:Nat)=t.size:=by unfold XrL; rw [f]
    obtain ⟨q,R,T,U,V,W⟩:=H j t k;rw [l];refine Xay.lookup hTT rfl (A) ((show Xjf al _ _ true = .tuple #[.agg (thL t.size q).toArray,.bool true] from by unfold Xjf; rw [T]; rfl)) rfl (ζn rfl fun O D e2 c a n=>ζs c rfl fun P B i J=>ζf rfl (ζl B rfl (ζs (i.heap (a.heap' y) (by omega)) rfl fun Q r u K => ?_)));have G:=((d.trans a).since i (fun z p e=>by omega)).since u (fun z p e=>by omega);exact ζR Tryz.func98 r rfl ⟨⟨q,by rw [L]; rfl,R.trans (XrG k).symm,U,V,W⟩,G⟩
theorem Xst {F Fr:Nat→Prop} {w0 w:World} {S:Sto} {s:StM} {by':Int} {mo:Mo} {pd:Option (Nat × PlcM)} (h:Xbz F Fr w0 S s by' mo) (hw0:Chg XaW w0 w) (hs:s.OkP S.c pd) (o i n:Int) (hi : -9223372036854775808≤i∧i≤9223372036854775807) (hn : -9223372036854775808≤n∧n≤9223372036854775807):Xan Tryz.prog 125 #[XrY S,.int .i64 o,.int .i64 i,.int .i64 n] w (fun v w'=>XaZ F w0 s o (Xun s o i n) v∧Chg XaW w w'):=by
 have R:0≤XrL s o∧XrL s o≤1152921504606846976:=by
  unfold XrL;cases O:XrO s o with
  |none=>simp
  |some t =>
   obtain ⟨j,_,_,P⟩:=Xte O;have:=hs.size j t P;have:=(XjT hs.may).most;simp only
   omega
 refine ζe Tryz.func125 Tryz.ntmps125 rfl (ζn rfl fun b w1 e1 Q p T=>ζc rfl (Xsp h (hw0.trans p) hs o) ?_);rintro _ w2 ⟨⟨q,rfl,A,B,C,D⟩,m⟩;refine ζa rfl ?_;have I:=m.heap' Q;have U:=m.size;refine ζn rfl fun b3 w3 e3 J r V=>ζs J rfl fun w4 k u W => ?_;have l:=u.heap (r.heap' I) (by omega);refine ζg rfl (fun G => ?_) fun G => ?_
 ·have K:Xlz s o=0:=by simpa using G
  by_cases g:i<0∨n<0∨XrL s o<n∨XrL s o - n<i
  ·have e:Xun s o i n=8:=by unfold Xun; rw [if_neg (by omega),if_pos g]
   refine ζg rfl (fun L => ?_) fun L => ?_
   ·have a:=((p.trans m).trans r).since u (fun z x e=>by omega);refine ζl k rfl (ζs l rfl fun E d f y => ?_);have c:=a.since f (fun z x e=>by omega);exact ζR Tryz.func125 d rfl ⟨⟨q,by rw [e]; rfl,A,B,C,D⟩,c⟩
   ·have a0:=of_decide_eq_false L;refine ζg rfl (fun M => ?_) fun M => ?_
    ·have a:=((p.trans m).trans r).since u (fun z x e=>by omega);refine ζl k rfl (ζs l rfl fun E d f y => ?_);have c:=a.since f (fun z x e=>by omega);exact ζR Tryz.func125 d rfl ⟨⟨q,by rw [e]; rfl,A,B,C,D⟩,c⟩
    ·have a1:=of_decide_eq_false M;refine ζl k rfl (ζg rfl (fun N => ?_) fun N => ?_)
     ·have a:=((p.trans m).trans r).since u (fun z x e=>by omega);refine ζl k rfl (ζs l rfl fun E d f y => ?_);have c:=a.since f (fun z x e=>by omega);exact ζR Tryz.func125 d rfl ⟨⟨q,by rw [e]; rfl,A,B,C,D⟩,c⟩
     ·have a2:=of_decide_eq_false N;refine ζl k rfl (ζj rfl (ζy rfl ?_));have a:=((p.trans m).trans r).since u (fun z x e=>by omega);refine ζl k rfl (ζs l rfl fun E d f y => ?_);have c:=a.since f (fun z x e=>by omega);exact ζR Tryz.func125 d rfl ⟨⟨q,by rw [e]; rfl,A,B,C,D⟩,c⟩
  ·have e:Xun s o i n=0:=by unfold Xun; rw [if_neg (by omega),if_neg g]
   refine ζf rfl (ζf rfl (ζl k rfl (ζf rfl (ζl k rfl (ζj rfl (ζf rfl ?_))))));have H:Xlz s o=Xun s o i n:=by rw [K,e]
   have a:=((p.trans m).trans r).since u (fun z x e=>by omega);refine ζl k rfl (ζs l rfl fun E d f y => ?_);have c:=a.since f (fun z x e=>by omega);exact ζR Tryz.func125 d rfl ⟨⟨q,by rw [← H]; rfl,A,B,C,D⟩,c⟩
 ·have e:Xlz s o=Xun s o i n:=by unfold Xun; rw [if_pos (by simpa using G)]
  have a:=((p.trans m).trans r).since u (fun z x e=>by omega);refine ζl k rfl (ζs l rfl fun E d f y => ?_);have c:=a.since f (fun z x e=>by omega);exact ζR Tryz.func125 d rfl ⟨⟨q,by rw [← e]; rfl,A,B,C,D⟩,c⟩
theorem Xsj {S:Sto} (fk:Nat) (caps:List Value) (w:World) (Q:Int→World→Prop) (hf:Xan Tryz.prog fk caps.toArray w (fun v w' => ∃ n:Int,v = .int .i64 n∧Q n w')):Xan Tryz.prog 90 #[XrY S,.func (.func fk) #[] caps.toArray] w (fun v w' => ∃ n:Int,v = .int .i64 n∧Q n w'):=by
 refine ζe Tryz.func90 Tryz.ntmps90 rfl (ζc rfl (hf) ?_);rintro _ b ⟨n,rfl,a⟩;exact ζa rfl (ζr Tryz.func90 rfl ⟨n,rfl,a⟩)
abbrev Xrp (w:World) (b:Nat) (v:Value):Prop:=w.heap[b]? = some (.cells #[v] 82 (0,0))
theorem Xsc {F Fr:Nat→Prop} {w:World} {S:Sto} {s:StM} {by':Int} {mo:Mo} (h:Xbz F Fr w S s by' mo) (b:Nat) (hb:Xrp w b (XrY S)):Xan Tryz.prog 91 [.pointer (some ⟨b,0,none⟩)].toArray w (fun v w' => ∃ n:Int,v = .int .i64 n∧n=(Xho s.rm.pl:Nat)∧w=w'):=by
 exact ζe Tryz.func91 Tryz.ntmps91 rfl (ζk rfl (Xd6 (off:=0) hb rfl) rfl (ζl h.obj rfl (ζw (Xo2 h.room) rfl (ζr Tryz.func91 rfl ⟨_,rfl,rfl,rfl⟩))))
theorem Xsb {F Fr:Nat→Prop} {w:World} {S:Sto} {s:StM} {by':Int} {mo:Mo} (h:Xbz F Fr w S s by' mo):Xan Tryz.prog 41 #[XrY S] w (Grow (.int .i64 (Xho s.rm.pl:Nat)) w):=by
 refine ζe Tryz.func41 Tryz.ntmps41 rfl (ζn rfl fun b d e1 c a e=>ζk rfl (Xd6 (off:=0) c rfl) rfl (ζc rfl (Xsj (S:=S) 91 [.pointer (some ⟨b,0,none⟩)] d _ (Xsc (h.grow a) b c)) ?_));rintro _ f ⟨n,rfl,rfl,rfl⟩;exact ζa rfl (ζr Tryz.func41 rfl ⟨rfl,a⟩)
theorem Xr8 {F Fr:Nat→Prop} {w:World} {S:Sto} {s:StM} {by':Int} {mo:Mo} (h:Xbz F Fr w S s by' mo) (b:Nat) (hb:Xrp w b (XrY S)):Xan Tryz.prog 118 [.pointer (some ⟨b,0,none⟩)].toArray w (fun v w' => ∃ n:Int,v = .int .i64 n∧n=by'∧w=w'):=by
 exact ζe Tryz.func118 Tryz.ntmps118 rfl (ζk rfl (Xd6 (off:=0) hb rfl) rfl (ζl h.obj rfl (ζr Tryz.func118 rfl ⟨_,rfl,rfl,rfl⟩)))
theorem Xr7 {F Fr:Nat→Prop} {w:World} {S:Sto} {s:StM} {by':Int} {mo:Mo} (h:Xbz F Fr w S s by' mo):Xan Tryz.prog 61 #[XrY S] w (Grow (.int .i64 by') w):=by
 refine ζe Tryz.func61 Tryz.ntmps61 rfl (ζn rfl fun b d e1 c a e=>ζk rfl (Xd6 (off:=0) c rfl) rfl (ζc rfl (Xsj (S:=S) 118 [.pointer (some ⟨b,0,none⟩)] d _ (Xr8 (h.grow a) b c)) ?_));rintro _ f ⟨n,rfl,rfl,rfl⟩;exact ζa rfl (ζr Tryz.func61 rfl ⟨rfl,a⟩)
theorem Xr9 {F Fr:Nat→Prop} {w:World} {S:Sto} {s:StM} {by':Int} {mo:Mo} {pd:Option (Nat × PlcM)} (h:Xbz F Fr w S s by' mo) (hs:s.OkP S.c pd) (size:Int):Xan Tryz.prog 43 #[XrY S,.int .i64 size] w (Grow (.int .i64 (Xry S.c s size)) w):=by
 have f:=h.ca.1;have j:S.c.classes.length≤9223372036854775807:=by have:=XjT h.room.may; have:=this.n; rw [h.rc] at this; omega
 refine ζe Tryz.func43 Tryz.ntmps43 rfl (ζg rfl (fun c => ?_) fun c => ?_)
 ·have e:Xry S.c s size=3:=by unfold Xry; rw [if_pos (.inl (of_decide_eq_true c))]
  rw [e];exact ζr Tryz.func43 rfl ⟨rfl,Chg.refl _ _⟩
 ·have k:=of_decide_eq_false c;refine ζl h.obj rfl (ζg rfl (fun d => ?_) fun d => ?_)
  ·have e:Xry S.c s size=3:=by unfold Xry; rw [if_pos (.inr (of_decide_eq_true d))]
   rw [e];exact ζr Tryz.func43 rfl ⟨rfl,Chg.refl _ _⟩
  ·have l:=of_decide_eq_false d;have e:Xry S.c s size=if (XrE s (XmC S.c.classes size)).isSome then 0 else Xoi S.c s.rm size:=by unfold Xry; rw [if_neg (by omega)]
   rw [e];refine ζl h.obj rfl (ζv (XeR S.p.ca S.p.cc S.c.classes size w f j) rfl fun m a => ?_);have b:=h.grow a;refine ζw (Xso b hs (XmC S.c.classes size)) rfl ?_;cases hm:(XrE s (XmC S.c.classes size)).isSome with
   |true =>
    exact ζy rfl (ζr Tryz.func43 rfl ⟨rfl,a⟩)
   |false =>
    refine ζf rfl (ζl b.obj rfl ?_);have g:=Xo0 b.room size;rw [b.rc] at g;exact ζv g rfl fun n i=>ζr Tryz.func43 rfl ⟨rfl,a.trans i⟩
theorem Xm3 (opn keep:Int) (w:World) (ho:0≤opn∧opn≤4611686018427387904) (hk:0≤keep∧keep≤4611686018427387904):Xan Tryz.prog 201 #[.int .i64 opn,.int .i64 keep] w (Xbp (.bool (Xfy opn keep)) w):=by
 refine ζe Tryz.func201 Tryz.ntmps201 rfl (ζg rfl (fun a => ?_) fun a => ?_)
 ·have b:=of_decide_eq_true a;refine Xay.arith hTT rfl (XuC (by omega)) rfl (Xay.arith hTT rfl (XuC (by omega)) rfl (Xay.arith hTT rfl (XuC (by omega)) rfl ?_));have e:Xfy opn keep=decide (opn - keep > 1):=by
   unfold Xfy;rw [decide_eq_true (by omega),Bool.true_and];exact decide_eq_decide.2 (by omega)
  rw [e];exact ζr Tryz.func201 rfl ⟨rfl,rfl⟩
 ·have b:=of_decide_eq_false a;have e:Xfy opn keep=false:=by unfold Xfy; rw [decide_eq_false (by omega),Bool.false_and]
  rw [e];exact ζr Tryz.func201 rfl ⟨rfl,rfl⟩
section
variable {F Fr:Nat→Prop} {w w':World} {S:Sto} {s:StM} {by':Int} {mo:Mo} {pd:Option (Nat × PlcM)}
theorem Xbz.kcell (h:Xbz F Fr w S s by' mo) {k:Nat} (hk:k<s.keep.length):w.cell? ⟨S.kb,0+k,none⟩=some (.int .i64 (s.keep.getD k 0)):=by
 refine (Xd7 h.kee).trans ?_;rw [Nat.zero_add,List.getElem?_toArray,List.getElem?_append_left (by rw [List.length_map]; exact hk),List.getElem?_map,List.getElem?_eq_getElem hk,List.getD_eq_getElem?_getD,List.getElem?_eq_getElem hk];rfl
theorem Xie (hs:s.OkP S.c pd) {k:Nat} (hk:k<s.keep.length):0≤s.keep.getD k 0∧s.keep.getD k 0≤1024:=by
 rw [List.getD_eq_getElem?_getD,List.getElem?_eq_getElem hk];exact hs.kr _ (List.getElem_mem hk)
theorem Xlj (hs:s.OkP S.c pd) (k:Int):Xow s.rm k≤1024:=by
 unfold Xow;cases a:Xok s.rm k with
 |none=>simp
 |some x =>
  obtain ⟨j,rfl,c,b⟩:=Xoq a;exact ((hs.rm.mok.sh j x b).1.few).2.1
theorem Xkz {k:Nat} {y:Option (Nat × MvM)} (hk:k<mo.length):Xps (fl Xkx mo) (0+k*6) (Xkx y)=some (fl Xkx (mo.set k y)):=by
 have:=Xge (cells:=Xkx) Xky (xs:=mo) (k:=k) (y:=y) (rest := []) hk
 simpa using this
theorem Xm7 (a b c:Int):Xa4 w ⟨a,b,c,none,0,[]⟩:=⟨Rd.nil _ _ _,by simp⟩
end
theorem Xsk {F Fr:Nat→Prop} {w:World} {S:Sto} {s:StM} {by':Int} {mo:Mo} (h:Xbz F Fr w S s by' mo) (hs:s.Ok S.c) (k:Nat) (hk:k<s.mv.length):Xan Tryz.prog 132 #[XrY S,.int .i64 (k:Nat)] w (fun _ w'=>Xby F w w' S (Xrs S.c s k) by'):=by
 obtain ⟨f1,f2,f3⟩:=OkP.few hs;have V:k<s.keep.length:=by omega
 have ar:k<S.c.classes.length:=by have:=hs.ml; omega
 have c6:=Xie hs V;have c7:=Xlj hs (k:Nat);have no:∀ {w'},Chg XaW w w'→Xda s k=false→Xby F w w' S (Xrs S.c s k) by':=fun {w'} Q i=>by
  unfold Xrs;rw [i];exact .of (h.grow Q) (Q.mono fun _ _ h=>h.elim)
 refine ζe Tryz.func132 Tryz.ntmps132 rfl ?_;cases hm:(XrE s (k:Nat)).isSome with
 |true =>
  have i:Xda s k=false:=by
   unfold Xda;cases hx:XrE s (k:Nat) with
   |none=>rw [hx] at hm; cases hm
   |some x=>rfl
  exact ζd 17 XaW (by kernel_rfl) rfl fun a=>δw a (fun w' c=>Xso (h.grow c) hs (k:Nat)) rfl (Xaq.yes hTT a rfl hm rfl (δn a rfl fun w1 d=>ζr Tryz.func132 rfl (no d i)))
 |false =>
  have av:(XrE s (k:Nat)).isNone=true:=by
   cases hx:XrE s (k:Nat) with
   |none=>rfl
   |some x=>rw [hx] at hm; cases hm
  refine ζd 17 XaW (by kernel_rfl) rfl fun a=>δw a (fun w' c=>Xso (h.grow c) hs (k:Nat)) rfl (Xaq.no hTT a rfl hm rfl (δl a h.obj rfl (δw a (fun w' c=>Xo4 (h.room.grow c) (k:Nat)) rfl (δl a h.obj rfl (δi k a rfl (δk a (h.kcell V) rfl (δn a rfl fun w1 d=>ζw (Xm3 (Xow s.rm (k:Nat):Nat) (s.keep.getD k 0) w1 (by omega) (by omega)) rfl ?_)))))));cases R:Xfy (Xow s.rm (k:Nat):Nat) (s.keep.getD k 0) with
  |false =>
   have i:Xda s k=false:=by unfold Xda; rw [R,Bool.and_false,Bool.false_and]
   exact ζy rfl (ζr Tryz.func132 rfl (no d i))
  |true =>
   refine ζf rfl (ζl (d.heap' h.obj) rfl ?_);have J:=Xo8 (h.room.grow d) (k:Nat);obtain ⟨⟨pf,fa,pt,ta⟩,ePl⟩:∃ p,p=XoO s.rm (k:Nat):=⟨_,rfl⟩;rw [XoN,← ePl] at J;simp only at J
   refine ζv J rfl fun T W=>ζn rfl fun b w3 e3 aw ax c8=>ζs aw rfl fun w4 K ay c9 => ?_;have ca:=d.size;have cc:=W.size;have n:=((d.trans W).trans ax).since ay (fun z hz e=>by omega);cases hp:XoL s.rm (k:Nat) with
   |false =>
    have i:Xda s k=false:=by unfold Xda; rw [hp,Bool.and_false]
    exact ζy rfl (ζr Tryz.func132 rfl (no n i))
   |true =>
    have i:Xda s k=true:=by unfold Xda; rw [av,R,hp]; rfl
    refine ζf rfl ?_;obtain ⟨P,_,bn,⟨o,t,u,cd,a0⟩,hf,ht⟩:=Xc8 hs i;have P1:=P.own;have P2:=P.n (o:Int) (by omega);have P3:=P.a (o:Int) (by omega);rw [← ePl] at P1 P2 P3 u a0 hf ht;simp only at P1 P2 P3 u a0 hf ht
    have h4:=h.grow n;have b6:¬ F b:=fun hz=>by have:=h.low b hz; omega
    refine ζd 9 XaW (by kernel_rfl) rfl fun a=>δl a h4.obj rfl (δl a K rfl (δl a K rfl (δn a rfl fun w5 H => ?_)));have U:=h4.grow H;have b7:=H.heap' K;refine ζw (Xo6 U.room (k:Nat) pf fa) rfl ?_;rw [u];refine ζl U.obj rfl (ζc rfl (Xo9 U.room (k:Nat) (o:Nat)) ?_);rintro _ w6 ⟨rfl,⟨Fr',hr,a7,q⟩⟩;refine ζa rfl ?_;have h6:=U.roomed hr a7 q;have L:=q.heap b7 (fun hz=>b6 (h.f1 _ hz));have I:=StM.OkP.begin hs k;have eB:Xrs S.c s k={s with rm:=XoT s.rm (k:Nat) (o:Nat),mv:=s.mv.set k (some (XkL S.c s.rm k))}:=by unfold Xrs; rw [if_pos i,← ePl]; simp only; rw [u]
    rw [eB] at I ⊢;obtain ⟨m,em⟩:∃ m,m=XkL S.c s.rm k:=⟨_,rfl⟩;rw [← em] at I ⊢;have ba:=Xks I (k:=k) (m:=m) (by show (s.mv.set k _)[k]? = _; rw [List.getElem?_set_self hk]);obtain ⟨_,_,_,mf,mt,ms,_⟩:=I.mv k m (by show (s.mv.set k _)[k]? = _; rw [List.getElem?_set_self hk]);have bb:m.who=o∧m.pf=pf∧m.fa=fa∧m.pt=pt∧m.ta=ta∧m.gone=0:=by rw [em]; unfold XkL; rw [← ePl]; exact ⟨u,rfl,rfl,rfl,rfl,rfl⟩
    obtain ⟨bc,a8,a9,aa,ab,bd⟩:=bb;rw [a8,a9] at mf;rw [aa,ab] at mt;refine ζd 10 XaW (by kernel_rfl) rfl fun a=>δl a h6.obj rfl (δl a L rfl (δl a L rfl (Xaq.build hTT a rfl rfl (δn a rfl fun w7 A => ?_))));have h7:=h6.grow A;have B:=XtS S.v ⟨(k:Nat),pf,fa,none,0,[]⟩ w7 h7.vw (Xm7 _ _ _);rw [h.vc,show XtM S.c ⟨(k:Nat),pf,fa,none,0,[]⟩=(m.f:Int) from mf.symm] at B;refine ζv B rfl fun w8 C => ?_;have h8:=h7.grow C;have N:=C.heap' (A.heap' L);refine ζd 10 XaW (by kernel_rfl) rfl fun a=>δl a h8.obj rfl (δl a N rfl (δl a N rfl (Xaq.build hTT a rfl rfl (δn a rfl fun w9 D => ?_))));have h9:=h8.grow D;have B:=XtS S.v ⟨(k:Nat),pt,ta,none,0,[]⟩ w9 h9.vw (Xm7 _ _ _);rw [h.vc,show XtM S.c ⟨(k:Nat),pt,ta,none,0,[]⟩=(m.t:Int) from mt.symm] at B;refine ζv B rfl fun ac f => ?_;have g:=h9.grow f;have ak:=f.heap' (D.heap' N);obtain ⟨cb,off,eca,ad⟩:=g.ca.1 k ar;have esz:S.c.classes.getD k 0=(m.size:Int):=by rw [ms]; unfold XeW; rw [Int.toNat_natCast]
    rw [esz] at ad;refine ζd 19 XaW (by kernel_rfl) rfl fun a=>δl a g.obj rfl (δl a g.obj rfl ?_);rw [eca];refine δi k a rfl ?_;refine Xaq.load hTT a rfl ad (by first | exact fun h=>h | (intro h; omega) | assumption) rfl ?_;have al:Xkn s.bs.length m.f m.t m.size=true:=Xko.2 (by obtain ⟨l1,l2,l3,l4⟩:=ba; simp only at l1 l2; omega);have R:∀ w',Chg XaW ac w'→Xan Tryz.prog 206 #[.pointer (some ⟨S.A.ab,0,none⟩),.int .i64 m.f,.int .i64 m.t,.int .i64 m.size] w' (fun v T=>Chg XaW w' T ∧ ∃ M:Mv,v = .tuple #[.pointer (some ⟨M.mv,0,none⟩),.int .i64 0]∧M.f=m.f∧M.t=m.t∧M.size=m.size∧ac.heap.size≤M.mv∧XaT T S.A (arV S {s with rm:=XoT s.rm (k:Nat) (o:Nat)}) M 0):=fun w' c =>
     (Xkf S.A _ m.f m.t m.size w' (g.ar.grow c) al).mono fun v T ⟨M,e,a1,a2,a3,a4,a5,a6⟩=>⟨a6,M,e,a1,a2,a3,by have:=c.size; omega,a5⟩
    refine Xaq.callQ a rfl rfl (R) ?_;rintro _ ce E ⟨M,rfl,ae,af,ag,bh,l⟩;refine Xaq.adv hTT a rfl (δn a rfl fun cf r => ?_);have bi:=Xjs l.obj;have ah:=(g.adopt E bh bi).grow r;have am:=r.heap' (E.heap' ak);have l:=l.grow r;refine ζd 9 XaW (by kernel_rfl) rfl fun a=>δl a ah.obj rfl (δl a am rfl (Xaq.build hTT a rfl rfl (δn a rfl fun bj G => ?_)));have ai:=ah.grow G;have l:=l.grow G;have an:k<mo.length:=by rw [h.mol]; exact hk
    have ao:=Xkz (mo:=mo) (k:=k) (y:=some (M.mv,m)) an;refine Xay.index hTT rfl (j:=k*6) (by omega) (show (k:Int)<(s.mv.length:Nat) by omega) (by simp) rfl ?_;have hv:([.pointer (some ⟨M.mv,0,none⟩),.int .i64 (o:Nat),.int .i64 pf,.int .i64 fa,.int .i64 pt,.int .i64 ta]:List Value)=Xkx (some (M.mv,m)):=by unfold Xkx; simp only; rw [bc,a8,a9,aa,ab]
    refine ζS rfl ai.mvs (hv▸ao) rfl fun bk ap O c0 => ?_;have bl:∀ b' m',some (M.mv,m)=some (b',m')→bj.heap[b']? = some (.cells (Xkm S.A (Xkl b' m') m'.gone).toArray 258 (0,0))∧((F b'∨Fr' b')∨b'=M.mv) ∧ ¬ Fr' b' ∧ ∀ (j:Nat) m'',mo[j]?≠some (some (b',m'')):=fun b' m' e=>by
     cases e
     refine ⟨?_,.inr rfl,fun hz=>by have:=hr.low _ hz; have:=A.size; have:=C.size; have:=D.size; have:=f.size; omega,fun j m'' hj => ?_⟩
     ·have:=l.obj;rw [bd];have eM:M=Xkl M.mv m:=by cases M; simp only at ae af ag; subst ae; subst af; subst ag; rfl
      rw [eM] at this;exact this
     ·have:=g.low _ (g.mob j _ m'' hj).2.1;omega
    have bm:=ai.setMv (x:=some (M.mv,m)) O ap bl;have aq:Chg F w w5:=(n.trans H).mono fun _ _ h=>h.elim;have Q:Chg F w bk:=by
     have c1:=aq.trans (q.mono fun z _ hz=>h.f1 z hz);have c2:=(((((A.trans C).trans D).trans f).trans E).trans r).trans G;exact (c1.trans (c2.mono fun _ _ h=>h.elim)).trans (O.mono fun z _ e=>e▸h.f2.2.2.2.2)
    have fF:∀ z,((F z∨Fr' z)∨z=M.mv)→F z∨w.heap.size≤z:=fun z hz=>by
     have:=n.size; have:=H.size; have:=A.size; have:=C.size; have:=D.size; have:=f.size; have:=q.size;rcases hz with (hz | hz) | rfl
     ·exact .inl hz
     ·exact (a7 z hz).imp (h.f1 z) (by omega)
     ·exact .inr (by omega)
    exact ζr Tryz.func132 rfl ⟨_,Fr',_,bm,fF,Q⟩
section
variable {F Fr:Nat→Prop} {w w':World} {S:Sto} {s:StM} {by':Int} {mo:Mo} {pd:Option (Nat × PlcM)}
theorem XrW {A:Ar} {V:ArV} {M:Mv} {g k b:Nat} (hb:A.mb=some b):XrV A V M g k=⟨XrR V.bs M.f M.t g k,Xel V.total k,V.lap⟩:=by
 unfold XrV XrR;by_cases h:k=0
 ·subst h;rw [if_pos rfl,if_pos rfl];exact ArV.eq rfl (Xem _).symm rfl
 ·rw [if_neg h,if_neg h];exact ArV.eq rfl (Xek hb) (V.charge_lap A _)
theorem XuL {A:Ar} {V:ArV} {M:Mv} {g i n b:Nat} (hb:A.mb=some b):XuK A V M g i n=⟨XuI V.bs M.f M.t g i n,Xel V.total (XuJ i n g),V.lap⟩:=by
 unfold XuK XuI;by_cases h:XuJ i n g=0
 ·rw [if_pos h,if_pos h,h];exact ArV.eq rfl (Xem _).symm rfl
 ·rw [if_neg h,if_neg h];exact ArV.eq rfl (Xek hb) (V.charge_lap A _)
theorem Xkq (h:Xbz F Fr w S s by' mo) {k:Nat} {m:MvM} (hm:s.mv[k]? = some (some m)):∃ b,mo[k]? = some (some (b,m)):=by
 have a:=(List.getElem?_eq_some_iff.1 hm).1;obtain ⟨x,c,e⟩:=h.mo_at a;rw [Xku hm] at e;obtain ⟨⟨b,m'⟩,rfl,e'⟩:=Option.map_eq_some_iff.1 e;simp only at e'
 subst e';exact ⟨b,c⟩
theorem Xbz.went (h:Xbz F Fr w S s by' mo) {k b g:Nat} {m:MvM} {bs:List Int} {t:Int} (hx:mo[k]? = some (some (b,m))) (hM:XaT w' S.A ⟨bs,t,S.R.lap⟩ (Xkl b m) g) (hl:bs.length=s.bs.length) (hc:Chg (mFt S.A (Xkl b m)) w w') :
 Xbz F Fr w' S {s with bs:=bs,rm:={s.rm with tot:=t},mv:=s.mv.set k (some {m with gone:=g})} by' (mo.set k (some (b,{m with gone:=g}))):=by
 have d:=(List.getElem?_eq_some_iff.1 hx).1;have l:∀ (j b':Nat) m',mo[j]? = some (some (b',m'))→j≠k → ¬ mFt S.A (Xkl b m) b':=fun j b' m' a c f=>by
  have kk:=h.kdm a;obtain ⟨_,_,n,_,_,o⟩:=h.kds;rcases f with (e | e) | e
  ·exact Xib kk n (by decide) e
  ·rw [h.amb] at e; cases e; exact Xib kk o (by decide) rfl
  ·exact c (h.mdj j k b' m' m a (e▸hx))
 have:=h.arena (bs:=bs) (t:=t) (mo2:=mo.set k (some (b,{m with gone:=g}))) hc (fun z f => ?_) hM.ar.dat hl hM.ar.rng (hM.ar.met _ h.amb) ?_ (by rw [List.length_set]) (fun j b' m' a => ?_)
 ·rw [Xkc,h.mom] at this;exact this
 ·rcases f with (e | e) | e
  ·exact .inl e
  ·rw [h.amb] at e; exact .inr (.inl (Option.some.inj e).symm)
  ·exact .inr (.inr ⟨k,m,e▸hx⟩)
 ·apply List.ext_getElem?
  intro i;have e1:=Xkz (mo:=mo) (k:=k) (y:=some (b,{m with gone:=g})) d;have e2:=Xkz (mo:=mo) (k:=k) (y:=some (b,m)) d;have e3:mo.set k (some (b,m))=mo:=by
   apply List.ext_getElem?
   intro j;by_cases e:k=j
   ·subst e; rw [List.getElem?_set_self d,hx]
   ·rw [List.getElem?_set_ne e]
  rw [e3] at e2;have e4:Xkx (some (b,{m with gone:=g}))=Xkx (some (b,m)):=rfl;rw [e4,e2] at e1;rw [← Option.some.inj e1]
 ·rcases Xkd a with ⟨rfl,e,_⟩ | ⟨c,a⟩
  ·cases e
   exact ⟨hM.obj,m,hx⟩
  ·exact ⟨hc.heap (h.mob j b' m' a).1 (l j b' m' a c),m',a⟩
end
theorem Xsq {F Fr:Nat→Prop} {w:World} {S:Sto} {s:StM} {by':Int} {mo:Mo} (h:Xbz F Fr w S s by' mo) (hs:s.Ok S.c) {k:Nat} {m:MvM} (hm:s.mv[k]? = some (some m)) (n:Int):Xan Tryz.prog 133 #[XrY S,.int .i64 (k:Nat),.int .i64 n] w (fun v w'=>v = .int .i64 (goN m n:Nat)∧Xby F w w' S (XrA s k n) by'):=by
 obtain ⟨f1,f2,f3⟩:=OkP.few hs;have hk:=(List.getElem?_eq_some_iff.1 hm).1;obtain ⟨b,Q⟩:=Xkq h hm;obtain ⟨⟨o,t,ew,et,eq⟩,ea,en,_,_,_,bc⟩:=hs.mv k m hm;have aa:k<mo.length:=by rw [h.mol]; exact hk
 have bd:=XgR m n;have W:∀ z,mFt S.A (Xkl b m) z→F z:=fun z a=>a.elim (h.footF z) (fun e=>e▸(h.mob k b m Q).2.1);refine ζe Tryz.func133 Tryz.ntmps133 rfl (ζl h.obj rfl (Xay.index hTT rfl (j:=k*6) (by omega) (show (k:Int)<(s.mv.length:Nat) by omega) (by simp) rfl ?_));refine Xay.loadC hTT (Xkx (some (b,m))) rfl (by first | rfl | (simp; done) | (simp [*]; done) | (simp; omega)) ((fun j v hv=>by have hj:j<6:=(List.getElem?_eq_some_iff.1 hv).1; exact h.mcell Q hj hv)) rfl ?_;refine ζn rfl fun xb w1 e1 ab am be=>ζs ab rfl fun w2 a0 an bf => ?_;have B:=am.since an (fun z a e=>by omega);have h2:=h.grow B;have C:¬ F xb:=fun a=>by have:=h.low xb a; omega
 refine ζl a0 rfl (ζc rfl (Xkg S.A (arV S s) (Xkl b m) m.gone n w2 (h2.mvOk hs Q)) ?_);rintro _ w3 ⟨rfl,a1,D⟩;refine ζa rfl ?_;have E:XaT w3 S.A ⟨XrR s.bs m.f m.t m.gone (goN m n),Xel s.rm.tot (goN m n:Nat),S.R.lap⟩ (Xkl b m) (m.gone+goN m n):=by
  rw [XrW h.amb] at a1; exact a1
 obtain ⟨l1,l2,l3,_⟩:=Xks hs hm;have h3:=h2.went Q E (XrS (size:=m.size) (by omega) l1 l2) D;have G:=D.heap a0 (fun a=>C (W _ a));have ac:=(B.mono fun _ _ h=>h.elim).trans (D.mono fun z _ a=>W z a);refine ζl G rfl (ζv (Xke S.A _ (Xkl b m) (m.gone+goN m n) w3 E) rfl fun w4 H => ?_);have R:=h3.grow H;have d:=H.heap' G;have I:=ac.trans (H.mono fun _ _ h=>h.elim);by_cases a2:m.gone+goN m n<m.size
 ·have eG:XrA s k n={XrN s m n with mv:=s.mv.set k (some {m with gone:=m.gone+goN m n})}:=by unfold XrA; rw [Xku hm]; simp only; rw [if_pos a2]
  rw [eG];exact ζF rfl (by show ((((m.size - (m.gone+goN m n):Nat):Int) == 0)=false); simp; omega) (ζr Tryz.func133 rfl ⟨rfl,.of R I⟩)
 ·have eG:XrA s k n={XrN s m n with mv:=s.mv.set k none,th:=s.th.set m.who.toNat (some ⟨XrL s m.who,⟨k,m.pt,m.ta,[]⟩⟩),rm:=Xor (XrN s m n).rm k m.pf m.fa}:=by unfold XrA; rw [Xku hm]; simp only; rw [if_neg a2]
  rw [eG];refine ζY rfl (by show ((((m.size - (m.gone+goN m n):Nat):Int) == 0)=true); simp; omega) ?_;have aq:=(List.getElem?_eq_some_iff.1 et).1;have ar:m.who.toNat=o:=by omega
  have au:XrL s m.who=t.size:=by unfold XrL; rw [ew,Xtd et]
  rw [ar,au];obtain ⟨al,a3⟩:=R.th;obtain ⟨q,q1,q2,q3,q4,q5⟩:=a3.2.2.1 o t et;refine ζd 8 XaW (by kernel_rfl) rfl fun c=>δl c R.obj rfl (δl c d rfl (Xaq.lookup hTT c rfl (a3.1) (by first | (intro b h; cases h; assumption) | (intro b h hs; cases h; omega)) ((show Xjf al _ m.who false = .agg (thL t.size q).toArray from by unfold Xjf; rw [ew,q2]; rfl)) rfl (Xaq.turn1 c rfl fun w5 r=>XbK.alloc hTT c rfl (fun _=>rfl) fun tb w6 e6 ad av bg=>δn c rfl fun w7 a4 => ?_)));have J:=(r.trans av).trans a4;have ae:=J.heap' d;have af:=a4.heap' ad;have aw:tb≠xb:=by have:=Xjs d; have:=r.size; omega
  refine ζs af rfl fun w8 ag a5 bh => ?_;have K:=a5.heap ae (fun e=>aw e.symm);refine ζl K rfl (ζl K rfl (ζb rfl (ζs ag rfl fun w9 ah ax bi => ?_)));have g:=(J.since a5 (fun z a e=>by have:=r.size; omega)).since ax (fun z a e=>by have:=r.size; omega);have h9:=R.grow g;have L:=g.heap' d;refine ζd 7 XaW (by kernel_rfl) rfl fun c=>δl c h9.obj rfl (δl c L rfl (δl c ah rfl (δn c rfl fun bj i => ?_)));have M:=h9.grow i;have T:=i.heap' L;obtain ⟨al',N⟩:=M.th;refine Xay.mapset hTT rfl (N.1) fun bk u f b9=>ζa rfl ?_;rw [ew] at u;have ai:=N.put (o:=o) (size:=t.size) (q:=⟨(k:Nat),m.pt,m.ta,none,0,[]⟩) (qm:=⟨(k:Nat),m.pt,m.ta,[]⟩) rfl aq u f M.f2.2.2.2.1 (Xm7 _ _ _) (fun _ _ _ e=>by cases e) (fun _ _ _ e=>by cases e);have O:=M.setTh f ai;have U:=f.heap T (fun e=>C (e▸h.f2.2.2.2.1));refine ζl O.obj rfl (ζb rfl ?_);have V:k<(mo.set k (some (b,{m with gone:=m.gone+goN m n}))).length:=by rw [List.length_set]; exact aa
  have bl:(s.mv.set k (some {m with gone:=m.gone+goN m n})).length=s.mv.length:=List.length_set;refine Xay.index hTT rfl (j:=k*6) (by omega) (show (k:Int)<((s.mv.set k (some {m with gone:=m.gone+goN m n})).length:Nat) by omega) (by simp) rfl (ζS rfl O.mvs (Xkz (y:=none) V) rfl fun bm aj l ba => ?_);have a6:=O.setMv (x:=none) l aj (fun _ _ e=>by cases e);have A:=l.heap U (fun e=>C (e▸h.f2.2.2.2.2));refine ζd 11 XaW (by kernel_rfl) rfl fun c=>δl c a6.obj rfl (δl c A rfl (δl c A rfl (δn c rfl fun bn p => ?_)));have a7:=a6.grow p;refine ζc rfl (Xo1 a7.room (k:Nat) m.pf m.fa) ?_;rintro _ bo ⟨rfl,⟨Fr',hr,a8,P⟩⟩;refine ζa rfl ?_;have az:=a7.roomed hr a8 P;have b0:=(I.trans (g.mono fun _ _ h=>h.elim)).trans (i.mono fun _ _ h=>h.elim);have a9:=(b0.trans (f.mono fun z _ e=>e▸h.f2.2.2.2.1)).trans (l.mono fun z _ e=>e▸h.f2.2.2.2.2);have b1:=(a9.trans (p.mono fun _ _ h=>h.elim)).trans (P.mono fun z _ a=>h.f1 z a);have eS:({XrN s m n with mv:=s.mv.set k none,th:=s.th.set o (some ⟨t.size,⟨(k:Nat),m.pt,m.ta,[]⟩⟩),rm:=Xor (XrN s m n).rm (k:Nat) m.pf m.fa}:StM)={keep:=s.keep,bs:=XrR s.bs m.f m.t m.gone (goN m n),rm:=Xor {s.rm with tot:=Xel s.rm.tot (goN m n:Nat)} (k:Nat) m.pf m.fa,th:=s.th.set o (some ⟨t.size,⟨(k:Nat),m.pt,m.ta,[]⟩⟩),mv:=(s.mv.set k (some {m with gone:=m.gone+goN m n})).set k none}:=by
   rw [List.set_set];rfl
  rw [eS];have fF:∀ z,(F z∨Fr' z)→F z∨w.heap.size≤z:=fun z a=>a.elim .inl (fun a=>(a8 z a).imp (h.f1 z) (fun hl=>by have:=a9.size; have:=p.size; omega));exact ζr Tryz.func133 rfl ⟨rfl,⟨_,Fr',_,az,fF,b1⟩⟩
theorem XrC {s:StM} {k:Nat} (h:XrE s (k:Nat)=none) (n:Int):XrA s k n=s:=by unfold XrA; rw [h]
theorem XrB {s:StM} {k:Nat} {m:MvM} (h:XrE s (k:Nat)=some m) {n n':Int} (e:goN m n=goN m n'):XrA s k n=XrA s k n':=by
 unfold XrA XrN;rw [h];simp only
 rw [e]
theorem XgQ {m:MvM}:goN m ((m.size - m.gone:Nat):Int)=goN m (m.size:Nat):=by unfold goN XrU; omega
theorem Xsm {F Fr:Nat→Prop} {w:World} {S:Sto} {s:StM} {by':Int} {mo:Mo} (h:Xbz F Fr w S s by' mo) (hs:s.Ok S.c) (κ:Int):Xan Tryz.prog 123 #[XrY S,.int .i64 κ] w (fun _ w'=>Xby F w w' S (Xrx s κ) by'):=by
 obtain ⟨f1,f2,l⟩:=OkP.few hs;refine ζe Tryz.func123 Tryz.ntmps123 rfl (ζw (Xso h hs κ) rfl ?_);cases hm:XrE s κ with
 |none =>
  have e:Xrx s κ=s:=by unfold Xrx; rw [hm]
  rw [e];exact ζf rfl (ζr Tryz.func123 rfl (.of h (Chg.refl _ _)))
 |some m =>
  obtain ⟨k,rfl,n,a⟩:=Xkw hm;have e:Xrx s (k:Nat)=XrA s k ((m.size - m.gone:Nat):Int):=by
   unfold Xrx;rw [hm];simp only [Int.toNat_natCast];exact XrB hm XgQ.symm
  rw [e];obtain ⟨b,d⟩:=Xkq h a;refine ζy rfl (ζl h.obj rfl (Xay.index hTT rfl (j:=k*6) (by omega) (show (k:Int)<(s.mv.length:Nat) by omega) (by simp) rfl (ζk rfl (h.mcell d (i:=0) (by decide) rfl) rfl (ζv (Xke S.A (arV S s) (Xkl b m) m.gone w (h.mvOk hs d)) rfl fun o c => ?_))));refine ζc rfl (Xsq (h.grow c) hs a ((m.size - m.gone:Nat):Int)) ?_;rintro _ p ⟨rfl,f⟩;exact ζa rfl (ζr Tryz.func123 rfl (.trans (fun _ g => .inl g) (c.mono fun _ _ h=>h.elim) f))
theorem Xsl {F Fr:Nat→Prop} {w:World} {S:Sto} {s:StM} {by':Int} {mo:Mo} {o:Nat} (h:Xbz F Fr w S s by' mo) (q:Plc) (hs:s.OkP S.c (some (o,Xm8 q))) (hq:Xa4 w q):Xan Tryz.prog 124 #[XrY S,.agg (Xm6 q).toArray] w (fun _ w'=>Xby F w w' S (Xrw S.c s (Xm8 q)) by'):=by
 obtain ⟨f1,f2,f3⟩:=OkP.few hs;have J:=hs.dropped;refine ζe Tryz.func124 Tryz.ntmps124 rfl (ζn rfl fun b w1 e1 A i a3 => ?_);have j:¬ F b:=fun c=>by have:=h.low b c; omega
 have K:=h.grow i;refine ζd 5 XaW (by kernel_rfl) rfl fun f=>δl f K.obj rfl (δl f A rfl (δn f rfl fun w2 d => ?_));have L:=K.grow d;have B:=d.heap' A;refine ζc rfl (XoZ L.room q (hq.grow (i.trans d))) ?_;rintro _ w3 ⟨rfl,⟨Fr',W,l,g⟩⟩;refine ζa rfl ?_;have M:=L.roomed W l g;have p:=g.heap B (fun c=>j (h.f1 _ c));have a4:=d.size;have a5:=g.size;have r:∀ z,(F z∨Fr' z)→F z∨w.heap.size≤z:=fun z c=>c.elim .inl (fun c=>(l z c).imp (h.f1 z) (by omega));have H:¬ (F b∨Fr' b):=fun c=>c.elim j (fun c=>(l b c).elim (fun c=>j (h.f1 _ c)) (by have:=Xjs B; omega));have t:=((i.trans d).mono fun _ _ h=>h.elim).trans (g.mono fun z _ c=>h.f1 z c);refine ζl p rfl ?_;by_cases u:q.cls = -1
 ·have e:Xrw S.c s (Xm8 q)={s with rm:=Xoe s.rm (Xm8 q)}:=by unfold Xrw; rw [if_pos (show (Xm8 q).cls<0 by show q.cls<0; omega)]
  rw [e];exact ζY rfl (by rw [u]; rfl) (ζr Tryz.func124 rfl ⟨_,Fr',mo,M,r,t⟩)
 ·obtain ⟨_,p2,_,_⟩:=hs.ps o (Xm8 q) rfl u;obtain ⟨_,k0,N⟩:=XlF hs (k:=(Xm8 q).cls) (n:=(Xm8 q).page) (a:=(Xm8 q).idx) (by rw [p2]; omega);obtain ⟨k,I⟩:=Int.eq_ofNat_of_zero_le (show 0≤q.cls from k0);replace N:q.cls<S.c.classes.length:=N;have O:k<s.mv.length:=by have:=hs.ml; omega
  have e:Xrw S.c s (Xm8 q)=XrA (Xrs S.c {s with rm:=Xoe s.rm (Xm8 q)} k) k S.c.step:=by
   unfold Xrw;rw [if_neg (show ¬ (Xm8 q).cls<0 by show ¬ q.cls<0; omega),show (Xm8 q).cls.toNat=k by show q.cls.toNat=k; omega]
  rw [e];refine ζF rfl (by simpa using u) (ζl p rfl ?_);rw [I];refine ζc rfl (Xsk M J k O) ?_;rintro _ w4 ⟨P,Q,R,y,T,C⟩;refine ζa rfl ?_;have D:=C.heap p H;have E:=J.begin k;have v:=t.since C (fun z c hf=>(r z hf).elim id (by omega));have x:∀ z,P z→F z∨w.heap.size≤z:=fun z c=>(T z c).elim (r z) (by omega);refine ζl D rfl ?_;rw [I];refine ζw (Xso y E (k:Nat)) rfl ?_;cases hm:XrE (Xrs S.c {s with rm:=Xoe s.rm (Xm8 q)} k) (k:Nat) with
  |none =>
   rw [XrC hm];exact ζf rfl (ζr Tryz.func124 rfl ⟨P,Q,R,y,x,v⟩)
  |some m =>
   obtain ⟨k',ek',a6,U⟩:=Xkw hm;obtain rfl:k=k':=by omega
   refine ζy rfl (ζd 8 XaW (by kernel_rfl) rfl fun f=>δl f D rfl (δl f y.obj rfl ?_));rw [I];refine δn f rfl fun w5 G => ?_;refine ζc rfl (Xsq (y.grow G) E U S.c.step) ?_;rintro _ w6 ⟨rfl,V⟩;exact ζa rfl (ζr Tryz.func124 rfl (.trans x (v.trans (G.mono fun _ _ h=>h.elim)) V))
section
variable {F Fr:Nat→Prop} {w w':World} {S:Sto} {s:StM} {by':Int} {mo:Mo} {pd:Option (Nat × PlcM)}
theorem Xta {a b:Int} {q r:Plc} (h:Value.agg (thL a q).toArray=Value.agg (thL b r).toArray):q.pa=r.pa:=by
 injection h with h
 have h:=congrArg Array.toList h;simp only [thL,Xm6,List.toList_toArray,List.cons.injEq,Value.slice.injEq] at h;exact h.2.2.2.2.1.1
theorem Xbz.loc {F0 Fr0:Nat→Prop} {w0:World} {s0:StM} {by0:Int} {mo0:Mo} (h0:Xbz F0 Fr0 w0 S s0 by0 mo0) (hm:∀ al,XaL w0 S.tm al→XaL w S.tm al) (h:Xbz F Fr w S s by' mo) {b t:Nat} (hb:w0.heap.size≤b) (hF:¬ F b) (hk:kd w b=some (some t)) (ht:t≠329∧t≠325∧t≠3) (hc:Chg (fun z=>z=b) w w'):Xbz F Fr w' S s by' mo:=by
 have d:=h0.room;have c:=XjT d.may;have B:=Xjs h0.ar.obj;have C:=Xjs h0.ar.cap;have D:=Xjs h0.vw.obj;have E:=Xjs d.obj;have G:S.R.sb<w0.heap.size:=by have:=World.block_lt_of_cell? w0 _ (d.sl 0 (by have:=c.n; have:=d.ok.n; omega)); exact this
 have H:1<w0.heap.size:=by have:=World.block_lt_of_cell? w0 _ (d.tab 0 (by decide)); exact this
 have f:=h0.rc;have far:∀ {a:Option Addr} {l:List Int},Far F0 w0 a l→0<l.length → ∀ off s,a≠some ⟨b,off,s⟩:=fun g p off s e=>by have:=g.1.block p e; omega
 refine h.other hc (fun z e=>e▸⟨hF,⟨by omega,by omega,by omega,by omega,by omega,by omega⟩,far h0.ca (by rw [f] at c; have:=c.n; omega),far h0.ka (by rw [f] at c; have:=c.keep; have:=c.n; omega),t,hk,ht⟩) ?_;intro al j k sz q i;obtain ⟨m,r,I,u,v⟩:=h0.th;have:=(hm m r).uniq j;subst this;by_cases hk:∀ (o:Nat) t,s0.th[o]? = some (some t)→(o:Int)≠k
 ·rw [v k hk] at i; cases i
 ·simp only [Classical.not_forall,Decidable.not_not] at hk;obtain ⟨o,t,x,y⟩:=hk;obtain ⟨J,_,n,_,_,A⟩:=u o t x;rw [y,i] at n;have e:=Xta (Option.some.inj n);rw [e];intro b' off s' e' K;have:=Xh8 (A b' off s' e');omega
theorem Xr2 (h:Xbz F Fr w S s by' mo) (n:Int):Xan Tryz.prog 146 #[.pointer (some ⟨S.mb,0,none⟩),.int .i64 n] w (fun _ w'=>Xbz (fun z=>F z∨Fr z) Fr w' S (XeB s n) by' mo∧Chg Fr w w'):=by
 have hm:=Xpc h.room n;rw [h.rmo] at hm;exact hm.mono fun _ w' ⟨a,b⟩=>⟨h.roomed a (fun z c => .inl c) b,b⟩
end
theorem Xix (c:Conf) (s:StM) (o size:Int):(Xiw c s o size).th=s.th∧(Xiw c s o size).keep=s.keep∧(Xiw c s o size).bs=s.bs∧(Xiw c s o size).mv.length=s.mv.length:=by
 unfold Xiw;split
 ·exact ⟨rfl,rfl,rfl,List.length_set⟩
 ·exact ⟨rfl,rfl,rfl,rfl⟩
theorem Xsn {F Fr:Nat→Prop} {w:World} {S:Sto} {s:StM} {by':Int} {mo:Mo} {pd pd2:Option (Nat × PlcM)} {o:Nat} {size:Int} (h:Xbz F Fr w S s by' mo) (hs:s.OkP S.c pd) (ho:o<s.th.length) (hf:Xry S.c s size=0) (hL:(XrD S.c s (o:Nat) size).OkP S.c pd2) (hby:0≤by'∧by'≤1152921504606846976) :
 Xan Tryz.prog 99 #[XrY S,.int .i64 (o:Nat),.int .i64 size] w (fun _ w'=>Xby F w w' S (XrD S.c s (o:Nat) size) (by'+size)):=by
 obtain ⟨f1,f2,f3⟩:=OkP.few hs;have bq:=h.ca.1;have b7:=XjT hs.may;have Q:=hs.may;have c7:=b7.most;have c8:=b7.n;have aw:=h.vc;obtain ⟨cf,c9⟩:=Xf9 hf;have bd:(XrD S.c s (o:Nat) size).th[o]? = some (some ⟨size,Xiv S.c s (o:Nat) size⟩):=by
  show (s.th.set (o:Int).toNat _)[o]? = _
  rw [Int.toNat_natCast,List.getElem?_set_self ho]
 obtain ⟨pv,ph,pf⟩:=XmX hL bd;simp only at pv ph pf
 refine ζe Tryz.func99 Tryz.ntmps99 rfl (ζl h.obj rfl (ζv (XeR S.p.ca S.p.cc S.c.classes size w bq (by omega)) rfl fun w1 a4 => ?_));have h1:=h.grow a4;refine ζn rfl fun b w2 e2 R b8 cg => ?_;have N:=h1.grow b8;have L:¬ F b:=fun a=>by have:=h1.low b a; omega
 have O:=a4.trans b8;refine ζw (Xso N hs (XmC S.c.classes size)) rfl ?_;by_cases g:XsV S.c s size=none
 ·have eS:Xiw S.c s (o:Nat) size={s with rm:=XoG S.c s.rm (o:Nat) size}:=by unfold Xiw; rw [g]
  have eQ:Xiv S.c s (o:Nat) size=XoI S.c s.rm (o:Nat) size:=by unfold Xiv; rw [g]
  have a5:(XrE s (XmC S.c.classes size)).isSome=false∨((XrE s (XmC S.c.classes size)).isSome=true∧Xow s.rm (XmC S.c.classes size)≠0):=by
   unfold XsV at g;cases hm:XrE s (XmC S.c.classes size) with
   |none=>exact .inl rfl
   |some m =>
    rw [hm] at g;simp only at g
    refine .inr ⟨rfl,fun e => ?_⟩;rw [if_pos e] at g;cases g
  have hP:=Xo7 N.room (o:Nat) size;rw [h.rc] at hP;rcases a5 with a5 | ⟨a5,ax⟩
  ·rw [a5];refine ζf rfl (ζl N.obj rfl (ζc rfl (hP) ?_));rintro _ w3 ⟨q,rfl,l,⟨Fr',hr,C,E,a6,ao,M⟩⟩;refine ζa rfl ?_;have h3:=N.roomed hr C E;have a7:=E.heap R (fun a=>L (h.f1 _ a));have bg:=O.size;have az:=a4.size;have bt:=E.size;have a8:∀ z,(F z∨Fr' z)→F z∨w.heap.size≤z:=fun z a=>a.elim .inl (fun a=>(C z a).imp (h.f1 z) (by omega));have G:¬ (F b∨Fr' b):=fun a=>a.elim L (fun a=>(C b a).elim (fun a=>L (h.f1 _ a)) (by have:=Xjs R; omega));have n:XaX (fun z=>F z∨Fr' z) q.pa:=fun b' off s' e a=>a.elim (fun a=>by have:=N.low b' a; have:=M b' off s' e; omega) (ao b' off s' e);have ap:XaD w3 q.pa:=fun b' off s' e=>(M b' off s' e).2;have H:XaX (fun z=>z=b) q.pa:=fun b' off s' e a=>by have:=M b' off s' e; have:=Xjs R; omega
   refine ζs a7 rfl fun wt B D b9 => ?_;have a9:=Xbz.loc h (fun al I=>(I.chg O id).chg E h.nr.2.2.2.1) h3 (by omega) G (Xh5 a7) (by decide) D;have P:Xa4 wt q:=⟨a6.rd.far H D,a6.len⟩;have aa:=ap.chg D H;have ab:=(((O.mono fun _ _ h=>h.elim).trans (E.mono fun z _ a=>h.f1 z a)).since D (fun z a e=>by omega));have T:q.pages.length≤4096:=by
    have e:q.pages=(Xiv S.c s (o:Nat) size).pages:=by rw [eQ,← l]; rfl
    rw [e]; exact pf
   rw [← eQ] at l;rw [← eS] at a9;have K:=a9;have ac:=XtO (c:=S.c) (q:=q) Q T;obtain ⟨hn,ehn⟩:=Int.eq_ofNat_of_zero_le ac.1;have ad:∀ w',Chg XaW wt w'→Xan Tryz.prog 159 #[vwV S.v,.agg (Xm6 q).toArray] w' (Grow (.int .i64 ((hn:Nat):Int)) w'):=fun w' p=>by
    have:=XtT S.v q w' ((K.grow p).vw) (P.grow p) (by omega);rw [aw,ehn] at this;exact this
   have ae:XtQ S.c q=true:=by rw [XtR,l]; exact pv
   obtain ⟨y1,y2,y3,y4⟩:=Xix S.c s (o:Nat) size;refine ζd 11 XaW (by kernel_rfl) rfl fun d=>δl d K.obj rfl (δl d B rfl (δl d K.obj rfl (δl d B rfl (δv d (fun w' p=>(ad w' p)) rfl (δn d rfl fun wa f => ?_)))));have ha:=K.grow f;have ag:=f.heap' B;refine ζc rfl (Xr1 ha Q (by rw [y3]; exact hs.bl) q 0 hn (P.grow f) n (Xeu ae (by omega) (by omega) (by omega)) T) ?_;rintro _ wb ⟨rfl,U,r⟩;refine ζa rfl ?_;have ah:=r.heap ag G;have H:Xa4 wb q:=⟨((P.grow f).rd).far n r,P.len⟩;refine ζd 8 XaW (by kernel_rfl) rfl fun d=>δl d U.obj rfl (δl d ah rfl (Xaq.build hTT d rfl rfl (δn d rfl fun wc t => ?_)));have u:=U.grow t;obtain ⟨al,V⟩:=u.th;refine Xay.mapset hTT rfl (V.1) fun wd I J ba=>ζa rfl ?_;have ai:=V.put (o:=o) (size:=size) (q:=q) (qm:=Xiv S.c s (o:Nat) size) l (by show o<(Xiw S.c s (o:Nat) size).th.length; rw [y1]; exact ho) I J u.f2.2.2.2.1 (H.grow t) n (((aa.grow f).chg r n).grow t);have A:=u.setTh J ai;refine ζl A.obj rfl (ζj rfl (ζs A.obj rfl fun wf aj W bb => ?_));have a2:=A.setBy (by2:=by'+size) W aj;have ak:=(((f.mono fun _ _ h=>h.elim).trans r).trans (t.mono fun _ _ h=>h.elim)).trans ((J.mono fun z _ e=>e▸u.f2.2.2.2.1).trans (W.mono fun z _ e=>e▸A.f2.1));have eL:XrD S.c s (o:Nat) size={XrF S.c (Xiw S.c s (o:Nat) size) (Xm8 q) 0 (Xu1 hn) with th:=(Xiw S.c s (o:Nat) size).th.set o (some ⟨size,Xiv S.c s (o:Nat) size⟩)}:=by
    unfold XrD;rw [y1,l,Int.toNat_natCast,← l,← XtP,ehn,Int.toNat_natCast]
   rw [eL];exact ζr Tryz.func99 rfl (.trans a8 ab (.of a2 ak))
  ·rw [a5];refine ζy rfl (ζl N.obj rfl (ζw (Xo4 N.room (XmC S.c.classes size)) rfl (ζF rfl (by simpa using ax) (ζl N.obj rfl (ζc rfl (hP) ?_)))));rintro _ w3 ⟨q,rfl,l,⟨Fr',hr,C,E,a6,ao,M⟩⟩;refine ζa rfl ?_;have h3:=N.roomed hr C E;have a7:=E.heap R (fun a=>L (h.f1 _ a));have bg:=O.size;have az:=a4.size;have bt:=E.size;have a8:∀ z,(F z∨Fr' z)→F z∨w.heap.size≤z:=fun z a=>a.elim .inl (fun a=>(C z a).imp (h.f1 z) (by omega));have G:¬ (F b∨Fr' b):=fun a=>a.elim L (fun a=>(C b a).elim (fun a=>L (h.f1 _ a)) (by have:=Xjs R; omega));have n:XaX (fun z=>F z∨Fr' z) q.pa:=fun b' off s' e a=>a.elim (fun a=>by have:=N.low b' a; have:=M b' off s' e; omega) (ao b' off s' e);have ap:XaD w3 q.pa:=fun b' off s' e=>(M b' off s' e).2;have H:XaX (fun z=>z=b) q.pa:=fun b' off s' e a=>by have:=M b' off s' e; have:=Xjs R; omega
   refine ζs a7 rfl fun wt B D b9 => ?_;have a9:=Xbz.loc h (fun al I=>(I.chg O id).chg E h.nr.2.2.2.1) h3 (by omega) G (Xh5 a7) (by decide) D;have P:Xa4 wt q:=⟨a6.rd.far H D,a6.len⟩;have aa:=ap.chg D H;have ab:=(((O.mono fun _ _ h=>h.elim).trans (E.mono fun z _ a=>h.f1 z a)).since D (fun z a e=>by omega));have T:q.pages.length≤4096:=by
    have e:q.pages=(Xiv S.c s (o:Nat) size).pages:=by rw [eQ,← l]; rfl
    rw [e]; exact pf
   rw [← eQ] at l;rw [← eS] at a9;have K:=a9;have ac:=XtO (c:=S.c) (q:=q) Q T;obtain ⟨hn,ehn⟩:=Int.eq_ofNat_of_zero_le ac.1;have ad:∀ w',Chg XaW wt w'→Xan Tryz.prog 159 #[vwV S.v,.agg (Xm6 q).toArray] w' (Grow (.int .i64 ((hn:Nat):Int)) w'):=fun w' p=>by
    have:=XtT S.v q w' ((K.grow p).vw) (P.grow p) (by omega);rw [aw,ehn] at this;exact this
   have ae:XtQ S.c q=true:=by rw [XtR,l]; exact pv
   obtain ⟨y1,y2,y3,y4⟩:=Xix S.c s (o:Nat) size;refine ζd 11 XaW (by kernel_rfl) rfl fun d=>δl d K.obj rfl (δl d B rfl (δl d K.obj rfl (δl d B rfl (δv d (fun w' p=>(ad w' p)) rfl (δn d rfl fun wa f => ?_)))));have ha:=K.grow f;have ag:=f.heap' B;refine ζc rfl (Xr1 ha Q (by rw [y3]; exact hs.bl) q 0 hn (P.grow f) n (Xeu ae (by omega) (by omega) (by omega)) T) ?_;rintro _ wb ⟨rfl,U,r⟩;refine ζa rfl ?_;have ah:=r.heap ag G;have H:Xa4 wb q:=⟨((P.grow f).rd).far n r,P.len⟩;refine ζd 8 XaW (by kernel_rfl) rfl fun d=>δl d U.obj rfl (δl d ah rfl (Xaq.build hTT d rfl rfl (δn d rfl fun wc t => ?_)));have u:=U.grow t;obtain ⟨al,V⟩:=u.th;refine Xay.mapset hTT rfl (V.1) fun wd I J ba=>ζa rfl ?_;have ai:=V.put (o:=o) (size:=size) (q:=q) (qm:=Xiv S.c s (o:Nat) size) l (by show o<(Xiw S.c s (o:Nat) size).th.length; rw [y1]; exact ho) I J u.f2.2.2.2.1 (H.grow t) n (((aa.grow f).chg r n).grow t);have A:=u.setTh J ai;refine ζl A.obj rfl (ζj rfl (ζs A.obj rfl fun wf aj W bb => ?_));have a2:=A.setBy (by2:=by'+size) W aj;have ak:=(((f.mono fun _ _ h=>h.elim).trans r).trans (t.mono fun _ _ h=>h.elim)).trans ((J.mono fun z _ e=>e▸u.f2.2.2.2.1).trans (W.mono fun z _ e=>e▸A.f2.1));have eL:XrD S.c s (o:Nat) size={XrF S.c (Xiw S.c s (o:Nat) size) (Xm8 q) 0 (Xu1 hn) with th:=(Xiw S.c s (o:Nat) size).th.set o (some ⟨size,Xiv S.c s (o:Nat) size⟩)}:=by
    unfold XrD;rw [y1,l,Int.toNat_natCast,← l,← XtP,ehn,Int.toNat_natCast]
   rw [eL];exact ζr Tryz.func99 rfl (.trans a8 ab (.of a2 ak))
 ·obtain ⟨m,g⟩:=Option.ne_none_iff_exists'.1 g;have eS:Xiw S.c s (o:Nat) size=XeB {s with mv:=s.mv.set (XmC S.c.classes size).toNat none,rm:=Xoy s.rm (XmC S.c.classes size) m.pt m.ta (o:Nat)} 3:=by unfold Xiw; rw [g]
  have eQ:Xiv S.c s (o:Nat) size=⟨XmC S.c.classes size,m.pt,m.ta,[]⟩:=by unfold Xiv; rw [g]
  obtain ⟨hm,ax⟩:XrE s (XmC S.c.classes size)=some m∧Xow s.rm (XmC S.c.classes size)=0:=by
   unfold XsV at g;cases hm:XrE s (XmC S.c.classes size) with
   |none=>rw [hm] at g; cases g
   |some m' =>
    rw [hm] at g;simp only at g
    split at g
    ·rename_i ho; cases g; exact ⟨rfl,ho⟩
    ·cases g
  obtain ⟨k,ek,hk,bw⟩:=Xkw hm;obtain ⟨mb,hx⟩:=Xkq N bw;have bh:k<mo.length:=by rw [h.mol]; exact hk
  rw [hm];refine ζy rfl (ζl N.obj rfl (ζw (Xo4 N.room (XmC S.c.classes size)) rfl (ζY rfl (by rw [ax]; rfl) (ζl N.obj rfl ?_))));rw [ek,Int.toNat_natCast] at eS;rw [ek] at eQ;rw [ek];refine Xay.index hTT rfl (j:=k*6) (by omega) (show (k:Int)<(s.mv.length:Nat) by omega) (by simp) rfl ?_;refine Xay.loadC hTT ([.int .i64 m.pf,.int .i64 m.fa,.int .i64 m.pt,.int .i64 m.ta]) rfl (by first | rfl | (simp; done) | (simp [*]; done) | (simp; omega)) ((fun j v hv=>by have hj:j<4:=(List.getElem?_eq_some_iff.1 hv).1; show w2.cell? ⟨S.vb,0+k*6+2+j,none⟩=_; rw [Nat.add_assoc]; exact N.mcell hx (i:=2+j) (by omega) (by rw [← hv]; show ([.pointer (some ⟨mb,0,none⟩),.int .i64 m.who,.int .i64 m.pf,.int .i64 m.fa,.int .i64 m.pt,.int .i64 m.ta]:List Value)[2+j]? = _; rw [Nat.add_comm]; rfl))) rfl ?_;refine ζn rfl fun xb w3 e3 bi bz ch=>ζs bi rfl fun w4 bj c0 ci => ?_;have az:=a4.size;have aq:=bz.since c0 (fun z a e=>by omega);have ar:=O.trans aq;have h4:=h.grow ar;have c1:=aq.heap' R;have b3:¬ F xb:=fun a=>by have:=h.low xb a; omega
  refine ζl h4.obj rfl (ζb rfl (Xay.index hTT rfl (j:=k*6) (by omega) (show (k:Int)<(s.mv.length:Nat) by omega) (by simp) rfl (ζS rfl h4.mvs (Xkz (y:=none) bh) rfl fun w5 bk am cj => ?_)));have h5:=h4.setMv (x:=none) am bk (fun _ _ e=>by cases e);have a3:=am.heap bj (fun e=>b3 (e▸h.f2.2.2.2.2));have c3:=am.heap c1 (fun e=>L (e▸h.f2.2.2.2.2));refine ζd 10 XaW (by kernel_rfl) rfl fun d=>δl d h5.obj rfl (δl d a3 rfl (δl d a3 rfl (δn d rfl fun w6 a0 => ?_)));have h6:=h5.grow a0;refine ζc rfl (Xo5 h6.room (k:Nat) m.pt m.ta (o:Nat)) ?_;rintro _ w7 ⟨rfl,⟨Fr',hr,C,an⟩⟩;refine ζa rfl ?_;have h7:=h6.roomed hr C an;have bm:=an.heap (a0.heap' a3) (fun a=>b3 (h.f1 _ a));have c5:=an.heap (a0.heap' c3) (fun a=>L (h.f1 _ a));have ck:w2.heap.size≤w6.heap.size:=by have:=aq.size; have:=a0.size; omega
  have b4:∀ z,Fr' z→F z∨w.heap.size≤z:=fun z a=>(C z a).imp (h.f1 z) (by omega);have au:¬ Fr' b:=fun a=>(C b a).elim (fun a=>L (h.f1 _ a)) (by have:=Xjs R; omega);have bn:¬ Fr' xb:=fun a=>(C xb a).elim (fun a=>b3 (h.f1 _ a)) (by have:=Xjs a3; have:=a0.size; have:=Xjs (a0.heap' a3); omega);refine ζl h7.obj rfl (ζc rfl (Xr2 h7 3) ?_);rintro _ w8 ⟨h8,av⟩;refine ζa rfl ?_;have b5:=av.heap bm bn;have bc:=av.heap c5 au;refine ζl b5 rfl (ζl b5 rfl (ζb rfl (ζs bc rfl fun wt B D b9 => ?_)));obtain ⟨q,eq⟩:∃ q:Plc,q=⟨(k:Nat),m.pt,m.ta,none,0,[]⟩:=⟨_,rfl⟩;have l:Xm8 q=Xiv S.c s (o:Nat) size:=by rw [eQ,eq]; rfl
  have P:Xa4 wt q:=eq▸Xm7 _ _ _;have M:∀ b' off s',q.pa≠some ⟨b',off,s'⟩:=fun b' off s' e=>by rw [eq] at e; cases e
  have aa:XaD wt q.pa:=fun b' off s' e=>absurd e (M b' off s');have n:XaX (fun z=>(F z∨Fr' z)∨Fr' z) q.pa:=fun b' off s' e=>absurd e (M b' off s');have T:q.pages.length≤4096:=by rw [eq]; simp
  replace B:wt.heap[b]? = some (.cells (Xm6 q).toArray 98 (0,0)):=by rw [eq]; exact B
  have bo:∀ al,XaL w S.tm al→XaL w8 S.tm al:=fun al I=>((((I.chg ar id).chg am (Xib h4.kds.2.2.2.1 h4.kds.2.2.2.2.1 (by simp))).chg a0 id).chg an h.nr.2.2.2.1).chg av (h7.nr.2.2.2.1);have G:¬ ((F b∨Fr' b)∨Fr' b):=fun a=>a.elim (fun a=>a.elim L au) au;have a8:∀ z,((F z∨Fr' z)∨Fr' z)→F z∨w.heap.size≤z:=fun z a=>a.elim (fun a=>a.elim .inl (b4 z)) (b4 z);have K:=Xbz.loc h bo h8 (by omega) G (Xh5 bc) (by decide) D;have bp:=((ar.mono fun _ _ h=>h.elim).trans (am.mono fun z _ e=>e▸h.f2.2.2.2.2)).trans (a0.mono fun _ _ h=>h.elim);have ab:=((bp.trans (an.mono fun z _ a=>h.f1 z a)).since av (fun z a hf=>(b4 z hf).elim id (by omega))).since D (fun z a e=>by omega);have c6:=eS;replace K:Xbz (fun z=>(F z∨Fr' z)∨Fr' z) Fr' wt S (Xiw S.c s (o:Nat) size) by' (mo.set k none):=by rw [c6]; exact K
  have ac:=XtO (c:=S.c) (q:=q) Q T;obtain ⟨hn,ehn⟩:=Int.eq_ofNat_of_zero_le ac.1;have ad:∀ w',Chg XaW wt w'→Xan Tryz.prog 159 #[vwV S.v,.agg (Xm6 q).toArray] w' (Grow (.int .i64 ((hn:Nat):Int)) w'):=fun w' p=>by
   have:=XtT S.v q w' ((K.grow p).vw) (P.grow p) (by omega);rw [aw,ehn] at this;exact this
  have ae:XtQ S.c q=true:=by rw [XtR,l]; exact pv
  obtain ⟨y1,y2,y3,y4⟩:=Xix S.c s (o:Nat) size;refine ζd 11 XaW (by kernel_rfl) rfl fun d=>δl d K.obj rfl (δl d B rfl (δl d K.obj rfl (δl d B rfl (δv d (fun w' p=>(ad w' p)) rfl (δn d rfl fun wa f => ?_)))));have ha:=K.grow f;have ag:=f.heap' B;refine ζc rfl (Xr1 ha Q (by rw [y3]; exact hs.bl) q 0 hn (P.grow f) n (Xeu ae (by omega) (by omega) (by omega)) T) ?_;rintro _ wb ⟨rfl,U,r⟩;refine ζa rfl ?_;have ah:=r.heap ag G;have H:Xa4 wb q:=⟨((P.grow f).rd).far n r,P.len⟩;refine ζd 8 XaW (by kernel_rfl) rfl fun d=>δl d U.obj rfl (δl d ah rfl (Xaq.build hTT d rfl rfl (δn d rfl fun wc t => ?_)));have u:=U.grow t;obtain ⟨al,V⟩:=u.th;refine Xay.mapset hTT rfl (V.1) fun wd I J ba=>ζa rfl ?_;have ai:=V.put (o:=o) (size:=size) (q:=q) (qm:=Xiv S.c s (o:Nat) size) l (by show o<(Xiw S.c s (o:Nat) size).th.length; rw [y1]; exact ho) I J u.f2.2.2.2.1 (H.grow t) n (((aa.grow f).chg r n).grow t);have A:=u.setTh J ai;refine ζl A.obj rfl (ζj rfl (ζs A.obj rfl fun wf aj W bb => ?_));have a2:=A.setBy (by2:=by'+size) W aj;have ak:=(((f.mono fun _ _ h=>h.elim).trans r).trans (t.mono fun _ _ h=>h.elim)).trans ((J.mono fun z _ e=>e▸u.f2.2.2.2.1).trans (W.mono fun z _ e=>e▸A.f2.1));have eL:XrD S.c s (o:Nat) size={XrF S.c (Xiw S.c s (o:Nat) size) (Xm8 q) 0 (Xu1 hn) with th:=(Xiw S.c s (o:Nat) size).th.set o (some ⟨size,Xiv S.c s (o:Nat) size⟩)}:=by
   unfold XrD;rw [y1,l,Int.toNat_natCast,← l,← XtP,ehn,Int.toNat_natCast]
  rw [eL];exact ζr Tryz.func99 rfl (.trans a8 ab (.of a2 ak))
def szT:Option ThM→Int
 |some t=>t.size
 |none=>0
theorem Xtc:∀ l:List (Option ThM),(Xtb l).sum=(l.map szT).sum
 |[]=>rfl
 |none::l=>by
  have:=Xtc l;unfold Xtb at *;simp [szT,this]
 |some t::l=>by
  have:=Xtc l;unfold Xtb at *;simp [szT,this]
theorem Xru (s:StM):Xrt s=(s.th.map szT).sum:=Xtc s.th
theorem XsC:∀ (l:List Int) (i:Nat) (v:Int) (hi:i<l.length),(l.set i v).sum=l.sum - l[i]+v
 |a::l,0,v,_=>by simp [List.set]; omega
 |a::l,i+1,v,h=>by
  have:=XsC l i v (by simpa using h);simp [List.set,this]; omega
theorem XdX {l:List (Option ThM)} {o:Nat} {x y:Option ThM} (h:l[o]? = some x):((l.set o y).map szT).sum=(l.map szT).sum - szT x+szT y:=by
 obtain ⟨a,e⟩:=List.getElem?_eq_some_iff.1 h;rw [List.map_set,XsC _ _ _ (by simpa using a)];simp [e]
theorem XsB {m:Int} (hm:0≤m):∀ l:List Int,(∀ x ∈ l,0≤x∧x≤m)→0≤l.sum∧l.sum≤l.length*m
 |[],_=>by simp
 |a::l,h=>by
  have c:=XsB hm l fun x b=>h x (List.mem_cons_of_mem _ b);have d:=h a (List.mem_cons_self ..);simp only [List.sum_cons,List.length_cons,Int.natCast_add,Int.add_mul,Int.natCast_one,Int.one_mul];omega
section
variable {c:Conf} {s:StM} {pd:Option (Nat × PlcM)}
theorem Xrv (h:s.OkP c pd):0≤Xrt s∧Xrt s≤8589934592:=by
 have hm:=XjT h.may;have e:c.slots≤4096:=by
  have:=h.may;unfold XjN at this;simp only [Bool.and_eq_true,decide_eq_true_eq,Xuo] at this;omega
 have f:=hm.most;have g:=h.tl;have:=XsB (m:=2097152) (by omega) (s.th.map szT) fun x a=>by
  obtain ⟨y,b,rfl⟩:=List.mem_map.1 a;cases y with
  |none=>exact ⟨by decide,by decide⟩
  |some t =>
   obtain ⟨o,d⟩:=List.mem_iff_getElem?.1 b;have:=h.size o t d;show 0≤t.size∧t.size≤2097152
   omega
 rw [List.length_map] at this;rw [Xru];omega
theorem XdV (h:s.Ok c) (k:Nat) (n:Int):Xrt (XrA s k n)=Xrt s:=by
 unfold XrA;cases hm:XrE s (k:Nat) with
 |none=>rfl
 |some m =>
  obtain ⟨j,ej,d,a⟩:=Xkw hm;obtain ⟨⟨o,t,e1,e2,e3⟩,_⟩:=h.mv j m a;simp only
  split
  ·rfl
  ·rw [Xru,Xru];have b:XrL s m.who=t.size:=by rw [e1]; exact XrM e2
   show ((s.th.set m.who.toNat _).map szT).sum=_
   rw [show m.who.toNat=o by omega,XdX e2,b];show _ - t.size+t.size=_
   omega
theorem XdS (c:Conf) (s:StM) (k:Nat):Xrt (Xrs c s k)=Xrt s:=by unfold Xrt; rw [(Xc9 c s k).1]
theorem XdU (h:s.Ok c) (κ:Int):Xrt (Xrx s κ)=Xrt s:=by
 unfold Xrx;split
 ·rfl
 ·exact XdV h _ _
theorem XdT {o:Nat} {q:PlcM} (h:s.OkP c (some (o,q))):Xrt (Xrw c s q)=Xrt s:=by
 unfold Xrw;split
 ·rfl
 ·rw [XdV (StM.OkP.begin h.dropped _),XdS]; rfl
theorem XdW (o:Nat) (size:Int) {x:Option ThM} (h:s.th[o]? = some x):Xrt (XrD c s (o:Nat) size)=Xrt s - szT x+size:=by
 rw [Xru,Xru];show ((s.th.set (o:Int).toNat _).map szT).sum=_
 rw [Int.toNat_natCast,XdX h];rfl
theorem XdY (o:Int) (i n:Nat):Xrt (XrQ s o i n)=Xrt s:=by
 unfold XrQ;split
 ·split
  ·rfl
  ·rfl
 ·rfl
end
theorem Xsu {F Fr:Nat→Prop} {w:World} {S:Sto} {s:StM} {by':Int} {mo:Mo} {pd:Option (Nat × PlcM)} (h:Xbz F Fr w S s by' mo) (hs:s.OkP S.c pd) (o:Int) (q:Plc) (i n:Nat) (hq:q.cls=(stQ s o).cls) (hi:∀ m,XrE s (stQ s o).cls=some m→i+n≤m.size):Xan Tryz.prog 129 #[XrY S,.int .i64 o,.agg (Xm6 q).toArray,.int .i64 i,.int .i64 n] w (fun _ w'=>Xby F w w' S (XrQ s o i n) by'):=by
 obtain ⟨f1,f2,J⟩:=OkP.few hs;have noF:∀ {S:Nat→Prop} {w w':World},Chg XaW w w'→Chg S w w':=fun h=>h.mono fun _ _ h=>h.elim;refine ζe Tryz.func129 Tryz.ntmps129 rfl (ζn rfl fun b K e1 g d I => ?_);have f:=h.grow d;refine ζd 15 XaW (by kernel_rfl) rfl fun a=>δl a g rfl ?_;rw [hq];refine δw a (fun w' x=>Xso (f.grow x) hs (stQ s o).cls) rfl ?_;cases hm:XrE s (stQ s o).cls with
 |none =>
  have e:XrQ s o i n=s:=by unfold XrQ; rw [hm]
  rw [e];exact Xaq.no hTT a rfl rfl rfl (δn a rfl fun D c=>ζr Tryz.func129 rfl (.of (f.grow c) (noF (d.trans c))))
 |some m =>
  obtain ⟨k,ek,L,r⟩:=Xkw hm;obtain ⟨mb,v⟩:=Xkq f r;have y:=hi m hm;rw [ek] at hq;refine Xaq.yes hTT a rfl rfl rfl (δl a f.obj rfl (δl a g rfl ?_));rw [hq];refine Xaq.index hTT a rfl (j:=k*6) (by omega) (show (k:Int)<(s.mv.length:Nat) by omega) (by simp) rfl (δk a (f.mcell v (i:=1) (by decide) rfl) rfl (δn a rfl fun D c => ?_));have l:=f.grow c;have A:=c.heap' g;by_cases p:m.who=o
  ·have e:XrQ s o i n=XeB {s with bs:=XuI s.bs m.f m.t m.gone i n} (XuJ i n m.gone):=by unfold XrQ; rw [hm]; simp only; rw [if_pos p]
   rw [e];refine ζY rfl (by rw [p]; simp) (ζd 11 XaW (by kernel_rfl) rfl fun a=>δl a l.obj rfl (δl a A rfl ?_));rw [hq];refine Xaq.index hTT a rfl (j:=k*6) (by omega) (show (k:Int)<(s.mv.length:Nat) by omega) (by simp) rfl (δk a (l.mcell v (i:=0) (by decide) rfl) rfl (δn a rfl fun E t => ?_));have B:=l.grow t;refine ζc rfl (Xkh S.A (arV S s) (Xkl mb m) m.gone i n E (B.mvOk hs v) y) ?_;rintro _ M ⟨rfl,C,u⟩;refine ζa rfl ?_;rw [XuL h.amb] at C;obtain ⟨N,O,P,_⟩:=Xks hs r;have G:(XuI s.bs m.f m.t m.gone i n).length=s.bs.length:=by
    unfold XuI;split
    ·rfl
    ·unfold XuJ; exact Xfg (by omega) (by omega)
   exact ζr Tryz.func129 rfl (.of (B.arena' u C.ar G) ((noF ((d.trans c).trans t)).trans (u.mono fun z _ H=>h.footF z H)))
  ·have e:XrQ s o i n=s:=by unfold XrQ; rw [hm]; simp only; rw [if_neg p]
   rw [e];exact ζF rfl (by simpa using p) (ζr Tryz.func129 rfl (.of l (noF (d.trans c))))
def StE (F:Nat→Prop) (w:World) (S:Sto) (s:StM) (e:Int) (v:Value) (w':World):Prop:=v = .int .i64 e∧Xby F w w' S s (Xrt s)
theorem Xr6 {F Fr:Nat→Prop} {w:World} {S:Sto} {s:StM} {mo:Mo} (h:Xbz F Fr w S s (Xrt s) mo) (hs:s.Ok S.c) (o size:Int):Xan Tryz.prog 46 #[XrY S,.int .i64 o,.int .i64 size] w (StE F w S (Xrq S.c s o size) (Xrr S.c s o size)):=by
 have noF:∀ {S:Nat→Prop} {w w':World},Chg XaW w w'→Chg S w w':=fun h=>h.mono fun _ _ h=>h.elim;have same:∀ {w'},Chg XaW w w'→Xrr S.c s o size≠0→Xby F w w' S (Xrq S.c s o size) (Xrt (Xrq S.c s o size)):=fun i t=>by
  have e:Xrq S.c s o size=s:=by unfold Xrq; rw [if_neg t]
  rw [e];exact .of (h.grow i) (noF i)
 have x:=Xrv hs;refine ζe Tryz.func46 Tryz.ntmps46 rfl (ζc rfl (Xsp h (Chg.refl _ _) hs o) ?_);rintro _ C ⟨⟨q,rfl,_⟩,g⟩;refine ζa rfl (ζn rfl fun b D e2 k l y=>ζs k rfl fun E A m B => ?_);have a:=(g.trans l).since m (fun z G e=>by have:=g.size; omega);by_cases e1:Xlz s o=1
 ·have e:Xrr S.c s o size=1:=by unfold Xrr; rw [if_pos e1]
  rw [e1];exact ζy rfl (ζr Tryz.func46 rfl ⟨by rw [e]; rfl,same a (by rw [e]; decide)⟩)
 ·refine ζF rfl (by simpa using e1) ?_;by_cases d:Xlz s o=0
  ·have e:Xrr S.c s o size=10:=by unfold Xrr; rw [if_neg e1,if_pos d]
   rw [d];exact ζy rfl (ζr Tryz.func46 rfl ⟨by rw [e],same a (by rw [e]; decide)⟩)
  ·have e:Xrr S.c s o size=Xry S.c s size:=by unfold Xrr; rw [if_neg e1,if_neg d]
   refine ζF rfl (by simpa using d) ?_;have n:=h.grow a;refine ζv (Xr9 n hs size) rfl fun H f => ?_;by_cases c:Xry S.c s size=0
   ·rw [c];refine ζf rfl ?_;obtain ⟨j,rfl,u,p⟩:=XlB e1 d;have eA:Xrq S.c s (j:Nat) size=XrD S.c s (j:Nat) size:=by unfold Xrq; rw [if_pos (by rw [e]; exact c)]
    have v:=StM.OkP.lay hs p c (by rintro _ _ ⟨⟩);refine ζc rfl (Xsn (n.grow f) hs u c v (by omega)) ?_;rintro _ I r;refine ζa rfl ?_;have eb:Xrt (Xrq S.c s (j:Nat) size)=Xrt s+size:=by rw [eA,XdW j size p]; show _ - 0+_=_; omega
    exact ζr Tryz.func46 rfl ⟨by rw [e,c],by rw [eb,eA]; exact .trans (fun _ h => .inl h) (noF (a.trans f)) r⟩
   ·exact ζY rfl (by simpa using c) (ζr Tryz.func46 rfl ⟨by rw [e],same (a.trans f) (by rw [e]; exact c)⟩)
theorem Xsa {F Fr:Nat→Prop} {w:World} {S:Sto} {s:StM} {mo:Mo} (h:Xbz F Fr w S s (Xrt s) mo) (hs:s.Ok S.c) (o:Int):Xan Tryz.prog 69 #[XrY S,.int .i64 o] w (StE F w S (Xrz S.c s o) (Xlz s o)):=by
 have noF:∀ {S:Nat→Prop} {w w':World},Chg XaW w w'→Chg S w w':=fun h=>h.mono fun _ _ h=>h.elim;have an:=Xrv hs;refine ζe Tryz.func69 Tryz.ntmps69 rfl (ζc rfl (Xsp h (Chg.refl _ _) hs o) ?_);rintro _ w1 ⟨⟨q,rfl,a1,ao,ap,aq⟩,A⟩;refine ζa rfl ?_;have ar:=A.size;refine ζn rfl fun tb w2 e2 H a2 au=>ζs H rfl fun w3 b a3 av => ?_;have c:=(A.trans a2).since a3 (fun z a e=>by omega);have B:¬ F tb:=fun a=>by have:=h.low tb a; omega
 by_cases i:Xlz s o=0
 ·obtain ⟨j,t,rfl,k⟩:=XlA i;have a4:=XrM k;have a5:q.cls=t.q.cls:=by have:=congrArg PlcM.cls a1; rw [XrG k] at this; exact this
  rw [a4] at b;have eF:Xrz S.c s (j:Nat)=Xrw S.c {Xrx s t.q.cls with th:=(Xrx s t.q.cls).th.set j none} (stQ (Xrx s t.q.cls) (j:Nat)):=by
   unfold Xrz; rw [if_neg (fun h=>h i),XrG k,Int.toNat_natCast]
  obtain ⟨t',v,g2,g3,g4,g5⟩:=Xf2 hs k;have I:=(Xf1 hs t.q.cls).ok;have hA:=I.away v g5;rw [XrG v] at eF;have J:Xrt (Xrz S.c s (j:Nat))=Xrt s - t.size:=by
   rw [eF,XdT hA,Xru];show (((Xrx s t.q.cls).th.set j none).map szT).sum=_
   rw [XdX v,← Xru,XdU hs];show _ - t'.size+0=_
   omega
  have aw:=hs.size j t k;have ax:=(XjT hs.may).most;rw [i];refine ζf rfl (ζl b rfl ?_);rw [a5];refine ζc rfl (Xsm (h.grow c) hs t.q.cls) ?_;rintro _ w4 ⟨F4,ay,az,x,l,C⟩;refine ζa rfl ?_;have K:=C.heap b B;have L:¬ F4 tb:=fun a=>(l tb a).elim B (by have:=Xjs b; omega);obtain ⟨al,D⟩:=x.th;obtain ⟨m,k1,k2,k3,k4,k5⟩:=D.2.2.1 j t' v;refine ζl x.obj rfl (Xay.lookup hTT rfl (D.1) ((show Xjf al _ (j:Nat) false = .agg (thL t'.size m).toArray from by unfold Xjf; rw [k2]; rfl)) rfl (Xay.field hTT rfl (show Value.agg ((thL t'.size m).toArray.extract 1 5) = .agg (Xm6 m).toArray from rfl) rfl (ζn rfl fun pb w5 e5 M aa b0=>ζs M rfl fun w6 N ab b1 => ?_)));have d:=aa.since ab (fun z a e=>by omega);have g:=x.grow d;have O:=d.heap' K;have E:¬ F4 pb:=fun a=>by have:=x.low pb a; omega
  obtain ⟨b2,n⟩:=g.th;refine ζl g.obj rfl (Xay.mapdel hTT rfl (n.1) fun w7 P f b3=>ζa rfl ?_);have ac:=n.del (o:=j) P f g.f2.2.2.2.1;have h7:=g.setTh f ac;have Q:=f.heap O (fun e=>L (e▸g.f2.2.2.2.1));have R:=f.heap N (fun e=>E (e▸g.f2.2.2.2.1));refine ζd 6 XaW (by kernel_rfl) rfl fun T=>δl T h7.obj rfl (δl T Q rfl (δn T rfl fun w8 p => ?_));have y:=h7.grow p;have U:=p.heap' R;refine ζj rfl (ζs y.obj rfl fun w9 ae r b4 => ?_);have h9:=y.setBy (by2:=Xrt s - t.size) r ae;have V:=r.heap U (fun e=>E (e▸y.f2.1));have u:=((f.mono fun z _ e=>e▸g.f2.2.2.2.1).trans (noF p)).trans (r.mono fun z _ e=>e▸y.f2.1);have af:Xa4 w9 m:=⟨((k3.grow d).rd).far k4 u,k3.len⟩;refine ζl V rfl (ζc rfl (Xsl h9 m (by rw [k1]; exact hA) af) ?_);rintro _ b5 G;refine ζa rfl ?_;rw [k1] at G;have W:=((noF c).trans C).trans (noF d);have a0:=W.since u (fun z a hf=>(l z hf).elim id (by omega));exact ζr Tryz.func69 rfl ⟨rfl,by rw [J,eF]; exact .trans (fun z a=>(l z a).imp id (by omega)) a0 G⟩
 ·have e:Xrz S.c s o=s:=by unfold Xrz; rw [if_pos i]
  exact ζY rfl (by simpa using i) (ζr Tryz.func69 rfl ⟨rfl,by rw [e]; exact .of (h.grow c) (noF c)⟩)
theorem Xur {c:Conf} {s:StM} {pd:Option (Nat × PlcM)} (hs:s.OkP c pd) {o i n:Int} (h:Xun s o i n=0):∃ (j:Nat),∃ t,∃ i' n':Nat,o=j∧s.th[j]? = some (some t)∧i=i'∧n=n'∧(i'+n':Int)≤t.size∧Xer c t.q.plc i' n'=0∧t.q.pages.length≤4096:=by
 obtain ⟨j,t,e1,e2,e3,e4,e5⟩:=Xuq h;obtain ⟨a,d,b⟩:=XmX hs e2;obtain ⟨i',rfl⟩:=Int.eq_ofNat_of_zero_le e3;obtain ⟨n',rfl⟩:=Int.eq_ofNat_of_zero_le e4;exact ⟨j,t,i',n',e1,e2,rfl,rfl,e5,Xeu a (by omega) (by omega) (by omega),b⟩
theorem Xet {c:Conf} {q:Plc} {qm:PlcM} (e:Xm8 q=qm) {i n:Int} (h:Xer c qm.plc i n=0):Xer c q i n=0:=by rw [Xes,e]; exact h
theorem Own.from' {base base' t size m:Nat} {w:World} {v:Value} {xs:List Value} (h:Own base t size w v m xs) (hb:base'≤base):Own base' t size w v m xs:=by
 obtain ⟨b,a⟩:=h;refine ⟨b,?_⟩;rcases a with a | ⟨g,cap,cur,e,c,r⟩
 ·exact .inl a
 ·exact .inr ⟨g,cap,cur,e,by omega,r⟩
theorem Xsi {F Fr:Nat→Prop} {w:World} {S:Sto} {s:StM} {mo:Mo} (h:Xbz F Fr w S s (Xrt s) mo) (hs:s.Ok S.c) (o i:Int) (a:Option Addr) (cap:Nat) (l:List Int) (hi : -9223372036854775808≤i∧i≤9223372036854775807) (hr:Rd .u8 w a l) (hlc:l.length≤cap) (hl:l.length≤9223372036854775807) (hin:InB l) (hout:0<l.length→XaX F a) :
 Xan Tryz.prog 77 #[XrY S,.int .i64 o,.int .i64 i,.slice a l.length cap] w (StE F w S (XrP S.c s o i l) (Xun s o i l.length)):=by
 have noF:∀ {S:Nat→Prop} {w w':World},Chg XaW w w'→Chg S w w':=fun h=>h.mono fun _ _ h=>h.elim;refine ζe Tryz.func77 Tryz.ntmps77 rfl (ζc rfl (Xst h (Chg.refl _ _) hs o i l.length hi (by omega)) ?_);rintro _ w1 ⟨⟨q,rfl,b,D,E,T⟩,p⟩;refine ζa rfl ?_;have U:=p.size;refine ζn rfl fun tb w2 e2 x G V=>ζs x rfl fun w3 f H W => ?_;have c:=(p.trans G).since H (fun z I e=>by omega);have J:¬ F tb:=fun I=>by have:=h.low tb I; omega
 have y:=h.grow c;by_cases g:Xun s o i l.length=0
 ·obtain ⟨j,t,i',n',rfl,A,rfl,hn,h5,K,L⟩:=Xur hs g;obtain rfl:l.length=n':=by omega
  have M:=XrG A;rw [M] at b;have eW:XrP S.c s (j:Nat) (i':Nat) l=XrQ (XrF S.c s t.q i' l) (j:Nat) i' l.length:=by unfold XrP; rw [if_pos g,M,Int.toNat_natCast]
  rw [g];refine ζf rfl (ζd 8 XaW (by kernel_rfl) rfl fun B=>δl B y.obj rfl (δl B f rfl (δn B rfl fun w4 n => ?_)));have R:=y.grow n;have d:=c.trans n;refine ζc rfl (Xr0 R hs.may hs.bl q i' a cap l (D.grow d) E (Xet b K) (by rw [show q.pages=t.q.pages from congrArg PlcM.pages b]; exact L) (hr.chg d) hlc hin hout) ?_;rintro _ w5 ⟨rfl,r,u⟩;refine ζa rfl ?_;rw [b] at r;have C:=u.heap (n.heap' f) J;have N:=hs.put t.q i' hin;have v:=XrG (s:=XrF S.c s t.q i' l) A;refine ζl C rfl ?_;have O:∀ m,XrE (XrF S.c s t.q i' l) (stQ (XrF S.c s t.q i' l) (j:Nat)).cls=some m→i'+l.length≤m.size:=fun m hm=>by
   rw [v] at hm;obtain ⟨k,ek,_,P⟩:=Xkw hm;have:=Xht hs (k:=k) (m:=m) P A ek;omega
  refine ζc rfl (Xsu r N (j:Nat) q i' l.length (by rw [v,← b]; rfl) O) ?_;rintro _ w6 Q;exact ζa rfl (ζr Tryz.func77 rfl ⟨rfl,by rw [eW,XdY]; exact .trans (fun _ h => .inl h) ((noF d).trans u) Q⟩)
 ·have e:XrP S.c s o i l=s:=by unfold XrP; rw [if_neg g]
  exact ζY rfl (by simpa using g) (ζr Tryz.func77 rfl ⟨rfl,by rw [e]; exact .of y (noF c)⟩)
theorem Xsf {F Fr:Nat→Prop} {w:World} {S:Sto} {s:StM} {mo:Mo} (h:Xbz F Fr w S s (Xrt s) mo) (hs:s.Ok S.c) (o i n:Int) (hi : -9223372036854775808≤i∧i≤9223372036854775807) (hn : -9223372036854775808≤n∧n≤9223372036854775807) :
 Xan Tryz.prog 72 #[XrY S,.int .i64 o,.int .i64 i,.int .i64 n] w (fun v w' => ∃ u,v = .tuple #[u,.int .i64 (Xun s o i n)]∧Own w.heap.size 5 1 w' u (XrI S.c s o i n).length ((XrI S.c s o i n).map (Value.int .u8)) ∧ ∃ mo',Xbz F Fr w' S (XrH S.c s o i n) (Xrt (XrH S.c s o i n)) mo'∧Chg F w w'):=by
 have noF:∀ {S:Nat→Prop} {w w':World},Chg XaW w w'→Chg S w w':=fun h=>h.mono fun _ _ h=>h.elim;refine ζe Tryz.func72 Tryz.ntmps72 rfl (ζc rfl (Xst h (Chg.refl _ _) hs o i n hi hn) ?_);rintro _ w1 ⟨⟨q,rfl,d,C,D,V⟩,p⟩;refine ζa rfl ?_;have W:=p.size;refine ζn rfl fun tb g e2 r E a0=>ζs r rfl fun N x G a4 => ?_;have a:=(p.trans E).since G (fun z b e=>by omega);have H:¬ F tb:=fun b=>by have:=h.low tb b; omega
 have y:=h.grow a;by_cases c:Xun s o i n=0
 ·obtain ⟨j,t,i',n',rfl,O,rfl,rfl,h5,I,J⟩:=Xur hs c;have A:=XrG O;rw [A] at d;have eR:XrH S.c s (j:Nat) (i':Nat) (n':Nat)=XeB s (Xeh S.c t.q.plc i' n'):=by unfold XrH; rw [if_pos c,A,Int.toNat_natCast,Int.toNat_natCast]
  have eB:XrI S.c s (j:Nat) (i':Nat) (n':Nat)=Xto S.c t.q.plc s.bs i' n':=by unfold XrI; rw [if_pos c,A,Int.toNat_natCast,Int.toNat_natCast]
  have B:(Xto S.c t.q.plc s.bs i' n').length=n':=by unfold Xto; rw [List.length_map,List.length_range]
  rw [c];refine ζf rfl ?_;have P:∀ w',Chg XaW N w'→Xan Tryz.prog 126 #[vwV S.v,.agg (Xm6 q).toArray,.int .i64 (i':Nat),.int .i64 (n':Nat)] w' (fun v g=>Chg (Xgh S.A) w' g ∧ ∃ f,v = .tuple #[f,.int .i64 0]∧Xbz F Fr g S (XeB s (Xeh S.c t.q.plc i' n')) (Xrt s) mo∧Own w.heap.size 5 1 g f n' ((Xto S.c t.q.plc s.bs i' n').map (Value.int .u8))):=fun w' k=>by
   have K:=XrZ (y.grow k) hs.may hs.bl q i' n' (C.grow (a.trans k)) D (Xet d I) (by rw [show q.pages=t.q.pages from congrArg PlcM.pages d]; exact J);rw [d] at K;exact K.mono fun v g ⟨f,e,Q,R,T⟩=>⟨R,f,e,Q,T.from' (by have:=a.size; have:=k.size; omega)⟩
  have a5:¬ Xgh S.A S.sb:=fun b=>b.elim (Xib h.kds.1 h.kds.2.2.1 (by decide)) (fun e=>by rw [h.amb] at e; exact Xib h.kds.1 h.kds.2.2.2.2.2 (by decide) (Option.some.inj e).symm);have a6:¬ Xgh S.A tb:=fun b=>H (h.footF _ b);refine ζd 11 (Xgh S.A) (by kernel_rfl) rfl fun l=>δl l y.obj rfl (δl l x rfl (Xaq.callQ l rfl rfl (P) ?_));rintro _ w4 L ⟨f,rfl,U,M⟩;refine Xaq.adv hTT l rfl (δn l rfl fun w5 m => ?_);rw [eR,eB,B];exact ζr Tryz.func72 rfl ⟨f,rfl,M.chg m (fun _ _=>id),_,U.grow m,(((noF a).trans (L.mono fun z _ b=>h.footF z b)).trans (noF m))⟩
 ·have e:XrH S.c s o i n=s:=by unfold XrH; rw [if_neg c]
  have eB:XrI S.c s o i n = []:=by unfold XrI; rw [if_neg c]
  rw [e,eB];exact ζY rfl (by simpa using c) (ζr Tryz.func72 rfl ⟨_,rfl,⟨rfl,.inl ⟨rfl,rfl⟩⟩,_,y,noF a⟩)
theorem XuM (s:StM) (o:Int) (i n:Nat):(XrQ s o i n).th=s.th:=by
 unfold XrQ;split
 ·split <;> rfl
 ·rfl

def Rm.relap (R:Rm) (l:Int):Rm:={R with lap:=l}
def Sto.relap (S:Sto) (l:Int):Sto:={S with R:=S.R.relap l}
theorem Xbe.relap {F:Nat→Prop} {w w':World} {R:Rm} {M:RmM} (h:Xbe F w R M) {b:Nat} (hb:R.mo=some b) {t l:Int} (hm:XaO w' b t l) (hc:Chg (fun z=>z=b) w w'):Xbe F w' (R.relap l) {M with tot:=t}:=by
 obtain ⟨n,p⟩:=h.met b hb;have kb:=Xia p;have g:∀ z,z=b→F z:=fun z e=>e▸n;have kp:=h.pool.kds;have j:=Xib kp.1 kb (by decide);have m:=Xib kp.2 kb (by decide);have q:=Xib (Xh7 h.lg) kb (by simp);have r:1≠b:=fun e=>h.tf (e▸n);refine ⟨{h.ok with tot:=by have:=hm.2; show 0≤t∧t≤4611686018427387904; omega},hc.heap h.obj (fun e=>h.rf (g _ e)),h.cls.chg hc g,h.kee.chg hc g,h.may,fun b' c => ?_,fun k s=>hc.cell (h.sl k s) (fun e=>h.sf (g _ e)),h.pool.chg hc j m,h.pf,?_,h.lg.chg hc (fun z _ h => .inl (g z h)) q,h.lf,h.rf,h.sf,fun z i=>by have:=h.low z i; have:=hc.size; omega,h.tab.chg hc r,h.tf,fun z i=>⟨by have:=(h.xl z i).1; have:=hc.size; omega,(h.xl z i).2⟩⟩
 ·replace c:R.mo=some b':=c;rw [hb] at c; cases c; exact ⟨n,hm⟩
 ·obtain ⟨G,a,d⟩:=h.sh;refine ⟨G,fun k x u => ?_,d⟩;obtain ⟨o,f,v⟩:=a k x u;have ap:=f.at'.apart kb (by decide);exact ⟨o,⟨f.ok,f.pos,f.of,f.at'.chg hc (fun z e=>e▸ap.1) (fun z e=>e▸ap.2) r,f.pool.chg hc (by rw [o]; exact j) (by rw [o]; exact m)⟩,v⟩
theorem Xbz.relap {F Fr:Nat→Prop} {w w':World} {S:Sto} {s:StM} {by':Int} {mo:Mo} (h:Xbz F Fr w S s by' mo) {l:Int} (hm:XaO w' S.mb s.rm.tot l) (hc:Chg (fun z=>z=S.mb) w w'):Xbz F Fr w' (S.relap l) s by' mo:=by
 obtain ⟨i,j,n,o,p,a⟩:=h.kds;obtain ⟨q,r,t,v,x,y⟩:=h.nF;have c:∀ z,z=S.mb→F z:=fun z e=>e▸h.mb.1;have f:=h.ca.chg hc c;have g:=h.ka.chg hc c;exact {h with
  obj:=hc.heap h.obj (Xib i a (by decide)),kee:=hc.heap h.kee (Xib j a (by decide)),room:=h.room.relap h.rmo hm hc,
  ar:=⟨hc.heap h.ar.obj (fun e=>q (c _ e)),hc.heap h.ar.dat (Xib n a (by decide)),hc.heap h.ar.cap (fun e=>r (c _ e)),fun b d=>by
   replace d:S.A.mb=some b:=d;rw [h.amb] at d; cases d; exact hm,h.ar.len,h.ar.rng⟩,
  vw:=⟨hc.heap h.vw.obj (fun e=>t (c _ e)),by
   show Xam w' S.v.c S.v.p
   have:=h.vw.conf;rw [h.vc,h.vp] at this ⊢;exact ⟨f.1,g.1,this.lc,this.lk,this.size⟩,h.vw.may⟩,
  th:=h.th.far hc c (Xib o a (by simp)),mvs:=hc.heap h.mvs (Xib p a (by decide)),mob:=h.objAt hc (fun k b m hm=>Xib (h.kdm hm) a (by decide)),ca:=f,ka:=g,
  low:=fun z u=>by have:=h.low z u; have:=hc.size; omega}
theorem Xsh {F Fr:Nat→Prop} {w:World} {S:Sto} {s:StM} {by':Int} {mo:Mo} (h:Xbz F Fr w S s by' mo) (b:Nat) (hb:Xrp w b (XrY S)):Xan Tryz.prog 100 [.pointer (some ⟨b,0,none⟩)].toArray w (fun v w' => ∃ n:Int,v = .int .i64 n∧n=s.rm.tot - S.R.lap∧Xbz F Fr w' (S.relap s.rm.tot) s by' mo∧Chg (fun z=>z=S.mb) w w'):=by
 refine ζe Tryz.func100 Tryz.ntmps100 rfl (ζk rfl (Xd6 (off:=0) hb rfl) rfl (ζl h.obj rfl (ζc rfl (Xj1 S.mb s.rm.tot S.R.lap w h.mb.2.2) ?_)));rintro _ c ⟨rfl,hm,a⟩;exact ζa rfl (ζr Tryz.func100 rfl ⟨_,rfl,rfl,h.relap hm a,a⟩)
theorem Xsg {F Fr:Nat→Prop} {w:World} {S:Sto} {s:StM} {by':Int} {mo:Mo} (h:Xbz F Fr w S s by' mo):Xan Tryz.prog 47 #[XrY S] w (fun v w'=>v = .int .i64 (s.rm.tot - S.R.lap)∧Xbz F Fr w' (S.relap s.rm.tot) s by' mo∧Chg (fun z=>z=S.mb) w w'):=by
 refine ζe Tryz.func47 Tryz.ntmps47 rfl (ζn rfl fun b e e1 c a g=>ζk rfl (Xd6 (off:=0) c rfl) rfl (ζc rfl (Xsj (S:=S) 100 [.pointer (some ⟨b,0,none⟩)] e _ (Xsh (h.grow a) b c)) ?_));rintro _ i ⟨n,rfl,rfl,f,d⟩;exact ζa rfl (ζr Tryz.func47 rfl ⟨rfl,f,(a.mono fun _ _ h=>h.elim).trans d⟩)
theorem XeV (a:Option Addr) (cap:Nat) (x:List Int) (w:World) (hr:Rd .i64 w a x) (hl:x.length≤1048576) (hn:∃ a1,a=some a1):Xan Tryz.prog 85 #[.slice a x.length cap] w
 (fun v w' => ∃ g c r,v = .slice (some ⟨g,0,none⟩) x.length c∧w.heap.size≤g∧w'.heap[g]? = some (.cells (x.map (Value.int .i64)++r).toArray 3 (0,0))∧x.length≤c∧Chg XaW w w'):=by
 have t:maxLen=9223372036854775807:=rfl;obtain ⟨a1,rfl⟩:=hn;refine Xan.enter Tryz.func85 rfl Tryz.ntmps85 rfl rfl ?_;refine ζa rfl ?_;refine Xay.no hTT rfl rfl rfl ?_;refine Xay.buildSlice hTT rfl ?_;intro b m e1 n d u;refine ζa rfl ?_;subst e1;have i:Own w.heap.size 3 1 m (.slice (some ⟨w.heap.size,0,none⟩) 0 0) 0 []:=Own.empty (Nat.le_refl _) n;refine Xay.append (base:=w.heap.size) (xs := []) (news:=x.map (Value.int .i64)) hTT rfl i (by omega) (by simp) (hr.chg d).cells Xm1 ⟨by omega,by show (0+x.length)*8≤_; omega⟩ ?_;intro v y f j k;refine ζa rfl ?_;rw [Nat.zero_add,List.nil_append] at f;have o:=i.since d (Nat.le_refl _) j;rcases f.2 with ⟨e,_⟩ | ⟨g,c,cur,rfl,p,q,s,z,_,l⟩
 ·have:=(k.1.1 e).1; cases this
 ·have h:cur=(x.map (Value.int .i64)++cur.toList.drop x.length).toArray:=by
   rw [Nat.mul_one] at l;rw [← l,List.take_append_drop]
  exact Xay.ret1 hTT rfl Tryz.func85 rfl rfl ⟨g,c,cur.toList.drop x.length,rfl,p,by rw [← h]; exact q,s,o⟩
theorem Xu0:∀ n,XuS [.pointer none,.int .i64 0,.int .i64 0,.int .i64 0,.int .i64 0,.int .i64 0] n=fl Xkx (List.replicate n none)
 |0=>rfl
 |n+1=>by rw [XuS,Xu0 n,List.replicate_succ]; rfl
theorem Xse (c:Conf) (p:Xal) (w:World) (hc:Xam w c p) (hm:XjN c=false):Xan Tryz.prog 36 #[.agg (Xe6 c p).toArray] w (Grow (.tuple #[.pointer none,.int .i64 1]) w):=by
 refine ζe Tryz.func36 Tryz.ntmps36 rfl (ζn rfl fun b e e1 f a g => ?_);refine ζl f rfl (ζv (Xe9 c p e (hc.chg a)) rfl fun h d => ?_);have em:XjQ c=1:=by unfold XjQ; rw [if_neg (by rw [hm]; decide)]
 rw [em];exact ζy rfl (ζr Tryz.func36 rfl ⟨rfl,a.trans d⟩)
structure XaV (c:Conf) (w:World) (g cap:Nat) (r:List Value) (mb tm vb:Nat):Prop where
 g:w.heap[g]? = some (.cells (c.keep.map (Value.int .i64)++r).toArray 3 (0,0))
 gc:c.keep.length≤cap
 m:XaO w mb 0 0
 t:XaL w tm []
 v:w.heap[vb]? = some (.cells (fl Xkx (List.replicate c.classes.length none)).toArray 190 (0,0))
theorem XaV.grow {c:Conf} {w w':World} {g cap:Nat} {r:List Value} {mb tm vb:Nat} (h:XaV c w g cap r mb tm vb) (hc:Chg XaW w w'):XaV c w' g cap r mb tm vb:=⟨hc.heap' h.g,h.gc,h.m.chg hc,h.t.chg hc id,hc.heap' h.v⟩
def XkK (c:Conf) (p:Xal) (g cap mb tm vb:Nat) (a r v:Value):List Value:=Xe6 c p ++ [.slice (some ⟨g,0,none⟩) c.keep.length cap,.pointer (some ⟨mb,0,none⟩),a,r,v,.map (some tm),.slice (some ⟨vb,0,none⟩) c.classes.length c.classes.length,.int .i64 0]
theorem XaV.note {c:Conf} {w w':World} {g cap:Nat} {r:List Value} {mb tm vb xb:Nat} (h:XaV c w g cap r mb tm vb) (hc:Chg (fun z=>z=xb) w w') (h1:g≠xb) (h2:mb≠xb) (h3:tm≠xb) (h4:vb≠xb):XaV c w' g cap r mb tm vb :=
 ⟨hc.heap h.g h1,h.gc,⟨hc.heap h.m.1 h2,h.m.2⟩,h.t.chg hc h3,hc.heap h.v h4⟩
theorem Xbe.apart {F:Nat→Prop} {w w':World} {R:Rm} {M:RmM} (h:Xbe F w R M) {w0:World} (hcf:Xam w0 R.c R.p) (ht:XbA w0) {xb t:Nat} {l:List Value} {n:Int} {fz:Nat × Nat} (hx:w.heap[xb]? = some (.cells (.int .i64 n::l).toArray t fz)) (h0:w0.heap.size≤xb) (hF:¬ F xb) (htk:t≠329∧t≠325∧t≠3∧t≠206) (hc:Chg (fun z=>z=xb) w w'):Xbe F w' R M:=by
 have hm:=XjT h.may;have a:=Xh5 hx;refine h.other hc fun z e=>e▸⟨hF,Xib (Xh5 h.obj) a (fun e=>htk.2.2.2 (Option.some.inj (Option.some.inj e)).symm),fun e => ?_,fun e => ?_,fun off s e => ?_,fun off s e => ?_,?_,?_,fun e => ?_⟩
 ·have b:=h.sl 0 (by have:=hm.n; have:=h.ok.n; omega);rw [e,Xd7 hx] at b;cases b
 ·have:=World.block_lt_of_cell? w0 _ (ht 0 (by decide));simp only at this
  omega
 ·have:=hcf.classes.block (by have:=hm.n; omega) e;omega
 ·have:=hcf.keep.block (by have:=hm.keep; have:=hm.n; omega) e;omega
 ·rw [a]; exact fun e=>htk.1 (Option.some.inj (Option.some.inj e))
 ·rw [a]; exact fun e=>htk.2.1 (Option.some.inj (Option.some.inj e))
 ·rw [a] at e; exact absurd (Option.some.inj (Option.some.inj e)) htk.2.2.1
theorem Xr3 {c:Conf} {p:Xal} {w w7 w':World} {g cap mb tm vb xb vw:Nat} {r:List Value} {A:Ar} {R:Rm} {Fr:Nat→Prop} (hc:Xam w c p) (ht:XbA w) (hcw:Chg XaW w w') (hm:XjN c=true)
 (hx:w'.heap[xb]? = some (.cells (XkK c p g cap mb tm vb (.pointer (some ⟨A.ab,0,none⟩)) (rmV R) (.pointer (some ⟨vw,0,none⟩))).toArray 135 (0,0))) (hN:XaV c w' g cap r mb tm vb)
 (hA:Xag w' A ⟨Xu1 (c.pages*c.size).toNat,0,0⟩) (hAm:A.mb=some mb) (hR:Xbe Fr w' R (XkM c 0)) (hRc:R.c=c) (hRp:R.p=p) (hRm:R.mo=some mb) (hRl:R.lap=0) (hRX:R.X=fun z=>z=g)
 (hV:XbO w' ⟨vw,c,p,A.ab,some mb⟩) (hFr:∀ z,Fr z→w7.heap.size≤z∨z=mb) (hFv:¬ Fr vw) (h7:w.heap.size≤w7.heap.size)
 (l1:w.heap.size≤g∧g<w7.heap.size) (l2:w.heap.size≤mb) (l3:w.heap.size≤tm∧tm<w7.heap.size) (l4:w.heap.size≤vb∧vb<w7.heap.size) (l5:w.heap.size≤xb∧xb<w7.heap.size) (l6:w.heap.size≤A.db∧A.db<w7.heap.size) (l7:A.ab<w7.heap.size∧A.mc<w7.heap.size) :
 ∃ F Fr S mo,XrY S = .pointer (some ⟨xb,0,none⟩)∧Xbz F Fr w' S (XkU c) 0 mo∧(S.c=c∧S.p=p)∧S.R.lap=0 ∧ ∀ z,F z→w.heap.size≤z:=by
 have d:=XjT hm;have kx:=Xh5 hx;have kg:=Xh5 hN.g;have km:=Xia hN.m;have kt:=Xh9 hN.t;have kv:=Xh5 hN.v;have kd':=Xh5 hA.dat;have ka:=Xh5 hA.obj;have kc:=Xh5 hA.cap;have kw:=Xh5 hV.obj;have kr:=Xh5 hR.obj;have hz:(Xu1 (c.size*c.pages).toNat)=Xu1 (c.pages*c.size).toNat:=by rw [Int.mul_comm]
 have nfr:∀ {z:Nat},z<w7.heap.size→z≠mb → ¬ Fr z:=fun x y h=>(hFr _ h).elim (by omega) y;have i:∀ z,(Fr z∨z=xb∨z=g∨z=A.db∨z=tm∨z=vb)→w.heap.size≤z:=fun z hz=>by
  rcases hz with hz | rfl | rfl | rfl | rfl | rfl
  ·rcases hFr z hz with h | h <;> omega
  all_goals omega
 have f:=hR.sl 0 (by have:=d.n; have:=hR.ok.n; rw [hRc] at this; omega);have nsb:∀ {b t:Nat} {v:Value} {l:List Value} {fz:Nat × Nat},w'.heap[b]? = some (.cells (v::l).toArray t fz)→v≠sfV (R.S 0)→R.sb≠b:=fun E G e=>by
  rw [e,Xd7 E] at f;exact G (Option.some.inj f)
 have q:=d.keep;have N:=d.n;have sbt:R.sb≠tm:=fun e=>by
  obtain ⟨es,clock,B,_⟩:=hN.t;rw [e] at f;unfold World.cell? at f;simp [B] at f
 have sbg:R.sb≠g:=by
  obtain ⟨C,kl,ek⟩:∃ C kl,c.keep=C::kl:=by cases H:c.keep with | nil=>rw [H] at q; simp at q; omega | cons a b=>exact ⟨a,b,rfl⟩
  have:=hN.g;rw [ek] at this;exact nsb this (fun e=>by cases e)
 have sbv:R.sb≠vb:=by
  obtain ⟨n,en⟩:∃ n,c.classes.length=n+1:=⟨c.classes.length - 1,by omega⟩;have:=hN.v;rw [en,List.replicate_succ] at this;exact nsb this (fun e=>by cases e)
 have sbd:R.sb≠A.db:=by
  obtain ⟨n,en⟩:∃ n,(c.pages*c.size).toNat=n+1:=⟨(c.pages*c.size).toNat - 1,by
   have x:1*64≤c.pages*c.size:=Int.mul_le_mul (by have:=d.pages; omega) (by have:=d.size; omega) (by omega) (by have:=d.pages; omega);omega⟩
  have:=hA.dat;simp only [en,Xu1,List.replicate_succ] at this;exact nsb this (fun e=>by cases e)
 have sbx:=nsb hx (fun e=>by cases e);have tl:1<w.heap.size:=by have:=World.block_lt_of_cell? w _ (ht 0 (by decide)); exact this
 have far:∀ {a:Option Addr} {l:List Int},Rd .i64 w a l→Far (fun z=>Fr z∨z=xb∨z=g∨z=A.db∨z=tm∨z=vb) w' a l:=fun D=>⟨D.chg hcw,fun I b off s e hz=>by have:=D.block I e; have:=i b hz; omega⟩;have nF:∀ {b:Nat},¬ Fr b→b≠xb→b≠g→b≠A.db→b≠tm→b≠vb → ¬ (Fr b∨b=xb∨b=g∨b=A.db∨b=tm∨b=vb):=fun J x y K L M hz=>by
  rcases hz with hz | hz | hz | hz | hz | hz
  ·exact J hz
  ·exact x hz
  ·exact y hz
  ·exact K hz
  ·exact L hz
  ·exact M hz
 have u:∀ (k b:Nat) m,(List.replicate c.classes.length (none:Option (Nat × MvM)))[k]?≠some (some (b,m)):=fun k b m e=>by
  have:=List.mem_of_getElem? e;rw [List.mem_replicate] at this;cases this.2
 refine ⟨fun z=>Fr z∨z=xb∨z=g∨z=A.db∨z=tm∨z=vb,Fr,⟨xb,c,p,g,cap,r,mb,A,R,⟨vw,c,p,A.ab,some mb⟩,tm,vb,c.classes.length⟩,List.replicate c.classes.length none,rfl,?_,⟨rfl,rfl⟩,hRl,i⟩;exact {
  obj:=by
   show w'.heap[xb]? = some (.cells (XrX _ c.keep.length (List.replicate c.classes.length (none:Option MvM)).length 0).toArray _ _)
   rw [List.length_replicate]; exact hx
  kee:=hN.g,kcap:=hN.gc,room:=hR,
  ar:=by
   show Xag w' A ⟨Xu1 (c.size*c.pages).toNat,0,R.lap⟩
   rw [hz,hRl]; exact hA
  vw:=hV,
  th:=⟨[],hN.t,List.nodup_nil,(fun o t h=>by
   have:=List.mem_of_getElem? h;simp only [XkU,List.mem_replicate] at this;cases this.2),fun k _=>rfl⟩
  mvs:=hN.v,mvc:=by show (List.replicate _ _).length≤_; rw [List.length_replicate]; exact Nat.le_refl _
  mom:=by unfold Xkb XkU; rw [List.map_replicate]; rfl
  mob:=fun k b m h=>absurd h (u k b m),mdj:=fun j k b m m' h _=>absurd h (u j b m)
  rc:=hRc,rp:=hRp,rmo:=hRm,rX:=hRX,amb:=hAm,vc:=rfl,vp:=rfl,vab:=rfl,vmb:=rfl
  f1:=fun z hz => .inl hz,f2:=⟨.inr (.inl rfl),.inr (.inr (.inl rfl)),.inr (.inr (.inr (.inl rfl))),.inr (.inr (.inr (.inr (.inl rfl)))),.inr (.inr (.inr (.inr (.inr rfl))))⟩
  nr:=⟨nfr l5.2 (Xib kx km (by decide)),nfr l1.2 (Xib kg km (by decide)),nfr l6.2 (Xib kd' km (by decide)),nfr l3.2 (Xib kt km (by simp)),nfr l4.2 (Xib kv km (by decide))⟩
  nF:=⟨nF (nfr l7.1 (Xib ka km (by decide))) (Xib ka kx (by decide)) (Xib ka kg (by decide)) (Xib ka kd' (by decide)) (Xib ka kt (by simp)) (Xib ka kv (by decide)),
   nF (nfr l7.2 (Xib kc km (by decide))) (Xib kc kx (by decide)) (Xib kc kg (by decide)) (Xib kc kd' (by decide)) (Xib kc kt (by simp)) (Xib kc kv (by decide)),
   nF hFv (Xib kw kx (by decide)) (Xib kw kg (by decide)) (Xib kw kd' (by decide)) (Xib kw kt (by simp)) (Xib kw kv (by decide)),
   nF hR.rf (Xib kr kx (by decide)) (Xib kr kg (by decide)) (Xib kr kd' (by decide)) (Xib kr kt (by simp)) (Xib kr kv (by decide)),
   nF hR.sf sbx sbg sbd sbt sbv,fun hz=>by have:=i _ hz; omega⟩
  ca:=far hc.classes,ka:=far hc.keep
  low:=fun z hz=>by
   rcases hz with hz | rfl | rfl | rfl | rfl | rfl
   ·exact hR.low z hz
   ·exact Xjs hx
   ·exact Xjs hN.g
   ·exact Xjs hA.dat
   ·exact Xh8 kt
   ·exact Xjs hN.v}
set_option maxHeartbeats 2000000 in
theorem Xsd (c:Conf) (p:Xal) (w:World) (hc:Xam w c p) (ht:XbA w) (hm:XjN c=true):Xan Tryz.prog 36 #[.agg (Xe6 c p).toArray] w (fun v w' => ∃ F Fr S mo,v = .tuple #[XrY S,.int .i64 0]∧Xbz F Fr w' S (XkU c) 0 mo∧(S.c=c∧S.p=p)∧S.R.lap=0∧(∀ z,F z→w.heap.size≤z)∧Chg XaW w w'):=by
 have E:=XjT hm;have dp:=E.keep;have dq:=E.n;have bv:Xcx c.pages c.size=true:=by
  have:=E.size; have:=E.pages;refine Xcy.2 ⟨by omega,by omega,by omega,by omega,?_⟩;have h8:=hm;unfold XjN at h8;simp only [Bool.and_eq_true] at h8;exact (Xqz.1 h8.1.1.1.1.1.1.1).2.2
 refine Xan.enter Tryz.func36 rfl Tryz.ntmps36 rfl rfl ?_;refine ζa rfl ?_;refine Xay.alloc hTT rfl ?_;intro b w1 e1 hb bf dr;refine ζa rfl ?_;replace hb:w1.heap[b]? = some (.cells (Xe6 c p).toArray 24 (0,0)):=hb;refine Xay.loads hTT rfl hb rfl rfl ?_;refine ζc rfl (Xe9 c p w1 (hc.chg bf)) ?_;rintro _ n ⟨rfl,bg⟩;refine ζa rfl ?_;have em:XjQ c=0:=by unfold XjQ; rw [if_pos hm]
 rw [em];refine Xay.no hTT rfl rfl rfl ?_;have O:=bg.heap' hb;have W:=bf.trans bg;obtain ⟨ds,koff,eka,_⟩:=hc.keep 0 (by omega);have hC:∀ w',Chg XaW n w'→Xan Tryz.prog 85 #[.slice p.ka c.keep.length p.kc] w' (fun v j=>Chg XaW n j∧Chg XaW w' j ∧ ∃ g cap r,v = .slice (some ⟨g,0,none⟩) c.keep.length cap∧n.heap.size≤g∧j.heap[g]? = some (.cells (c.keep.map (Value.int .i64)++r).toArray 3 (0,0))∧c.keep.length≤cap):=fun w' f =>
  (XeV p.ka p.kc c.keep w' (hc.keep.chg (W.trans f)) (by omega) ⟨_,eka⟩).mono fun v j ⟨g,cp,r,a1,a2,a3,a4,a5⟩=>⟨f.trans a5,a5,g,cp,r,a1,by have:=f.size; omega,a3,a4⟩
 have hM:∀ w',Chg XaW n w'→Xan Tryz.prog 86 #[] w' (fun v j=>Chg XaW n j∧Chg XaW w' j ∧ ∃ mb,v = .pointer (some ⟨mb,0,none⟩)∧n.heap.size≤mb∧XaO j mb 0 0):=fun w' f =>
  (Xj3 w').mono fun v j ⟨a1,a2,a3,a4⟩=>⟨f.trans a3,a3,w'.heap.size,a1,f.size,a2⟩
 refine Xay.drawn (q:=10) XaW hTT Xj9 (by kernel_rfl) rfl ?_;intro d;refine Xaq.loads hTT d rfl O (by first | exact fun h=>h | (intro h; omega) | assumption) rfl rfl ?_;refine Xaq.loadb hTT d rfl O (by first | exact fun h=>h | (intro h; omega) | assumption) rfl rfl ?_;refine Xaq.loadb hTT d rfl O (by first | exact fun h=>h | (intro h; omega) | assumption) rfl rfl ?_;refine Xaq.turn3 d rfl ?_ ?_ ?_
 all_goals
  intro wa k1
  first
  |have t:=hC _ k1;refine XbK.call rfl t.fn (fun _=>t) ?_;rintro _ wb q0 ⟨q1,g,cap,r,rfl,bh,G,al⟩;refine Xaq.adv hTT d rfl ?_
  |have a6:=(k1).size;refine XbK.mkmap hTT d rfl (fun _=>rfl) ?_;intro tm wb etm x q1 am;have an:n.heap.size≤tm:=by omega
  |have a7:=(k1).size;refine XbK.make hTT d rfl rfl rfl (Nat.le_refl _) (show 48*c.classes.length≤140737488355328 by omega) (by omega) (fun _=>rfl) ?_;intro vb wb evb i q1 ao;replace i:(wb).heap[vb]? = some (.cells (XuS [.pointer none,.int .i64 0,.int .i64 0,.int .i64 0,.int .i64 0,.int .i64 0] c.classes.length).toArray 190 (0,0)):=i;rw [Xu0] at i;have ap:n.heap.size≤vb:=by omega
 all_goals first | refine Xaq.turn3 d rfl ?_ ?_ ?_ | refine Xaq.turn2 d rfl ?_ ?_
 all_goals
  intro wc a2;have k2:=(k1.trans q1).trans a2
  first
  |have t:=hC _ k2;refine XbK.call rfl t.fn (fun _=>t) ?_;rintro _ wd q0 ⟨q2,g,cap,r,rfl,bh,G,al⟩;refine Xaq.adv hTT d rfl ?_
  |have u:=hM _ k2;refine XbK.call rfl u.fn (fun _=>u) ?_;rintro _ wd q0 ⟨q2,mb,rfl,bi,H⟩;refine Xaq.adv hTT d rfl ?_
  |have a6:=(k2).size;refine XbK.mkmap hTT d rfl (fun _=>rfl) ?_;intro tm wd etm x q2 am;have an:n.heap.size≤tm:=by omega
  |have a7:=(k2).size;refine XbK.make hTT d rfl rfl rfl (Nat.le_refl _) (show 48*c.classes.length≤140737488355328 by omega) (by omega) (fun _=>rfl) ?_;intro vb wd evb i q2 ao;replace i:(wd).heap[vb]? = some (.cells (XuS [.pointer none,.int .i64 0,.int .i64 0,.int .i64 0,.int .i64 0,.int .i64 0] c.classes.length).toArray 190 (0,0)):=i;rw [Xu0] at i;have ap:n.heap.size≤vb:=by omega
 all_goals first | refine Xaq.turn2 d rfl ?_ ?_ | refine Xaq.turn1 d rfl ?_
 all_goals
  intro we a3;have k3:=(k2.trans q2).trans a3
  first
  |have t:=hC _ k3;refine XbK.call rfl t.fn (fun _=>t) ?_;rintro _ wf q0 ⟨q3,g,cap,r,rfl,bh,G,al⟩;refine Xaq.adv hTT d rfl ?_
  |have u:=hM _ k3;refine XbK.call rfl u.fn (fun _=>u) ?_;rintro _ wf q0 ⟨q3,mb,rfl,bi,H⟩;refine Xaq.adv hTT d rfl ?_
  |have a6:=(k3).size;refine XbK.mkmap hTT d rfl (fun _=>rfl) ?_;intro tm wf etm x q3 am;have an:n.heap.size≤tm:=by omega
  |have a7:=(k3).size;refine XbK.make hTT d rfl rfl rfl (Nat.le_refl _) (show 48*c.classes.length≤140737488355328 by omega) (by omega) (fun _=>rfl) ?_;intro vb wf evb i q3 ao;replace i:(wf).heap[vb]? = some (.cells (XuS [.pointer none,.int .i64 0,.int .i64 0,.int .i64 0,.int .i64 0,.int .i64 0] c.classes.length).toArray 190 (0,0)):=i;rw [Xu0] at i;have ap:n.heap.size≤vb:=by omega
 all_goals refine Xaq.turn1 d rfl ?_
 all_goals
  intro wg a4;have k4:=(k3.trans q3).trans a4
  first
  |have u:=hM _ k4;refine XbK.call rfl u.fn (fun _=>u) ?_;rintro _ wh q0 ⟨q4,mb,rfl,bi,H⟩;refine Xaq.adv hTT d rfl ?_
  |have a6:=(k4).size;refine XbK.mkmap hTT d rfl (fun _=>rfl) ?_;intro tm wh etm x q4 am;have an:n.heap.size≤tm:=by omega
  |have a7:=(k4).size;refine XbK.make hTT d rfl rfl rfl (Nat.le_refl _) (show 48*c.classes.length≤140737488355328 by omega) (by omega) (fun _=>rfl) ?_;intro vb wh evb i q4 ao;replace i:(wh).heap[vb]? = some (.cells (XuS [.pointer none,.int .i64 0,.int .i64 0,.int .i64 0,.int .i64 0,.int .i64 0] c.classes.length).toArray 190 (0,0)):=i;rw [Xu0] at i;have ap:n.heap.size≤vb:=by omega
 all_goals
  refine Xaq.nil d ?_;intro wz a5;refine ζa rfl ?_;have c4:=a5;have c3:=(a4.trans q4).trans c4;have c2:=(a3.trans q3).trans c3;have c1:=(a2.trans q2).trans c2;have kz:=(k4.trans q4).trans a5;have hN:XaV c wz g cap r mb tm vb:=⟨by first | exact c1.heap' G | exact c2.heap' G | exact c3.heap' G | exact c4.heap' G,al,by first | exact H.chg c1 | exact H.chg c2 | exact H.chg c3 | exact H.chg c4,by first | exact x.chg c1 id | exact x.chg c2 id | exact x.chg c3 id | exact x.chg c4 id,by first | exact c1.heap' i | exact c2.heap' i | exact c3.heap' i | exact c4.heap' i⟩;refine Xay.build hTT rfl rfl ?_;refine Xay.alloc hTT rfl ?_;intro xb wy exb P ae dt;refine ζa rfl ?_;replace P:wy.heap[xb]? = some (.cells (XkK c p g cap mb tm vb (.pointer none) (.pointer none) (.pointer none)).toArray 135 (0,0)):=P;have bj:=hN.grow ae;have az:=(kz.trans ae).heap' O;have ck:∀ w',Chg XaW wy w'→Xan Tryz.prog 87 #[.int .i64 c.pages,.int .i64 c.size,.pointer (some ⟨mb,0,none⟩)] w' (fun v j=>Chg (fun z=>z=xb) w' j∧Chg XaW wy j ∧ ∃ A:Ar,v = .tuple #[.pointer (some ⟨A.ab,0,none⟩),.int .i64 0]∧A.mb=some mb∧wy.heap.size≤A.ab∧wy.heap.size≤A.db∧wy.heap.size≤A.mc∧Xag j A ⟨Xu1 (c.pages*c.size).toNat,0,0⟩):=fun w' f =>
   (XcC (some mb) 0 0 c.pages c.size w' (fun b e=>by cases e; exact (bj.grow f).m) bv).mono fun v j ⟨A,x1,x2,x3,x4,x5,x6,x7⟩=>⟨x7.mono fun _ _ h=>h.elim,f.trans x7,A,x1,x2,by have:=f.size; omega,by have:=f.size; omega,by have:=f.size; omega,x6⟩
  refine Xay.drawn (q:=16) (fun z=>z=xb) hTT Xj9 (by kernel_rfl) rfl ?_;intro d;have bk:¬ b=xb:=by have:=Xjs (kz.heap' O); omega
  refine Xaq.loadb hTT d rfl az (by first | exact fun h=>h | (intro h; omega) | assumption) rfl rfl ?_;refine Xaq.loadb hTT d rfl az (by first | exact fun h=>h | (intro h; omega) | assumption) rfl rfl ?_;refine Xaq.turn1 d rfl ?_;intro j bl;refine XbK.loadb hTT d rfl (bl.heap' P) rfl rfl ?_;have c6:=fun w' (f:Chg XaW j w')=>ck w' (bl.trans f);refine Xaq.callQ d rfl rfl (c6) ?_;rintro _ w4 du ⟨Q,A,rfl,T,dv,dw,dx,cm⟩;refine Xaq.adv hTT d rfl ?_;refine Xaq.turn1 d rfl ?_;intro w5 I;refine XbK.store hTT d rfl ((Q.trans I).heap' P) (by first | (intro h; exact rfl) | (intro h; omega)) rfl rfl rfl ?_;intro w6 ab af dy;refine Xaq.nil d ?_;intro w7 J;refine ζa rfl ?_;replace ab:w6.heap[xb]? = some (.cells (XkK c p g cap mb tm vb (.pointer (some ⟨A.ab,0,none⟩)) (.pointer none) (.pointer none)).toArray 135 (0,0)):=ab;have dz:=W.size;have szz:=kz.size;have szy:=ae.size;have s4:=Q.size;have s5:=I.size;have s7:=J.size;have lg:=Xjs hN.g;have lm:=Xjs hN.m.1;have lt':=hN.t.lt;have lv:=Xjs hN.v;have lx:=Xjs P;have c7:Chg XaW w w5:=(((W.trans kz).trans ae).trans Q).trans I;have y:Chg XaW w w7:=(c7.since af (fun z K e=>by omega)).trans J;have bm:XaV c w7 g cap r mb tm vb:=((bj.grow (Q.trans I)).note af (by omega) (by omega) (by omega) (by omega)).grow J;have ag:Xag w7 A ⟨Xu1 (c.pages*c.size).toNat,0,0⟩:=((cm.grow I).chg af (fun b' U e=>by
   rcases U with h | h | h | h
   ·omega
   ·omega
   ·omega
   ·rw [T] at h; have:=Option.some.inj h; omega)).grow J
  have bn:=J.heap' (af.heap ((Q.trans I).heap' az) bk);have b0:=J.heap' ab;have la:=Xjs ag.obj;have ld:=Xjs ag.dat;have lc:=Xjs ag.cap;have cn:∀ w',Chg XaW w7 w'→Xan Tryz.prog 88 #[.agg (Xe6 c p).toArray,.pointer (some ⟨mb,0,none⟩)] w' (fun v j=>Chg (fun z=>z=xb) w' j∧Chg XaW w7 j ∧ ∃ Fr R,v = .tuple #[rmV R,.int .i64 0]∧R.c=c∧R.p=p∧R.mo=some mb∧R.lap=0∧(R.X=fun z=>z=g)∧Xbe Fr j R (XkM c 0) ∧ ∀ z,Fr z→w7.heap.size≤z∨z=mb):=fun w' f=>by
   have co:=(bm.grow f).m;have far:∀ {a:Option Addr} {l:List Int},Rd .i64 w a l→Far (fun z=>z=mb) w' a l:=fun hr=>⟨hr.chg (y.trans f),fun hl b1 off s1 e K=>by have:=hr.block hl e; omega⟩;refine (Xo3 c p (some mb) 0 0 (fun z=>z=g) w' (hc.chg (y.trans f)) (ht.grow (y.trans f)) (fun z e=>⟨by have:=f.size; omega,fun e2=>by have e3:=Option.some.inj e2; exact Xib (Xh5 hN.g) (Xia hN.m) (by decide) (e.symm.trans e3.symm)⟩) (fun b1 e=>by cases e; exact ⟨co,far hc.classes,far hc.keep⟩) (by decide)).mono fun v j ⟨x1,x2⟩ => ?_;rw [if_pos hm] at x2;obtain ⟨Fr,R,y1,y2,y3,y4,y5,y6,y7,y8⟩:=x2;exact ⟨x1.mono fun _ _ h=>h.elim,f.trans x1,Fr,R,y4,y1,y2,y3,y7,y8,y5,fun z K=>(y6 z K).imp (fun h=>by have:=f.size; omega) (fun h=>(Option.some.inj h).symm)⟩
  refine Xay.drawn (q:=13) (fun z=>z=xb) hTT Xj9 (by kernel_rfl) rfl ?_;intro d;refine Xaq.loads hTT d rfl bn (by first | exact fun h=>h | (intro h; omega) | assumption) rfl rfl ?_;refine Xaq.turn1 d rfl ?_;intro w8 bo;refine XbK.loadb hTT d rfl (bo.heap' b0) rfl rfl ?_;have ca:=fun w' (f:Chg XaW w8 w')=>cn w' (bo.trans f);refine Xaq.callQ d rfl rfl (ca) ?_;rintro _ w9 e0 ⟨b2,Fr,R,rfl,bp,bq,cs,ct,cu,cv,br⟩;refine Xaq.adv hTT d rfl ?_;refine Xaq.turn1 d rfl ?_;intro e4 L;refine XbK.store hTT d rfl ((b2.trans L).heap' b0) (by first | (intro h; exact rfl) | (intro h; omega)) rfl rfl rfl ?_;intro cw M B dj;refine Xaq.nil d ?_;intro V m;refine ζa rfl ?_;replace M:cw.heap[xb]? = some (.cells (XkK c p g cap mb tm vb (.pointer (some ⟨A.ab,0,none⟩)) (rmV R) (.pointer none)).toArray 135 (0,0)):=M;have s9:=b2.size;have e5:=L.size;have e6:=m.size;have bs:¬ Fr xb:=fun K=>(br xb K).elim (by omega) (by omega);have o:=b2.trans L;have bd:=y.trans o;have ah:Chg XaW w V:=(bd.since B (fun z K e=>by omega)).trans m;have e7:∀ {a r2 v2:Value},XkK c p g cap mb tm vb a r2 v2 = .int .i64 c.size::(XkK c p g cap mb tm vb a r2 v2).tail:=rfl;have bt:Xam w R.c R.p:=by rw [bp,bq]; exact hc
  have b3:Xbe Fr V R (XkM c 0):=((cv.grow L).apart bt ht (o.heap' b0) (by omega) bs (by decide) B).grow m;have cb:=((bm.grow o).note B (by omega) (by omega) (by omega) (by omega)).grow m;have b4:=((ag.grow o).chg B (fun b' U e=>by
   rcases U with h | h | h | h
   ·omega
   ·omega
   ·omega
   ·rw [T] at h; have:=Option.some.inj h; omega)).grow m
  have C:=m.heap' M;have cc:=m.heap' (B.heap (o.heap' bn) bk);have cz:((Xu1 (c.pages*c.size).toNat).length:Int)=c.size*c.pages:=by
   rw [Xu3,Int.mul_comm];exact Int.toNat_of_nonneg (Int.mul_nonneg (by have:=E.size; omega) (by have:=E.pages; omega))
  have d0:∀ w',Chg XaW V w'→Xan Tryz.prog 89 #[.agg (Xe6 c p).toArray,.pointer (some ⟨A.ab,0,none⟩),.pointer (some ⟨mb,0,none⟩)] w' (fun v j=>Chg (fun z=>z=xb) w' j∧Chg XaW V j ∧ ∃ vw,v = .tuple #[.pointer (some ⟨vw,0,none⟩),.int .i64 0]∧V.heap.size≤vw∧XbO j ⟨vw,c,p,A.ab,some mb⟩):=fun w' f=>by
   have bu:=XtU c p A ⟨Xu1 (c.pages*c.size).toNat,0,0⟩ w' (hc.chg (ah.trans f)) (b4.grow f);rw [T] at bu;refine bu.mono fun v j ⟨x1,x2⟩ => ?_;rw [if_pos ⟨hm,cz⟩] at x2;obtain ⟨vw,y1,y2,y3⟩:=x2;exact ⟨x1.mono fun _ _ h=>h.elim,f.trans x1,vw,y1,by have:=f.size; omega,y3⟩
  refine Xay.drawn (q:=17) (fun z=>z=xb) hTT Xj9 (by kernel_rfl) rfl ?_;intro d;refine Xaq.loads hTT d rfl cc (by first | exact fun h=>h | (intro h; omega) | assumption) rfl rfl ?_;refine Xaq.turn2 d rfl ?_ ?_
  all_goals
   intro e8 ac;refine XbK.loadb hTT d rfl (ac.heap' C) rfl rfl ?_;refine Xaq.turn1 d rfl ?_;intro d1 b5;refine XbK.loadb hTT d rfl ((ac.trans b5).heap' C) rfl rfl ?_;have cd:=fun w' (f:Chg XaW d1 w')=>d0 w' ((ac.trans b5).trans f);refine Xaq.callQ d rfl rfl (cd) ?_;rintro _ e9 dk ⟨b6,vw,rfl,ea,hV⟩;refine Xaq.adv hTT d rfl ?_;refine Xaq.turn1 d rfl ?_;intro eb ad;refine XbK.store hTT d rfl ((b6.trans ad).heap' C) (by first | (intro h; exact rfl) | (intro h; omega)) rfl rfl rfl ?_;intro ec be D dm;refine Xaq.nil d ?_;intro b7 s;refine ζa rfl ?_;have k:=b6.trans ad;have ce:=s.heap' be;have ed:=Xjs C;have d7:=k.size;have N:Chg XaW w b7:=((ah.trans k).since D (fun z K e=>by omega)).trans s;have cf:Xbe Fr b7 R (XkM c 0):=((b3.grow k).apart bt ht (k.heap' C) (by omega) bs (by decide) D).grow s;have cg:=((cb.grow k).note D (by omega) (by omega) (by omega) (by omega)).grow s;have ch:=((b4.grow k).chg D (fun b' U e=>by
    rcases U with h | h | h | h
    ·omega
    ·omega
    ·omega
    ·rw [T] at h; have:=Option.some.inj h; omega)).grow s
   have ci:XbO b7 ⟨vw,c,p,A.ab,some mb⟩:=⟨s.heap' (D.heap (ad.heap' hV.obj) (by simp only; omega)),hc.chg N,hm⟩;have d2:¬ Fr vw:=fun K=>by have:=b3.low vw K; omega
   obtain ⟨F,d3,S,mo,eS,hS,d4,d5,d6⟩:=Xr3 (w7:=w7) hc ht N hm ce cg ch T cf bp bq cs ct cu ci br d2 y.size (by omega) (by omega) (by omega) (by omega) (by omega) (by omega) (by omega);exact Xay.ret2 hTT rfl Tryz.func36 rfl rfl rfl ⟨F,d3,S,mo,by rw [eS],hS,d4,d5,d6,N⟩
structure Xav (n:Nat) (S:Sto):Prop where
 ab:S.A.ab<n
 mc:S.A.mc<n
 vb:S.v.vb<n
 rb:S.R.rb<n
 sb:S.R.sb<n
 tab:1<n
 ca:∀ b off s,S.p.ca=some ⟨b,off,s⟩→b<n
 ka:∀ b off s,S.p.ka=some ⟨b,off,s⟩→b<n
section
variable {F Fr:Nat→Prop} {w w':World} {S:Sto} {s:StM} {by':Int} {mo:Mo}
theorem Xbz.fixed (h:Xbz F Fr w S s by' mo):Xav w.heap.size S:=by
 have a:=h.room;have c:=XjT a.may;have d:=h.rc;rw [d] at c;exact ⟨Xjs h.ar.obj,Xjs h.ar.cap,Xjs h.vw.obj,Xjs a.obj,World.block_lt_of_cell? w _ (a.sl 0 (by have:=c.n; have:=a.ok.n; rw [d] at this; omega)),World.block_lt_of_cell? w _ (a.tab 0 (by decide)),
  fun b off s e=>h.ca.1.block (by have:=c.n; omega) e,fun b off s e=>h.ka.1.block (by have:=c.keep; have:=c.n; omega) e⟩
theorem Xbz.one (h:Xbz F Fr w S s by' mo) {b:Nat} (he:Xas F w S b) (hc:Chg (fun z=>z=b) w w'):Xbz F Fr w' S s by' mo:=by
 refine h.other hc (fun z e=>e▸he) ?_;obtain ⟨t,g,i⟩:=he.kd;intro al d k sz q c;obtain ⟨x,j,y,l,m⟩:=h.th;have:=j.uniq d;subst this;by_cases a:∀ (o:Nat) t,s.th[o]? = some (some t)→(o:Int)≠k
 ·rw [m k a] at c; cases c
 ·simp only [Classical.not_forall,Decidable.not_not] at a;obtain ⟨o,n,p,r⟩:=a;obtain ⟨A,_,f,_,_,u⟩:=l o n p;rw [r,c] at f;have e:=Xta (Option.some.inj f);rw [e];intro b' off s' e' v;have:=u b' off s' e';rw [v,g] at this;exact i.2.2 (Option.some.inj (Option.some.inj this))
theorem Xbz.boxed (h:Xbz F Fr w S s by' mo) {n b t:Nat} (hf:Xav n S) (hb:n≤b) (hF:¬ F b) (hk:kd w b=some (some t)) (ht:t≠329∧t≠325∧t≠3) (hc:Chg (fun z=>z=b) w w'):Xbz F Fr w' S s by' mo:=by
 obtain ⟨f1,f2,d,f,g,i,a,c⟩:=hf;exact h.one ⟨hF,⟨by omega,by omega,by omega,by omega,by omega,by omega⟩,fun off s e=>by have:=a _ _ _ e; omega,fun off s e=>by have:=c _ _ _ e; omega,t,hk,ht⟩ hc
end
structure Lv (c:Conf) (n0:Nat) (w0 w:World) (F:Nat→Prop) (S:Sto) (s:StM):Prop where
 ok:∃ Fr mo,Xbz F Fr w S s (Xrt s) mo
 inv:s.Ok c
 sc:S.c=c
 fx:Xav n0 S
 base:∀ z,F z→w0.heap.size≤z
 chg:Chg XaW w0 w
def XaJ (c:Conf) (n0:Nat) (w0 w:World) (F:Nat→Prop) (S:Sto) (s:StM) (w':World):Prop := ∃ F',Lv c n0 w0 w' F' S s∧(∀ z,F' z→F z∨w.heap.size≤z)∧Chg F w w'
section
variable {c:Conf} {n0:Nat} {w0 w w':World} {F:Nat→Prop} {S:Sto} {s s':StM}
theorem Lv.low (h:Lv c n0 w0 w F S s):∀ z,F z→z<w.heap.size:=by obtain ⟨_,_,a⟩:=h.ok; exact a.low
theorem Lv.grow (h:Lv c n0 w0 w F S s) (hc:Chg XaW w w'):Lv c n0 w0 w' F S s:=by
 obtain ⟨Fr,mo,a⟩:=h.ok;exact {h with ok:=⟨Fr,mo,a.grow hc⟩,chg:=h.chg.trans hc}
theorem Lv.box (h:Lv c n0 w0 w F S s) {b t:Nat} (hb:n0≤b) (hF:¬ F b) (hk:kd w b=some (some t)) (ht:t≠329∧t≠325∧t≠3) (hc:Chg (fun z=>z=b) w w') (h0:w0.heap.size≤b):Lv c n0 w0 w' F S s:=by
 obtain ⟨Fr,mo,a⟩:=h.ok;exact {h with ok:=⟨Fr,mo,a.boxed h.fx hb hF hk ht hc⟩,chg:=h.chg.since hc (fun z d e=>by omega)}
theorem Lv.to (h:Lv c n0 w0 w F S s) (ht:Xby F w w' S s' (Xrt s')) (hi:s'.Ok c):XaJ c n0 w0 w F S s' w':=by
 obtain ⟨F',Fr',mo',f,a,b⟩:=ht;have i:=h.chg.size;exact ⟨F',⟨⟨Fr',mo',f⟩,hi,h.sc,h.fx,fun z d=>(a z d).elim (h.base z) (fun g=>by omega),h.chg.since b (fun z d e=>by have:=h.base z e; omega)⟩,a,b⟩
theorem Lv.self (h:Lv c n0 w0 w F S s) (hc:Chg XaW w w'):XaJ c n0 w0 w F S s w':=⟨F,h.grow hc,fun _ h => .inl h,hc.mono fun _ _ h=>h.elim⟩
end
theorem Rd.keepI {w w':World} {a:Option Addr} {l:List Int} {q t:Nat} {c:Array Value} {fz:Nat × Nat} (hr:Rd .i64 w a l) (hq:w.heap[q]? = some (.cells c t fz)) (hc:∀ x ∈ c.toList,∀ z,x ≠ .int .i64 z) (hs:Chg (fun b=>b=q) w w'):Rd .i64 w' a l:=fun j f=>by
 obtain ⟨b,off,e,d⟩:=hr j f;refine ⟨b,off,e,hs.cell d (fun g => ?_)⟩;subst g;rw [Xd7 hq] at d;exact hc _ (Array.mem_toList_iff.2 (Array.mem_of_getElem? d)) _ rfl
theorem Xbi.keep {w w':World} {r:RP} {pl:PlM} (h:Xbi w r pl) {q t:Nat} {c:Array Value} {fz:Nat × Nat} (hq:w.heap[q]? = some (.cells c t fz)) (hc:∀ x ∈ c.toList,∀ z,x ≠ .int .i64 z) (hs:Chg (fun b=>b=q) w w'):Xbi w' r pl :=
 ⟨⟨⟨h.o.ok.rd.keepI hq hc hs,h.o.ok.len⟩,h.o.cap,h.o.lt.grow hs.size⟩,⟨⟨h.f.ok.rd.keepI hq hc hs,h.f.ok.len⟩,h.f.cap,h.f.lt.grow hs.size⟩,h.eo,h.ef⟩
structure TR where
 size:Int
 q:Plc
def trL (t:TR):List Value := .int .i64 t.size::Xm6 t.q
structure VR where
 is:Bool
 who:Int
 pf:Int
 fa:Int
 pt:Int
 ta:Int
 sa:Option Addr
 sl:Nat
 sc:Nat
 st:Int
 f:Int
 t:Int
 size:Int
 gone:Int
def Xt7 (v:VR):List Value := [.bool v.is,.int .i64 v.who,.int .i64 v.pf,.int .i64 v.fa,.int .i64 v.pt,.int .i64 v.ta,.slice v.sa v.sl v.sc,.int .i64 v.st,.int .i64 v.f,.int .i64 v.t,.int .i64 v.size,.int .i64 v.gone]
structure SR where
 c:Conf
 cp:Xal
 keep:List Int
 ka:Option Addr
 kcap:Nat
 ra:RA
 rr:RR
 ts:List TR
 ta:Option Addr
 tcap:Nat
 ms:List VR
 ma:Option Addr
 mcap:Nat
def XsD (x:Option ThM) (t:TR):Prop:=t.size=szT x ∧ ∀ y,x=some y→Xm8 t.q=y.q
def XtL (x:Option MvM) (v:VR):Prop:=v.is=x.isSome ∧ ∀ m,x=some m→v.who=m.who∧v.pf=m.pf∧v.fa=m.fa∧v.pt=m.pt∧v.ta=m.ta∧v.f=m.f∧v.t=m.t∧v.size=m.size∧v.gone=m.gone
abbrev rm0 (M:RmM):RmM:={M with tot:=0}
structure Xbv (w:World) (r:SR) (s:StM):Prop where
 conf:Xam w r.c r.cp
 kr:Rd .i64 w r.ka r.keep
 ke:r.keep=s.keep
 ra:Xa8 w r.ra
 rb:r.ra.bs=s.bs
 rs:r.ra.steps=s.rm.tot
 la:ALt w r.ra.a
 lk:ALt w r.ka
 rr:Xbj w r.rr (rm0 s.rm)
 rc:r.rr.c=r.c
 rp:r.rr.cp=r.cp
 tr:Rows trL 5 w r.ta r.ts
 tl:ALt w r.ta
 tc:r.ts.length≤r.tcap
 tn:r.ts.length=s.th.length
 te:∀ (o:Nat) x t,s.th[o]? = some x→r.ts[o]? = some t→XsD x t
 tq:∀ t ∈ r.ts,Xa4 w t.q∧ALt w t.q.pa
 mr:Rows Xt7 12 w r.ma r.ms
 ml:ALt w r.ma
 mc:r.ms.length≤r.mcap
 mn:r.ms.length=s.mv.length
 me:∀ (k:Nat) x v,s.mv[k]? = some x→r.ms[k]? = some v→XtL x v
structure Xbw (S:Nat→Prop) (r:SR):Prop where
 k:XaX S r.ka
 ra:XaX S r.ra.a
 rr:Xbk S r.rr
 ta:XaX S r.ta
 tq:∀ t ∈ r.ts,XaX S t.q.pa
 ma:XaX S r.ma
theorem Xbv.grow {w w':World} {r:SR} {s:StM} (h:Xbv w r s) (hc:Chg XaW w w'):Xbv w' r s :=
 {h with conf:=h.conf.chg hc,kr:=h.kr.chg hc,ra:=h.ra.grow hc,la:=h.la.grow hc.size,lk:=h.lk.grow hc.size,rr:=h.rr.grow hc,tr:=h.tr.chg hc,tl:=h.tl.grow hc.size,tq:=fun t a=>⟨(h.tq t a).1.grow hc,(h.tq t a).2.grow hc.size⟩,mr:=h.mr.chg hc,ml:=h.ml.grow hc.size}
theorem Xbv.far {w w':World} {r:SR} {s:StM} {S:Nat→Prop} (h:Xbv w r s) (ho:Xbw S r) (hcf:Xam w' r.c r.cp) (hc:Chg S w w'):Xbv w' r s :=
 {h with conf:=hcf,kr:=h.kr.far ho.k hc,ra:=⟨h.ra.rd.far ho.ra hc,h.ra.len,h.ra.lc,h.ra.rng⟩,la:=h.la.grow hc.size,lk:=h.lk.grow hc.size,rr:=h.rr.far ho.rr hc,tr:=h.tr.far ho.ta hc,tl:=h.tl.grow hc.size,tq:=fun t a=>⟨⟨(h.tq t a).1.rd.far (ho.tq t a) hc,(h.tq t a).1.len⟩,(h.tq t a).2.grow hc.size⟩,mr:=h.mr.far ho.ma hc,ml:=h.ml.grow hc.size}
def Xbo (w:World) (r r':SR):Prop:=r'.c=r.c∧r'.cp=r.cp ∧ ∀ S:Nat→Prop,(∀ z,S z→z<w.heap.size)→Xbw S r→Xbw S r'
theorem Xbo.refl (w:World) (r:SR):Xbo w r r:=⟨rfl,rfl,fun _ _ h=>h⟩
theorem Xbo.trans {w w1:World} {r r1 r2:SR} (h:Xbo w r r1) (h':Xbo w1 r1 r2) (hs:w.heap.size≤w1.heap.size):Xbo w r r2:=⟨h'.1.trans h.1,h'.2.1.trans h.2.1,fun S a b =>
 h'.2.2 S (fun z c=>by have:=a z c; omega) (h.2.2 S a b)⟩
theorem Xbv.out {w:World} {r:SR} {s:StM} {S:Nat→Prop} (h:Xbv w r s) (hs:∀ z,S z→w.heap.size≤z):Xbw S r:=⟨h.lk.out hs,h.la.out hs,h.rr.out hs,h.tl.out hs,fun t a=>(h.tq t a).2.out hs,h.ml.out hs⟩
theorem Xbv.box {w w2 w' w'':World} {r r':SR} {s s':StM} {qb:Nat} (h:Xbv w r s) (hk:Xbo w2 r r') (h':Xbv w' r' s') (hw:w.heap.size≤qb) (hq:qb<w2.heap.size) (hc:Chg (fun z=>z=qb) w' w'') (hcc:Chg XaW w w''):Xbv w'' r' s':=by
 have a:=hk.2.2 (fun z=>z=qb) (fun z e=>e▸hq) (h.out fun z e=>e▸hw);refine h'.far a ?_ hc;have:=h.conf.chg hcc;rw [hk.1,hk.2.1];exact this
def Xbx (w:World) (r:SR) (s':StM) (r':SR) (w':World):Prop:=Xbv w' r' s'∧Xbo w r r'∧Chg XaW w w'
theorem Xbx.self {w w':World} {r:SR} {s:StM} (h:Xbv w r s) (hc:Chg XaW w w'):Xbx w r s r w':=⟨h.grow hc,.refl w r,hc⟩
theorem Xbx.trans {w w1 w2:World} {r r1 r2:SR} {s1 s2:StM} (h:Xbx w r s1 r1 w1) (h':Xbx w1 r1 s2 r2 w2):Xbx w r s2 r2 w2:=⟨h'.1,h.2.1.trans h'.2.1 h.2.2.size,h.2.2.trans h'.2.2⟩
section
variable {w:World} {r:SR} {s:StM} {pd:Option (Nat × PlcM)}
end










theorem Own.rd8 {base n:Nat} {w:World} {v:Value} {l:List Int} (h:Own base 5 1 w v n (l.map (Value.int .u8))) (hn:l.length=n):∃ a cap,v = .slice a n cap∧Rd .u8 w a l ∧ ∀ b off s,a=some ⟨b,off,s⟩→base≤b∧b<w.heap.size:=by
 rcases h.2 with ⟨rfl,f⟩ | ⟨g,cap,cur,rfl,i,d,j,k,_,c⟩
 ·subst f;have:l = []:=List.length_eq_zero_iff.1 hn;subst this;exact ⟨none,0,rfl,Rd.nil _ _ _,(by intro b off s e; cases e)⟩
 ·exact ⟨_,cap,rfl,Rd.of_take d (by rw [hn]; rw [Nat.mul_one] at c; exact c),(by intro b off s e; cases e; exact ⟨i,Xjs d⟩)⟩

section
variable {c:Conf} {s:StM} {pd:Option (Nat × PlcM)}
end
structure Xaa where
 kind:Int
 own:Int
 a:Int
 b:Int
 bs:List Int
 ba:Option Addr
 bc:Nat
structure Xab (w:World) (u:Xaa):Prop where
 kind:0≤u.kind∧u.kind<256
 a : -9223372036854775808≤u.a∧u.a≤9223372036854775807
 b : -9223372036854775808≤u.b∧u.b≤9223372036854775807
 rd:Rd .u8 w u.ba u.bs
 rng:InB u.bs
 lc:u.bs.length≤u.bc
 len:u.bc≤9223372036854775807
theorem Xab.grow {w w':World} {u:Xaa} (h:Xab w u) (hc:Chg XaW w w'):Xab w' u:=⟨h.kind,h.a,h.b,h.rd.chg hc,h.rng,h.lc,h.len⟩

section
variable {c:Conf} {n0:Nat} {w0 w:World} {F:Nat→Prop} {S:Sto} {s:StM}
theorem Lv.ofE (h:Lv c n0 w0 w F S s) {s':StM} {e:Int} (hi:s'.Ok c) {P:Program} {k:FuncId} {args:Array Value} (hd:Xan P k args w (StE F w S s' e)):Xan P k args w (fun v w'=>v = .int .i64 e∧XaJ c n0 w0 w F S s' w') :=
 hd.mono fun v w' ⟨e1,a⟩=>⟨e1,h.to a hi⟩
theorem Xjt (h:Lv c n0 w0 w F S s) (o size:Int):Xan Tryz.prog 46 #[XrY S,.int .i64 o,.int .i64 size] w (fun v w'=>v = .int .i64 (Xrr c s o size)∧XaJ c n0 w0 w F S (Xrq c s o size) w'):=by
 obtain ⟨Fr,mo,b⟩:=h.ok;have a:=Xr6 b (by rw [h.sc]; exact h.inv) o size;rw [h.sc] at a;exact h.ofE (h.inv.alloc o size) a
theorem Xjw (h:Lv c n0 w0 w F S s) (o:Int):Xan Tryz.prog 69 #[XrY S,.int .i64 o] w (fun v w'=>v = .int .i64 (Xlz s o)∧XaJ c n0 w0 w F S (Xrz c s o) w'):=by
 obtain ⟨Fr,mo,b⟩:=h.ok;have a:=Xsa b (by rw [h.sc]; exact h.inv) o;rw [h.sc] at a;exact h.ofE (h.inv.free o) a
theorem XjB (h:Lv c n0 w0 w F S s) (o i:Int) (a:Option Addr) (cap:Nat) (l:List Int) (hi : -9223372036854775808≤i∧i≤9223372036854775807) (hr:Rd .u8 w a l) (hlc:l.length≤cap) (hl:l.length≤9223372036854775807) (hin:InB l) (hout:0<l.length→XaX F a):Xan Tryz.prog 77 #[XrY S,.int .i64 o,.int .i64 i,.slice a l.length cap] w (fun v w'=>v = .int .i64 (Xun s o i l.length)∧XaJ c n0 w0 w F S (XrP c s o i l) w'):=by
 obtain ⟨Fr,mo,d⟩:=h.ok;have b:=Xsi d (by rw [h.sc]; exact h.inv) o i a cap l hi hr hlc hl hin hout;rw [h.sc] at b;exact h.ofE (h.inv.write o i hin) b
theorem Xjz (h:Lv c n0 w0 w F S s) (o i n:Int) (hi : -9223372036854775808≤i∧i≤9223372036854775807) (hn : -9223372036854775808≤n∧n≤9223372036854775807):Xan Tryz.prog 72 #[XrY S,.int .i64 o,.int .i64 i,.int .i64 n] w
 (fun v w' => ∃ a cap,v = .tuple #[.slice a (XrI c s o i n).length cap,.int .i64 (Xun s o i n)]∧Rd .u8 w' a (XrI c s o i n)∧(∀ b off s',a=some ⟨b,off,s'⟩→w.heap.size≤b∧b<w'.heap.size)∧Lv c n0 w0 w' F S (XrH c s o i n)∧Chg F w w'):=by
 obtain ⟨Fr,mo,g⟩:=h.ok;have d:=Xsf g (by rw [h.sc]; exact h.inv) o i n hi hn;rw [h.sc] at d;refine d.mono fun v w' ⟨u,e,j,mo',k,f⟩ => ?_;obtain ⟨a,cap,e2,l,m⟩:=j.rd8 rfl;exact ⟨a,cap,by rw [e,e2],l,m,⟨⟨Fr,mo',k⟩,h.inv.read o i n,h.sc,h.fx,h.base,h.chg.since f (fun z p e=>by have:=h.base z e; omega)⟩,f⟩
theorem XjA (h:Lv c n0 w0 w F S s):Xan Tryz.prog 47 #[XrY S] w (fun v w'=>v = .int .i64 (s.rm.tot - S.R.lap)∧Lv c n0 w0 w' F (S.relap s.rm.tot) s∧Chg (fun z=>z=S.mb) w w'∧F S.mb):=by
 obtain ⟨Fr,mo,a⟩:=h.ok;refine (Xsg a).mono fun v w' ⟨e,d,b⟩=>⟨e,⟨⟨Fr,mo,d⟩,h.inv,h.sc,?_,h.base,h.chg.since b (fun z m e=>by have:=h.base z (e▸a.mb.1); have:=h.chg.size; omega)⟩,b,a.mb.1⟩;obtain ⟨f1,f2,f,g,i,j,k,l⟩:=h.fx;exact ⟨f1,f2,f,g,i,j,k,l⟩
theorem Xjx (h:Lv c n0 w0 w F S s):Xan Tryz.prog 41 #[XrY S] w (Grow (.int .i64 (Xho s.rm.pl:Nat)) w):=by obtain ⟨Fr,mo,a⟩:=h.ok; exact Xsb a
theorem Xju (h:Lv c n0 w0 w F S s):Xan Tryz.prog 61 #[XrY S] w (Grow (.int .i64 (Xrt s)) w):=by obtain ⟨Fr,mo,a⟩:=h.ok; exact Xr7 a
theorem Xjv (h:Lv c n0 w0 w F S s) (size:Int):Xan Tryz.prog 43 #[XrY S,.int .i64 size] w (Grow (.int .i64 (Xry c s size)) w):=by
 obtain ⟨Fr,mo,a⟩:=h.ok;have:=Xr9 a (by rw [h.sc]; exact h.inv) size;rw [h.sc] at this;exact this
end
theorem XkW {c:Conf} (hm:XjN c=true) (hA:Xbd c (XkM c 0)):(XkU c).Ok c:=by
 have g:=XjT hm;have b:∀ (o:Nat) t,(XkU c).th[o]?≠some (some t):=fun o t e=>by
  have:=List.mem_of_getElem? e;simp only [XkU,List.mem_replicate] at this;cases this.2
 have i:∀ (o:Nat) t,(XkU c).mv[o]?≠some (some t):=fun o t e=>by
  have:=List.mem_of_getElem? e;simp only [XkU,List.mem_replicate] at this;cases this.2
 have f:=hm;unfold XjN at f;simp only [Bool.and_eq_true,decide_eq_true_eq,Xuo,Bool.not_eq_true'] at f;refine ⟨hm,hA,g.keep,fun x d => ?_,?_,Xu2 _,?_,List.length_replicate,fun o t h=>absurd h (b o t),fun o t h=>absurd h (b o t),fun o t h=>absurd h (b o t),fun o _ t _ h=>absurd h (b o t),fun k m h=>absurd h (i k m),fun k n a h=>absurd ?_ h,(by rintro _ _ ⟨⟩),(by rintro _ _ ⟨⟩)⟩
 ·have j:=f.1.1.1.1.2.2;rw [List.any_eq_false] at j;have:=j x d;unfold Xid Xuo at this;simp at this;omega
 ·show ((Xu1 _).length:Int)=_
  rw [Xu3];exact Int.toNat_of_nonneg (Int.mul_nonneg (by have:=g.size; omega) (by have:=g.pages; omega))
 ·show ((List.replicate c.slots.toNat none).length:Int)=_
  rw [List.length_replicate];exact Int.toNat_of_nonneg (by omega)
 ·unfold XoB;split
  ·rfl
  ·rename_i x d
   unfold Xok at d;split at d
   ·obtain ⟨_,e⟩:=XkR d;rw [e];rfl
   ·cases d
theorem XkV (c:Conf):Xrt (XkU c)=0:=by
 rw [Xru];show ((List.replicate c.slots.toNat (none:Option ThM)).map szT).sum=0
 generalize c.slots.toNat=n
 induction n with
 |zero=>rfl
 |succ n ih=>rw [List.replicate_succ,List.map_cons,List.sum_cons,ih]; rfl
theorem Xjy (c:Conf) (p:Xal) (w:World) (hc:Xam w c p) (ht:XbA w) (hm:XjN c=true):Xan Tryz.prog 36 #[.agg (Xe6 c p).toArray] w (fun v w' => ∃ F S,v = .tuple #[XrY S,.int .i64 0]∧Lv c w'.heap.size w w' F S (XkU c)∧S.R.lap=0∧S.p=p∧Chg XaW w w'):=by
 refine (Xsd c p w hc ht hm).mono fun v w' ⟨F,Fr,S,mo,e,a,⟨f,h⟩,i,j,g⟩=>⟨F,S,e,?_,i,h,g⟩;have d:=a.room;have b:=d.ok;rw [a.rc,f] at b;exact ⟨⟨Fr,mo,by rw [XkV]; exact a⟩,XkW hm ⟨b,d.mok,d.mpos⟩,f,a.fixed,j,g⟩
structure TbM where
 gen:List Int
 live:List Bool
 fl:List Nat
 most:Int
structure TbM.Ok (t:TbM) (slots gens:Int):Prop where
 n:(t.gen.length:Int)=slots
 nl:t.live.length=t.gen.length
 mg:t.most=gens
 sl:1≤slots∧slots≤4096
 gs:1≤gens∧gens≤1023
 gen:∀ (i:Nat) (g:Int),t.gen[i]? = some g→1≤g∧g≤gens+1
 lv:∀ (i:Nat) (g:Int),t.gen[i]? = some g→t.live[i]? = some true→g≤gens
 fr:∀ i ∈ t.fl,∃ g,t.gen[i]? = some g∧g≤gens∧t.live[i]? = some false
 nd:t.fl.Nodup
 many:t.fl.length+t.live.count true≤t.gen.length
def Xs2 (slot gen:Int):Bool:=decide (0≤slot) && decide (slot≤4095) && decide (1≤gen) && decide (gen≤1023)
def Xs4 (h:Int):Int:=h.tmod 4096
def XsX (h:Int):Int:=h.tdiv 4096
def tbG (t:TbM) (n:Int):Int:=t.gen[n.toNat]?.getD 0
def tbL (t:TbM) (n:Int):Bool:=t.live[n.toNat]?.getD false
def tbE (t:TbM) (h:Int):Int :=
 if Xs2 (Xs4 h) (XsX h)=false then 7
 else if (t.gen.length:Int)≤Xs4 h then 7
 else if XsX h<tbG t (Xs4 h) then 6
 else if tbG t (Xs4 h)<XsX h then 7
 else if tbL t (Xs4 h)=false then 7 else 0
def tbN (t:TbM) (h:Int):Int:=if tbE t h=0 then Xs4 h else 0
def Xs5 (t:TbM):TbM:=match t.fl with
 |[]=>t
 |n::r=>{t with live:=t.live.set n true,fl:=r}
def Xs7 (t:TbM):Int:=match t.fl with
 |[]=>0
 |n::_=>n
def Xs6 (t:TbM):Int:=match t.fl with
 |[]=>0
 |n::_=>tbG t n*4096+n
def XsY (t:TbM) (h:Int):TbM :=
 if tbE t h=0 then
  {t with
   gen:=t.gen.set (Xs4 h).toNat (tbG t (Xs4 h)+1),live:=t.live.set (Xs4 h).toNat false,
   fl:=if tbG t (Xs4 h)+1≤t.most then (Xs4 h).toNat::t.fl else t.fl}
 else t
def XsZ (t:TbM):Nat:=t.live.count true
def XkX (slots gens:Int):TbM:=⟨List.replicate slots.toNat 1,List.replicate slots.toNat false,List.range slots.toNat,gens⟩
section
variable {t:TbM} {slots gens:Int}
theorem XkY (hs:1≤slots∧slots≤4096) (hg:1≤gens∧gens≤1023):(XkX slots gens).Ok slots gens:=by
 refine ⟨?_,?_,rfl,hs,hg,?_,?_,?_,List.nodup_range,?_⟩
 ·show ((List.replicate slots.toNat (1:Int)).length:Int)=slots
  rw [List.length_replicate]; omega
 ·show (List.replicate slots.toNat false).length=(List.replicate slots.toNat (1:Int)).length
  rw [List.length_replicate,List.length_replicate]
 ·intro i g e;have:=List.mem_of_getElem? e;simp only [XkX,List.mem_replicate] at this;omega
 ·intro i g e h;have:=List.mem_of_getElem? h;simp only [XkX,List.mem_replicate] at this;cases this.2
 ·intro i a;have a:=List.mem_range.1 a;exact ⟨1,by simp [XkX,a],hg.1,by simp [XkX,a]⟩
 ·show (List.range slots.toNat).length+(List.replicate slots.toNat false).count true≤(List.replicate slots.toNat (1:Int)).length
  rw [List.count_replicate,List.length_range,List.length_replicate];exact Nat.le_refl _
theorem XiT {l:List Bool} {i:Nat} {a b:Bool} (h:l[i]? = some a):(l.set i b).count true+(if a=true then 1 else 0)=l.count true+(if b=true then 1 else 0):=by
 obtain ⟨c,e⟩:=List.getElem?_eq_some_iff.1 h;rw [List.count_set c,e];have:a=true→1≤l.count true:=fun d=>by
  rw [d] at e;exact List.count_pos_iff.2 (e▸List.getElem_mem c)
 cases a with
 |false=>cases b <;> simp
 |true=>have:=this rfl; cases b <;> simp <;> omega
theorem TbM.Ok.tbE_ok (h:t.Ok slots gens) {k:Int} (he:tbE t k=0):0≤Xs4 k∧Xs4 k<slots∧(Xs4 k).toNat<t.gen.length∧1≤XsX k∧XsX k≤gens∧t.gen[(Xs4 k).toNat]? = some (XsX k)∧t.live[(Xs4 k).toNat]? = some true:=by
 unfold tbE at he;have f:=h.n;split at he
 ·omega
 rename_i b
 split at he
 ·omega
 rename_i g
 split at he
 ·omega
 rename_i i
 split at he
 ·omega
 rename_i j
 split at he
 ·omega
 rename_i d
 simp only [Xs2,Bool.not_eq_false,Bool.and_eq_true,decide_eq_true_eq] at b;have a:(Xs4 k).toNat<t.gen.length:=by omega
 have e1:t.gen[(Xs4 k).toNat]? = some (XsX k):=by
  have e:tbG t (Xs4 k)=XsX k:=by omega
  rw [← e];unfold tbG;rw [List.getElem?_eq_getElem a];rfl
 have e2:t.live[(Xs4 k).toNat]? = some true:=by
  have c:(Xs4 k).toNat<t.live.length:=by rw [h.nl]; exact a
  have:tbL t (Xs4 k)=true:=by simpa using d
  unfold tbL at this;rw [List.getElem?_eq_getElem c] at this ⊢;exact congrArg some this
 exact ⟨b.1.1.1,by omega,a,b.1.2,h.lv _ _ e1 e2,e1,e2⟩
theorem TbM.Ok.take (h:t.Ok slots gens):(Xs5 t).Ok slots gens:=by
 unfold Xs5;split
 ·exact h
 ·rename_i n r e
  have c:=h.nd;rw [e] at c;obtain ⟨p,f,j,k⟩:=h.fr n (by rw [e]; exact List.mem_cons_self);have d:∀ i ∈ r,i≠n:=fun i a e2=>(List.nodup_cons.1 c).1 (e2▸a);refine ⟨h.n,?_,h.mg,h.sl,h.gs,h.gen,?_,?_,(List.nodup_cons.1 c).2,?_⟩
  ·show (t.live.set n true).length=_
   rw [List.length_set]; exact h.nl
  ·intro i g e1 e2;by_cases a:i=n
   ·subst a;rw [f] at e1;cases e1
    exact j
   ·replace e2:(t.live.set n true)[i]? = some true:=e2;rw [List.getElem?_set_ne (Ne.symm a)] at e2;exact h.lv i g e1 e2
  ·intro i a;obtain ⟨g,l,m,o⟩:=h.fr i (by rw [e]; exact List.mem_cons_of_mem _ a);refine ⟨g,l,m,?_⟩;show (t.live.set n true)[i]? = _
   rw [List.getElem?_set_ne (Ne.symm (d i a))];exact o
  ·have hm:=h.many;have:=XiT (b:=true) k;rw [e] at hm;simp only [List.length_cons,Bool.false_eq_true,if_false,if_true] at hm this;show r.length+(t.live.set n true).count true≤t.gen.length
   omega
theorem TbM.Ok.give (h:t.Ok slots gens) (k:Int):(XsY t k).Ok slots gens:=by
 unfold XsY;split
 ·rename_i m
  obtain ⟨p,q,e,r,s,n,f⟩:=h.tbE_ok m;have eg:tbG t (Xs4 k)=XsX k:=by unfold tbG; rw [n]; rfl
  have j:(Xs4 k).toNat<t.live.length:=by rw [h.nl]; exact e
  have o:=h.mg;have c:(Xs4 k).toNat ∉ t.fl:=fun hm=>by
   obtain ⟨g,_,_,l⟩:=h.fr _ hm;rw [f] at l;cases l
  refine ⟨?_,?_,h.mg,h.sl,h.gs,?_,?_,?_,?_,?_⟩
  ·show ((t.gen.set _ _).length:Int)=_
   rw [List.length_set]; exact h.n
  ·show (t.live.set _ _).length=(t.gen.set _ _).length
   rw [List.length_set,List.length_set]; exact h.nl
  ·intro i g e1;by_cases a:i=(Xs4 k).toNat
   ·subst a;rw [List.getElem?_set_self e] at e1;cases e1
    omega
   ·rw [List.getElem?_set_ne (Ne.symm a)] at e1;exact h.gen i g e1
  ·intro i g e1 e2;by_cases a:i=(Xs4 k).toNat
   ·subst a;rw [List.getElem?_set_self j] at e2;cases e2
   ·rw [List.getElem?_set_ne (Ne.symm a)] at e1 e2;exact h.lv i g e1 e2
  ·intro i a;show ∃ g,(t.gen.set _ _)[i]? = some g∧g≤gens∧(t.live.set _ _)[i]? = some false
   by_cases d:i=(Xs4 k).toNat
   ·subst d;rw [List.getElem?_set_self e,List.getElem?_set_self j];split at a
    ·exact ⟨_,rfl,by omega,rfl⟩
    ·exact absurd a c
   ·rw [List.getElem?_set_ne (Ne.symm d),List.getElem?_set_ne (Ne.symm d)];refine h.fr i ?_;split at a
    ·exact (List.mem_cons.1 a).resolve_left d
    ·exact a
  ·show (if tbG t (Xs4 k)+1≤t.most then (Xs4 k).toNat::t.fl else t.fl).Nodup
   split
   ·exact List.nodup_cons.2 ⟨c,h.nd⟩
   ·exact h.nd
  ·have hm:=h.many;have:=XiT (b:=false) f;simp only [Bool.false_eq_true,if_false,if_true] at this;show (if tbG t (Xs4 k)+1≤t.most then (Xs4 k).toNat::t.fl else t.fl).length+(t.live.set (Xs4 k).toNat false).count true≤(t.gen.set _ _).length
   rw [List.length_set];split
   ·rw [List.length_cons]; omega
   ·omega
 ·exact h
end
structure XbD where
 tb:Nat
 sb:Nat
abbrev tbV (P:XbD):Value := .pointer (some ⟨P.tb,0,none⟩)
def tbW (t:TbM) (i:Nat):Int:=if t.live.getD i false then 1 else if t.gen.getD i 0≤t.most then 0 else 2
def tbR (P:XbD) (n:Nat) (most head:Int) (g:Nat→Int):List Value := [.slice (some ⟨P.sb,0,none⟩) n n,.int .i64 most,.int .i64 head,.int .i64 (g 0),.int .i64 (g 1),.int .i64 (g 2)]
def Xs0 (t:TbM) (i:Nat):Int:=if i=0 then t.fl.length else if i=1 then t.live.count true else t.gen.length - t.fl.length - t.live.count true
def Xi1 (f:Nat→Int) (N:Nat):Int→List Nat→Prop
 |h,[]=>h=N
 |h,a::r=>h=a∧Xi1 f N (f (a*3+2)) r
theorem Xi2 {f g:Nat→Int} {N:Nat}:∀ {l:List Nat} {h:Int},(∀ a ∈ l,f (a*3+2)=g (a*3+2))→Xi1 f N h l→Xi1 g N h l
 |[],_,_,hl=>hl
 |a::r,_,hfg,hl=>⟨hl.1,by rw [← hfg a (by simp)]; exact Xi2 (fun b hb=>hfg b (by simp [hb])) hl.2⟩
structure XbE (w:World) (P:XbD) (t:TbM) (slots gens:Int):Prop where
 ok:t.Ok slots gens
 at':∃ head f,w.heap[P.tb]? = some (.cells (tbR P t.gen.length t.most head (Xs0 t)).toArray 145 (0,0))∧XaE w P.sb 147 (t.gen.length*3) f∧Xi1 f t.gen.length head t.fl ∧
  ∀ i,i<t.gen.length→f (i*3)=tbW t i∧f (i*3+1)=t.gen.getD i 0
def XsW (P:XbD):Nat→Prop:=fun z=>z=P.tb∨z=P.sb
section
variable {w w':World} {P:XbD} {t:TbM} {slots gens:Int} {S:Nat→Prop}
theorem XbE.chg (h:XbE w P t slots gens) (hc:Chg S w w') (h1:¬ S P.tb) (h2:¬ S P.sb):XbE w' P t slots gens:=by
 obtain ⟨head,f,a,b,c⟩:=h.at';exact ⟨h.ok,head,f,hc.heap a h1,hc.heap b h2,c⟩
theorem XbE.grow (h:XbE w P t slots gens) (hc:Chg XaW w w'):XbE w' P t slots gens:=h.chg hc id id
theorem XbE.kd (h:XbE w P t slots gens):kd w P.tb=some (some 145)∧kd w P.sb=some (some 147):=by
 obtain ⟨head,f,a,b,c⟩:=h.at';exact ⟨Xh5 a,Xh5 b⟩
theorem XbE.lt (h:XbE w P t slots gens):P.tb<w.heap.size∧P.sb<w.heap.size:=by
 obtain ⟨head,f,a,b,c⟩:=h.at';exact ⟨Xjs a,Xjs b⟩
end
theorem XhI (slot gen:Int) (w:World):Xan Tryz.prog 156 #[.int .i64 slot,.int .i64 gen] w (Grow (.bool (Xs2 slot gen)) w):=by
 refine ζe Tryz.func156 Tryz.ntmps156 rfl (ζb rfl (ζb rfl (ζb rfl (ζn rfl fun b I e1 B r C=>ζs B rfl fun J n s D => ?_))));have i:=r.since s (fun z t e=>by omega);refine Xay.unroll hTT rfl (ζy rfl (ζi 0 rfl (ζl n rfl (ζn rfl fun c K e3 u o E=>ζs u rfl fun L g q F => ?_))));have a:=(i.trans o).since q (fun z t e=>by have:=i.size; omega);have v:=q.heap (o.heap' n) (show ¬ b=c by have:=i.size; omega);refine ζi 0 rfl (ζl g rfl (ζi 1 rfl (ζl g rfl (ζg rfl (fun j => ?_) fun j => ?_))))
 ·exact ζr Tryz.func156 rfl ⟨XdM (by unfold Xs2; rw [decide_eq_false (by have:=of_decide_eq_true j; omega)]; rfl),a⟩
 have j:=of_decide_eq_false j;refine ζi 0 rfl (ζl g rfl (ζi 2 rfl (ζl g rfl (ζg rfl (fun k => ?_) fun k => ?_))))
 ·exact ζr Tryz.func156 rfl ⟨XdM (by unfold Xs2; rw [decide_eq_false (p:=slot≤4095) (by have:=of_decide_eq_true k; omega),Bool.and_false]; rfl),a⟩
 have k:=of_decide_eq_false k;refine ζj rfl (Xay.again hTT rfl (ζy rfl (ζi 3 rfl (ζl v rfl (ζn rfl fun d M e5 x y G=>ζs x rfl fun N h A H => ?_)))));have f:=(a.trans y).since A (fun z t e=>by have:=a.size; omega);refine ζi 0 rfl (ζl h rfl (ζi 1 rfl (ζl h rfl (ζg rfl (fun l => ?_) fun l => ?_))))
 ·exact ζr Tryz.func156 rfl ⟨XdM (by unfold Xs2; rw [decide_eq_false (p:=1≤gen) (by have:=of_decide_eq_true l; omega),Bool.and_false]; rfl),f⟩
 have l:=of_decide_eq_false l;refine ζi 0 rfl (ζl h rfl (ζi 2 rfl (ζl h rfl (ζg rfl (fun m => ?_) fun m => ?_))))
 ·exact ζr Tryz.func156 rfl ⟨XdM (by unfold Xs2; rw [decide_eq_false (p:=gen≤1023) (by have:=of_decide_eq_true m; omega),Bool.and_false]),f⟩
 have m:=of_decide_eq_false m;exact ζj rfl (Xay.again hTT rfl (ζf rfl (ζr Tryz.func156 rfl ⟨XdM (by unfold Xs2; rw [decide_eq_true (p:=0≤slot) (by omega),decide_eq_true (p:=slot≤4095) (by omega),decide_eq_true (p:=1≤gen) (by omega),decide_eq_true (p:=gen≤1023) (by omega)]; rfl),f⟩)))
theorem XhH (h:Int) (w:World) (hh : -9223372036854775808≤h∧h≤9223372036854775807):Xan Tryz.prog 127 #[.int .i64 h] w (Grow (if Xs2 (Xs4 h) (XsX h)=true then .tuple #[.int .i64 (Xs4 h),.int .i64 (XsX h),.int .i64 0] else .tuple #[.int .i64 0,.int .i64 0,.int .i64 7]) w):=by
 have b:Xfr true .i64 h 4096=XsX h:=by
  unfold Xfr;rw [if_pos rfl];apply w64
  have e:=Int.mul_tdiv_add_tmod h 4096;by_cases c:0≤h
  ·rw [Int.tdiv_eq_ediv_of_nonneg c]; omega
  ·obtain ⟨x,rfl⟩:∃ x,h = -x:=⟨-h,by omega⟩;rw [Int.neg_tdiv,Int.tdiv_eq_ediv_of_nonneg (by omega)];omega
 have d:Xfr false .i64 h 4096=Xs4 h:=by unfold Xfr; rw [if_neg (by simp)]; rfl
 refine ζe Tryz.func127 Tryz.ntmps127 rfl (Xay.div hTT rfl (by omega) d rfl (Xay.div hTT rfl (by omega) b rfl (ζv (XhI (Xs4 h) (XsX h) w) rfl fun f a => ?_)));cases hm:Xs2 (Xs4 h) (XsX h) with
 |false =>
  exact ζy rfl (ζq rfl Tryz.func127 (.tmp rfl (.tmp rfl (.tmp rfl .nil))) ⟨rfl,a⟩)
 |true =>
  exact ζf rfl (ζq rfl Tryz.func127 (.tmp rfl (.tmp rfl (.tmp rfl .nil))) ⟨rfl,a⟩)
theorem XhG (slot gen:Int) (w:World) (hs:0≤slot∧slot≤4095) (hg:1≤gen∧gen≤1023):Xan Tryz.prog 97 #[.int .i64 slot,.int .i64 gen] w (Grow (.tuple #[.int .i64 (gen*4096+slot),.int .i64 0]) w):=by
 have hm:Xs2 slot gen=true:=by unfold Xs2; rw [decide_eq_true (p:=0≤slot) (by omega),decide_eq_true (p:=slot≤4095) (by omega),decide_eq_true (p:=1≤gen) (by omega),decide_eq_true (p:=gen≤1023) (by omega)]; rfl
 refine ζe Tryz.func97 Tryz.ntmps97 rfl (ζv (XhI slot gen w) rfl fun b a => ?_);rw [hm];exact ζf rfl (ζj rfl (ζj rfl (ζr Tryz.func97 rfl ⟨rfl,a⟩)))
theorem Xnq {P:XbD} {n k:Nat} {most head:Int} {g f:Nat→Int} {w:World} {a b:Nat} (h1:w.heap[P.tb]? = some (.cells (tbR P n most head g).toArray 145 (0,0))) (h2:XaE w P.sb 147 (n*3) f) (hk:k<n) (hn:n≤4096)
 (hf:f (k*3)=a) (hg:∀ i,-4096≤g i∧g i≤4096) (hab:a=0∧b=1∨a=1∧b=2∨a=1∧b=0):Xan Tryz.prog 96 #[tbV P,.int .i64 k,.int .i64 b] w
 (fun _ w'=>w'.heap[P.tb]? = some (.cells (tbR P n most head (upd (upd g a (g a - 1)) b (g b+1))).toArray 145 (0,0))∧XaE w' P.sb 147 (n*3) (upd f (k*3) b)∧Chg (XsW P) w w'):=by
 have l:P.sb≠P.tb:=fun e=>by
  have:=XdG h1 h2 (by decide);exact this e.symm
 refine ζe Tryz.func96 Tryz.ntmps96 rfl (ζl h1 rfl (ζi (k*3) rfl ?_));have r:w.cell? ⟨P.sb,0+k*3+0,none⟩=some (.int .i64 (a:Nat)):=by rw [Xh0 h2 (k:=k*3) (by omega) (by omega),hf]
 obtain ⟨rfl,rfl⟩ | ⟨rfl,rfl⟩ | ⟨rfl,rfl⟩:=hab
 ·refine ζa rfl (ζd 12 XaW (by kernel_rfl) rfl fun c=>δk c r rfl (δi 0 c rfl (δl c h1 rfl (Xaq.arith hTT c rfl (w64 (by have:=hg 0; omega)) rfl (δn c rfl fun D d=>ζi 0 rfl ?_)))));have s:=d.heap' h1;refine ζs s rfl fun E m o A=>ζd 9 XaW (by kernel_rfl) rfl fun c=>δi 1 c rfl (δl c m rfl (Xaq.arith hTT c rfl (w64 (by have:=hg 1; omega)) rfl (δn c rfl fun F j=>ζi 1 rfl ?_)));have t:=j.heap' m;refine ζs t rfl fun z u p B => ?_;have v:Chg (XsW P) w z:=(((d.mono fun _ _ h=>h.elim).trans (o.mono fun _ _ h => .inl h)).trans (j.mono fun _ _ h=>h.elim)).trans (p.mono fun _ _ h => .inl h);have x:=p.heap (j.heap' (o.heap (d.heap' h2) l)) l;exact ζS rfl x (XpD (i:=k*3) (by show 0+k*3+0=_; omega) (by omega)) rfl fun G y q C=>ζr Tryz.func96 rfl ⟨q.heap u (fun e=>l e.symm),y,v.trans (q.mono fun _ _ h => .inr h)⟩
 ·refine ζa rfl (ζd 12 XaW (by kernel_rfl) rfl fun c=>δk c r rfl (δi 1 c rfl (δl c h1 rfl (Xaq.arith hTT c rfl (w64 (by have:=hg 1; omega)) rfl (δn c rfl fun D d=>ζi 1 rfl ?_)))));have s:=d.heap' h1;refine ζs s rfl fun E m o A=>ζd 9 XaW (by kernel_rfl) rfl fun c=>δi 2 c rfl (δl c m rfl (Xaq.arith hTT c rfl (w64 (by have:=hg 2; omega)) rfl (δn c rfl fun F j=>ζi 2 rfl ?_)));have t:=j.heap' m;refine ζs t rfl fun z u p B => ?_;have v:Chg (XsW P) w z:=(((d.mono fun _ _ h=>h.elim).trans (o.mono fun _ _ h => .inl h)).trans (j.mono fun _ _ h=>h.elim)).trans (p.mono fun _ _ h => .inl h);have x:=p.heap (j.heap' (o.heap (d.heap' h2) l)) l;exact ζS rfl x (XpD (i:=k*3) (by show 0+k*3+0=_; omega) (by omega)) rfl fun G y q C=>ζr Tryz.func96 rfl ⟨q.heap u (fun e=>l e.symm),y,v.trans (q.mono fun _ _ h => .inr h)⟩
 ·refine ζa rfl (ζd 12 XaW (by kernel_rfl) rfl fun c=>δk c r rfl (δi 1 c rfl (δl c h1 rfl (Xaq.arith hTT c rfl (w64 (by have:=hg 1; omega)) rfl (δn c rfl fun D d=>ζi 1 rfl ?_)))));have s:=d.heap' h1;refine ζs s rfl fun E m o A=>ζd 9 XaW (by kernel_rfl) rfl fun c=>δi 0 c rfl (δl c m rfl (Xaq.arith hTT c rfl (w64 (by have:=hg 0; omega)) rfl (δn c rfl fun F j=>ζi 0 rfl ?_)));have t:=j.heap' m;refine ζs t rfl fun z u p B => ?_;have v:Chg (XsW P) w z:=(((d.mono fun _ _ h=>h.elim).trans (o.mono fun _ _ h => .inl h)).trans (j.mono fun _ _ h=>h.elim)).trans (p.mono fun _ _ h => .inl h);have x:=p.heap (j.heap' (o.heap (d.heap' h2) l)) l;exact ζS rfl x (XpD (i:=k*3) (by show 0+k*3+0=_; omega) (by omega)) rfl fun G y q C=>ζr Tryz.func96 rfl ⟨q.heap u (fun e=>l e.symm),y,v.trans (q.mono fun _ _ h => .inr h)⟩
theorem Xs9 {w:World} {b ty N:Nat} {f:Nat→Int} (h2:XaE w b ty N f) {k:Nat} (hk:k*3+2<N):∀ j v,[Value.int .i64 (f (k*3)),.int .i64 (f (k*3+1)),.int .i64 (f (k*3+2))][j]? = some v→w.cell? ⟨b,0+k*3+j,none⟩=some v
 |0,v,e=>by cases e; exact Xh0 h2 (by omega) (by omega)
 |1,v,e=>by cases e; exact Xh0 h2 (by omega) (by omega)
 |2,v,e=>by cases e; exact Xh0 h2 (by omega) (by omega)
 |j+3,v,e=>by cases e
theorem Xs8 {t:TbM} {i:Nat}:tbW t i=1↔t.live.getD i false=true:=by
 unfold tbW;split
 ·simp_all
 ·split <;> simp_all
theorem Xnn {w:World} {P:XbD} {t:TbM} {slots gens:Int} (h:XbE w P t slots gens) (k:Int) (hk : -9223372036854775808≤k∧k≤9223372036854775807):Xan Tryz.prog 73 #[tbV P,.int .i64 k] w (Grow (.tuple #[.int .i64 (tbN t k),.int .i64 (tbE t k)]) w):=by
 obtain ⟨head,f,v,x,F,y⟩:=h.at';have G:=h.ok.n;refine ζe Tryz.func73 Tryz.ntmps73 rfl (ζv (XhH k w hk) rfl fun H a => ?_);have n:=a.heap' v;cases hm:Xs2 (Xs4 k) (XsX k) with
 |false =>
  have e:tbE t k=7:=by unfold tbE; rw [if_pos hm]
  have en:tbN t k=0:=by unfold tbN; rw [e]; rfl
  exact ζy rfl (ζr Tryz.func73 rfl ⟨by rw [e,en]; rfl,a⟩)
 |true =>
  have o:=hm;simp only [Xs2,Bool.and_eq_true,decide_eq_true_eq] at o;refine ζf rfl (ζl n rfl ?_);by_cases c:(t.gen.length:Int)≤Xs4 k
  ·have e:tbE t k=7:=by unfold tbE; rw [if_neg (by rw [hm]; decide),if_pos c]
   have en:tbN t k=0:=by unfold tbN; rw [e]; rfl
   exact ζy rfl (ζr Tryz.func73 rfl ⟨by rw [e,en],a⟩)
  ·refine ζf rfl (ζl n rfl ?_);obtain ⟨j,g⟩:=Int.eq_ofNat_of_zero_le o.1.1.1;have q:j<t.gen.length:=by omega
   have r:=a.heap' x;obtain ⟨A,B⟩:=y j q;have eg:tbG t (Xs4 k)=f (j*3+1):=by
    rw [B,g];unfold tbG;rw [Int.toNat_natCast,List.getD_eq_getElem?_getD]
   have el:tbL t (Xs4 k)=decide (f (j*3)=1):=by
    rw [A,g,show decide (tbW t j=1)=decide (t.live.getD j false=true) from decide_eq_decide.2 Xs8];unfold tbL;rw [Int.toNat_natCast,← List.getD_eq_getElem?_getD,Bool.decide_eq_true]
   rw [g];refine ζi (j*3) rfl (Xay.loadC hTT ([Value.int .i64 (f (j*3)),.int .i64 (f (j*3+1)),.int .i64 (f (j*3+2))]) rfl (by first | rfl | (simp; done) | (simp [*]; done) | (simp; omega)) (Xs9 r (by omega)) rfl (ζn rfl fun b I e2 C s D=>ζs C rfl fun J d u E => ?_));have i:=(a.trans s).since u (fun z K e=>by have:=a.size; omega);refine ζl d rfl ?_;by_cases l:XsX k<f (j*3+1)
   ·have e:tbE t k=6:=by unfold tbE; rw [if_neg (by rw [hm]; decide),if_neg c,eg,if_pos l]
    have en:tbN t k=0:=by unfold tbN; rw [e]; rfl
    exact ζy rfl (ζr Tryz.func73 rfl ⟨by rw [e,en],i⟩)
   refine ζf rfl (ζl d rfl ?_);by_cases p:f (j*3+1)<XsX k
   ·have e:tbE t k=7:=by unfold tbE; rw [if_neg (by rw [hm]; decide),if_neg c,eg,if_neg l,if_pos p]
    have en:tbN t k=0:=by unfold tbN; rw [e]; rfl
    exact ζy rfl (ζr Tryz.func73 rfl ⟨by rw [e,en],i⟩)
   refine ζf rfl (ζl d rfl ?_);by_cases m:f (j*3)=1
   ·have e:tbE t k=0:=by unfold tbE; rw [if_neg (by rw [hm]; decide),if_neg c,eg,if_neg l,if_neg p,el,decide_eq_true m]; rfl
    have en:tbN t k=j:=by unfold tbN; rw [if_pos e,g]
    rw [m];exact ζf rfl (ζr Tryz.func73 rfl ⟨by rw [e,en]; rfl,i⟩)
   ·have e:tbE t k=7:=by unfold tbE; rw [if_neg (by rw [hm]; decide),if_neg c,eg,if_neg l,if_neg p,el,decide_eq_false m]; rfl
    have en:tbN t k=0:=by unfold tbN; rw [e]; rfl
    exact ζY rfl (bne_iff_ne.2 (fun e=>m e)) (ζr Tryz.func73 rfl ⟨by rw [e,en],i⟩)
theorem Xnm {w:World} {P:XbD} {t:TbM} {slots gens:Int} (h:XbE w P t slots gens):Xan Tryz.prog 40 #[tbV P] w (Xbp (.int .i64 (XsZ t:Nat)) w):=by
 obtain ⟨head,f,a,b,c,d⟩:=h.at';exact ζe Tryz.func40 Tryz.ntmps40 rfl (ζi 1 rfl (ζl a rfl (ζr Tryz.func40 rfl ⟨rfl,rfl⟩)))
theorem Xnl {w:World} {P:XbD} {t:TbM} {slots gens:Int} (h:XbE w P t slots gens):Xan Tryz.prog 44 #[tbV P] w (Xbp (.int .i64 (t.fl.length:Nat)) w):=by
 obtain ⟨head,f,a,b,c,d⟩:=h.at';exact ζe Tryz.func44 Tryz.ntmps44 rfl (ζi 0 rfl (ζl a rfl (ζr Tryz.func44 rfl ⟨rfl,rfl⟩)))
theorem Xs1 {t:TbM} {slots gens:Int} (h:t.Ok slots gens) (i:Nat) : -4096≤Xs0 t i∧Xs0 t i≤4096:=by
 have:=h.many;have:=h.n;have:=h.sl;unfold Xs0;split
 ·omega
 ·split <;> omega
theorem Xs3 {P:XbD} {n:Nat} {most head:Int} {g g':Nat→Int} (h0:g 0=g' 0) (h1:g 1=g' 1) (h2:g 2=g' 2):tbR P n most head g=tbR P n most head g':=by unfold tbR; rw [h0,h1,h2]
theorem XgC {α:Type} {l:List α} {i:Nat} {x d:α} (h:l[i]? = some x):l.getD i d=x:=by rw [List.getD_eq_getElem?_getD,h]; rfl
theorem Xnp {w:World} {P:XbD} {t:TbM} {slots gens:Int} (h:XbE w P t slots gens) (hne:t.fl ≠ []):Xan Tryz.prog 45 #[tbV P] w
 (fun v w'=>v = .tuple #[.int .i64 (Xs6 t),.int .i64 (Xs7 t),.int .i64 0]∧XbE w' P (Xs5 t) slots gens∧Chg (XsW P) w w'):=by
 obtain ⟨head,f,m,C,D,E⟩:=h.at';have hn:=h.ok.n;have a5:=h.ok.sl;have a6:=h.ok.gs;obtain ⟨n,r,e⟩:∃ n r,t.fl=n::r:=by
  cases N:t.fl with
  |nil=>exact absurd N hne
  |cons n r=>exact ⟨n,r,rfl⟩
 rw [e] at D;obtain ⟨rfl,O⟩:=D;obtain ⟨A,c,Q,F⟩:=h.ok.fr n (by rw [e]; exact List.mem_cons_self);have d:=(List.getElem?_eq_some_iff.1 c).1;have G:n<t.live.length:=by rw [h.ok.nl]; exact d
 obtain ⟨R,H⟩:=E n d;have a7:=(h.ok.gen n A c).1;have I:f (n*3)=(0:Nat):=by
  rw [R];unfold tbW;rw [XgC F,if_neg (by decide),XgC c,h.ok.mg,if_pos Q];rfl
 rw [XgC c] at H;have eT:Xs5 t={t with live:=t.live.set n true,fl:=r}:=by unfold Xs5; rw [e]
 have J:P.sb≠P.tb:=fun e=>by
  have:=XdG m C (by decide);exact this e.symm
 have S:=(List.nodup_cons.1 (e▸h.ok.nd)).1;refine ζe Tryz.func45 Tryz.ntmps45 rfl (ζd 9 XaW (by kernel_rfl) rfl fun B=>δl B m rfl (δl B m rfl (δn B rfl fun T g => ?_)));have o:=g.heap' m;refine ζf rfl (ζl o rfl (ζc rfl (Xnq (a:=0) (b:=1) o (show XaE T _ _ _ _ from g.heap' C) d (by omega) I (Xs1 h.ok) (.inl ⟨rfl,rfl⟩)) ?_));rintro _ w2 ⟨p,q,K⟩;refine ζa rfl (ζl p rfl (ζi (n*3) rfl (ζk rfl (Xh0 q (k:=n*3+2) (by show 0+n*3+2=_; omega) (by omega)) rfl ?_)));rw [XtI _ _ (show n*3+2≠n*3 by omega)];refine ζs p rfl fun U s u a8 => ?_;have x:=u.heap q J;refine ζl s rfl (ζi (n*3) rfl (ζk rfl (Xh0 x (k:=n*3+1) (by show 0+n*3+1=_; omega) (by omega)) rfl ?_));rw [XtI _ _ (show n*3+1≠n*3 by omega),H];refine ζv (XhG n A U (by omega) (by omega)) rfl fun V j => ?_;have W:=(((g.mono fun _ _ h=>h.elim).trans K).trans (u.mono fun _ _ h => .inl h)).trans (j.mono fun _ _ h=>h.elim);have y:=h.ok.take;have L:=XiT (b:=true) F;simp only [Bool.false_eq_true,if_false,if_true] at L;have hT:XbE V P (Xs5 t) slots gens:=by
  rw [eT] at y ⊢;refine ⟨y,f (n*3+2),upd f (n*3) (1:Nat),?_,j.heap' x,?_,fun i hi => ?_⟩
  ·rw [j.heap' s];refine congrArg (fun l:List Value=>some (Obj.cells l.toArray 145 (0,0))) ?_;show tbR P t.gen.length t.most _ _=tbR P t.gen.length t.most _ _
   refine Xs3 ?_ ?_ ?_
   ·show t.fl.length - (1:Int)=r.length
    rw [e,List.length_cons]; omega
   ·show t.live.count true+(1:Int)=((t.live.set n true).count true:Nat)
    omega
   ·show (t.gen.length:Int) - t.fl.length - t.live.count true=t.gen.length - r.length - ((t.live.set n true).count true:Nat)
    rw [e,List.length_cons]; omega
  ·refine Xi2 (fun a ha => ?_) O;rw [XtI _ _ (by omega)]
  ·obtain ⟨b1,M⟩:=E i hi;by_cases z:i=n
   ·subst z;refine ⟨?_,by rw [XtI _ _ (by omega)]; exact M⟩;rw [XtJ];exact (Xs8.2 (XgC (List.getElem?_set_self G))).symm
   ·refine ⟨?_,by rw [XtI _ _ (by omega)]; exact M⟩;rw [XtI _ _ (by omega),b1];unfold tbW;show _=if (t.live.set n true).getD i false=true then (1:Int) else _
    simp only [List.getD_eq_getElem?_getD];rw [List.getElem?_set_ne (Ne.symm z)]
 have eg:tbG t (n:Nat)=A:=by unfold tbG; rw [Int.toNat_natCast,c]; rfl
 exact ζq rfl Tryz.func45 (.tmp rfl (.tmp rfl (.tmp rfl .nil))) ⟨by unfold Xs6 Xs7; rw [e]; simp only [eg]; rfl,hT,W⟩
theorem Xnk {w:World} {P:XbD} {t:TbM} {slots gens:Int} (h:XbE w P t slots gens) (k:Int) (hk : -9223372036854775808≤k∧k≤9223372036854775807):Xan Tryz.prog 70 #[tbV P,.int .i64 k] w
 (fun v w'=>v = .int .i64 (tbE t k)∧XbE w' P (XsY t k) slots gens∧Chg (XsW P) w w'):=by
 have ao:=h.ok.sl;have ap:=h.ok.n;have aq:=h.ok.gs;have y:P.sb≠P.tb:=fun e=>by
  obtain ⟨head,f,E,F,U,G⟩:=h.at';have:=XdG E F (by decide);exact this e.symm
 refine Xan.enter Tryz.func70 rfl Tryz.ntmps70 rfl rfl ?_;refine ζa rfl ?_;refine ζc rfl (Xnn h k hk) ?_;rintro _ w1 ⟨rfl,I⟩;refine ζa rfl ?_;have hg:=h.grow I;have J:Chg (XsW P) w w1:=I.mono fun _ _ h=>h.elim;by_cases m:tbE t k=0
 ·obtain ⟨b1,b2,d,b4,b5,V,H⟩:=h.ok.tbE_ok m;obtain ⟨head,f,E,F,U,G⟩:=hg.at';obtain ⟨n,z⟩:=Int.eq_ofNat_of_zero_le b1;have en:tbN t k=n:=by unfold tbN; rw [if_pos m,z]
  rw [z,Int.toNat_natCast] at d V H;have eG:tbG t (Xs4 k)=XsX k:=by rw [z]; unfold tbG; rw [Int.toNat_natCast,V]; rfl
  have K:n<t.live.length:=by rw [h.ok.nl]; exact d
  obtain ⟨a1,a2⟩:=G n d;rw [XgC V] at a2;have L:f (n*3)=(1:Nat):=by rw [a1,Xs8.2 (XgC H)]; rfl
  have p:=h.ok.give k;have r:=Xs1 h.ok;have aa:=XiT (b:=false) H;simp only [Bool.false_eq_true,if_false,if_true] at aa;have ab:n ∉ t.fl:=fun hm=>by
   obtain ⟨g,_,_,a3⟩:=h.ok.fr _ hm;rw [H] at a3;cases a3
  rw [m,en];refine Xay.no hTT rfl rfl rfl ?_;refine Xay.loadb hTT rfl E rfl rfl ?_;refine Xay.index hTT rfl (j:=(n*3)) (by omega) (by omega) (by first | rfl | omega | (simp; done) | (simp; omega)) rfl ?_;refine ζk rfl (Xh0 F (k:=n*3+1) (by show 0+n*3+1=_; omega) (by omega)) rfl ?_;rw [a2];refine Xay.arith hTT rfl (w64 (by omega)) rfl ?_;refine Xay.store hTT rfl F (XpD (i:=n*3+1) (by show 0+n*3+1=_; omega) (by omega)) rfl ?_;intro w2 s M ar;refine ζa rfl ?_;have N:=M.heap E (fun e=>y e.symm);replace s:XaE w2 P.sb 147 (t.gen.length*3) (upd f (n*3+1) (XsX k+1)):=s;have ae:w2.cell? ⟨P.sb,0+n*3+1,none⟩=some (.int .i64 (XsX k+1)):=by rw [Xh0 s (k:=n*3+1) (by omega) (by omega),XtJ]
  refine Xay.drawn (q:=8) XaW hTT Xj9 (by kernel_rfl) rfl ?_;intro W;refine Xaq.load hTT W rfl ae (by first | exact fun h=>h | (intro h; omega) | assumption) rfl ?_;refine Xaq.loadb hTT W rfl N (by first | exact fun h=>h | (intro h; omega) | assumption) rfl rfl ?_;refine Xaq.nil W ?_;intro w3 A;refine ζa rfl ?_;have O:=A.heap' N;have Q:XaE w3 P.sb 147 (t.gen.length*3) (upd f (n*3+1) (XsX k+1)):=A.heap' s;have R:Chg (XsW P) w w3:=(J.trans (M.mono fun _ _ h => .inr h)).trans (A.mono fun _ _ h=>h.elim);by_cases u:t.most<XsX k+1
  ·have eT:XsY t k={t with gen:=t.gen.set n (XsX k+1),live:=t.live.set n false}:=by
    unfold XsY;rw [if_pos m,eG,if_neg (by omega),z,Int.toNat_natCast]
   refine Xay.yes hTT rfl (decide_eq_true u) rfl ?_;refine ζc rfl (Xnq (a:=1) (b:=2) O Q d (by omega) (by rw [XtI _ _ (by omega)]; exact L) r (.inr (.inl ⟨rfl,rfl⟩))) ?_;rintro _ w4 ⟨x,B,C⟩;refine ζa rfl ?_;have hT:XbE w4 P (XsY t k) slots gens:=by
    rw [eT] at p ⊢;refine ⟨p,head,upd (upd f (n*3+1) (XsX k+1)) (n*3) (2:Nat),?_,?_,?_,fun i o => ?_⟩
    ·rw [x];refine congrArg (fun l:List Value=>some (Obj.cells l.toArray 145 (0,0))) ?_;show tbR P t.gen.length t.most _ _=tbR P (t.gen.set n (XsX k+1)).length t.most _ _
     rw [List.length_set];refine Xs3 rfl ?_ ?_
     ·show t.live.count true - (1:Int)=((t.live.set n false).count true:Nat)
      omega
     ·show (t.gen.length:Int) - t.fl.length - t.live.count true+1=(t.gen.set n (XsX k+1)).length - t.fl.length - ((t.live.set n false).count true:Nat)
      rw [List.length_set]; omega
    ·show XaE w4 P.sb _ ((t.gen.set n (XsX k+1)).length*3) _
     rw [List.length_set]; exact B
    ·show Xi1 _ (t.gen.set n (XsX k+1)).length _ t.fl
     rw [List.length_set];refine Xi2 (fun a ha => ?_) U;rw [XtI _ _ (by omega),XtI _ _ (by omega)]
    ·replace o:i<t.gen.length:=by simpa using o
     obtain ⟨c1,c2⟩:=G i o;by_cases c:i=n
     ·subst c;refine ⟨?_,?_⟩
      ·rw [XtJ];unfold tbW;show _=if (t.live.set i false).getD i false=true then (1:Int) else if (t.gen.set i (XsX k+1)).getD i 0≤t.most then 0 else 2
       rw [XgC (List.getElem?_set_self K),XgC (List.getElem?_set_self d),if_neg (by decide),if_neg (by omega)];rfl
      ·rw [XtI _ _ (by omega),XtJ];exact (XgC (List.getElem?_set_self d)).symm
     ·refine ⟨?_,?_⟩
      ·rw [XtI _ _ (by omega),XtI _ _ (by omega),c1];unfold tbW;show _=if (t.live.set n false).getD i false=true then (1:Int) else if (t.gen.set n (XsX k+1)).getD i 0≤t.most then 0 else 2
       simp only [List.getD_eq_getElem?_getD];rw [List.getElem?_set_ne (Ne.symm c),List.getElem?_set_ne (Ne.symm c)]
      ·rw [XtI _ _ (by omega),XtI _ _ (by omega),c2];show _=(t.gen.set n (XsX k+1)).getD i 0
       simp only [List.getD_eq_getElem?_getD];rw [List.getElem?_set_ne (Ne.symm c)]
   exact Xay.ret1 hTT rfl Tryz.func70 rfl rfl ⟨rfl,hT,R.trans C⟩
  ·have eT:XsY t k={t with gen:=t.gen.set n (XsX k+1),live:=t.live.set n false,fl:=n::t.fl}:=by
    unfold XsY;rw [if_pos m,eG,if_pos (by omega),z,Int.toNat_natCast]
   refine Xay.no hTT rfl (decide_eq_false u) rfl ?_;refine ζc rfl (Xnq (a:=1) (b:=0) O Q d (by omega) (by rw [XtI _ _ (by omega)]; exact L) r (.inr (.inr ⟨rfl,rfl⟩))) ?_;rintro _ w4 ⟨x,B,C⟩;refine ζa rfl ?_;refine Xay.loadb hTT rfl x rfl rfl ?_;refine Xay.store hTT rfl B (XpD (i:=n*3+2) (by show 0+n*3+2=_; omega) (by omega)) rfl ?_;intro w5 D S au;refine ζa rfl ?_;have ah:=S.heap x (fun e=>y e.symm);refine Xay.store hTT rfl ah rfl rfl ?_;intro w6 ai T av;refine ζa rfl ?_;replace D:XaE w5 P.sb 147 (t.gen.length*3) (upd (upd (upd f (n*3+1) (XsX k+1)) (n*3) (0:Nat)) (n*3+2) head):=D;have aj:Chg (XsW P) w w6:=((R.trans C).trans (S.mono fun _ _ h => .inr h)).trans (T.mono fun _ _ h => .inl h);have hT:XbE w6 P (XsY t k) slots gens:=by
    rw [eT] at p ⊢;refine ⟨p,n,upd (upd (upd f (n*3+1) (XsX k+1)) (n*3) (0:Nat)) (n*3+2) head,?_,?_,?_,fun i o => ?_⟩
    ·rw [ai];refine congrArg (fun l:List Value=>some (Obj.cells l.toArray 145 (0,0))) ?_;show tbR P t.gen.length t.most _ _=tbR P (t.gen.set n (XsX k+1)).length t.most _ _
     rw [List.length_set];refine Xs3 ?_ ?_ ?_
     ·show (t.fl.length:Int)+1=((n::t.fl).length:Nat)
      rw [List.length_cons]; omega
     ·show t.live.count true - (1:Int)=((t.live.set n false).count true:Nat)
      omega
     ·show (t.gen.length:Int) - t.fl.length - t.live.count true=(t.gen.set n (XsX k+1)).length - (n::t.fl).length - ((t.live.set n false).count true:Nat)
      rw [List.length_set,List.length_cons]; omega
    ·show XaE w6 P.sb _ ((t.gen.set n (XsX k+1)).length*3) _
     rw [List.length_set]; exact T.heap D y
    ·show Xi1 _ (t.gen.set n (XsX k+1)).length _ (n::t.fl)
     rw [List.length_set];refine ⟨rfl,?_⟩;rw [XtJ];refine Xi2 (fun a ha => ?_) U;have:a≠n:=fun e=>ab (e▸ha);rw [XtI _ _ (by omega),XtI _ _ (by omega),XtI _ _ (by omega)]
    ·replace o:i<t.gen.length:=by simpa using o
     obtain ⟨c1,c2⟩:=G i o;by_cases c:i=n
     ·subst c;refine ⟨?_,?_⟩
      ·rw [XtI _ _ (by omega),XtJ];unfold tbW;show _=if (t.live.set i false).getD i false=true then (1:Int) else if (t.gen.set i (XsX k+1)).getD i 0≤t.most then 0 else 2
       rw [XgC (List.getElem?_set_self K),XgC (List.getElem?_set_self d),if_neg (by decide),if_pos (by omega)];rfl
      ·rw [XtI _ _ (by omega),XtI _ _ (by omega),XtJ];exact (XgC (List.getElem?_set_self d)).symm
     ·refine ⟨?_,?_⟩
      ·rw [XtI _ _ (by omega),XtI _ _ (by omega),XtI _ _ (by omega),c1];unfold tbW;show _=if (t.live.set n false).getD i false=true then (1:Int) else if (t.gen.set n (XsX k+1)).getD i 0≤t.most then 0 else 2
       simp only [List.getD_eq_getElem?_getD];rw [List.getElem?_set_ne (Ne.symm c),List.getElem?_set_ne (Ne.symm c)]
      ·rw [XtI _ _ (by omega),XtI _ _ (by omega),XtI _ _ (by omega),c2];show _=(t.gen.set n (XsX k+1)).getD i 0
       simp only [List.getD_eq_getElem?_getD];rw [List.getElem?_set_ne (Ne.symm c)]
   exact Xay.ret1 hTT rfl Tryz.func70 rfl rfl ⟨rfl,hT,aj⟩
 ·refine Xay.yes hTT rfl (bne_iff_ne.2 m) rfl ?_;exact Xay.ret1 hTT rfl Tryz.func70 rfl rfl ⟨rfl,by unfold XsY; rw [if_neg m]; exact hg,J⟩
theorem XuW (t:Nat→Int) (ht:∀ i,t i=0):∀ n,XuS [Value.int .i64 0,Value.int .i64 0,Value.int .i64 0] n=XsE (n*3) t
 |0=>rfl
 |n+1=>by
  have e:∀ m,XsE m t=List.replicate m (.int .i64 0):=fun m=>by
   unfold XsE;rw [List.map_congr_left (g:=fun _=>Value.int .i64 0) (fun i _=>by rw [ht]),List.map_const',List.length_range]
  rw [XuS,XuW t ht n,e,e];show List.replicate 3 _++_=_
  rw [List.replicate_append_replicate]
  congr 1
  omega
def XkD:Nat→Nat→Int
 |0=>fun _=>0
 |k+1=>upd (upd (upd (XkD k) (k*3) 0) (k*3+1) 1) (k*3+2) (k+1)
theorem XkE:∀ (k n:Nat),n<k→XkD k (n*3)=0∧XkD k (n*3+1)=1∧XkD k (n*3+2)=n+1
 |k+1,n,h=>by
  have e:XkD (k+1)=upd (upd (upd (XkD k) (k*3) 0) (k*3+1) 1) (k*3+2) (k+1):=rfl;rw [e];by_cases a:n=k
  ·subst a;exact ⟨by rw [XtI _ _ (by omega),XtI _ _ (by omega),XtJ],by rw [XtI _ _ (by omega),XtJ],XtJ ..⟩
  ·rw [XtI _ _ (by omega),XtI _ _ (by omega),XtI _ _ (by omega),XtI _ _ (by omega),XtI _ _ (by omega),XtI _ _ (by omega),XtI _ _ (by omega),XtI _ _ (by omega),XtI _ _ (by omega)];exact XkE k n (by omega)
theorem Xi3 {f:Nat→Int} {N:Nat} (h:∀ n,n<N→f (n*3+2)=n+1):∀ (m k:Nat),k+m=N→Xi1 f N k (List.range' k m)
 |0,k,e=>by show (k:Int)=N; omega
 |m+1,k,e=>by
  rw [List.range'_succ];refine ⟨rfl,?_⟩;rw [h k (by omega)];exact Xi3 h m (k+1) (by omega)
theorem Xno (N:Nat) (gens:Int) (w:World) (hN:1≤N∧N≤4096) (hg:1≤gens∧gens≤1023):Xan Tryz.prog 37 #[.int .i64 N,.int .i64 gens] w
 (fun v w' => ∃ P,v = .tuple #[tbV P,.int .i64 0]∧(w.heap.size≤P.tb∧w.heap.size≤P.sb)∧XbE w' P (XkX N gens) N gens∧Chg XaW w w'):=by
 refine ζe Tryz.func37 Tryz.ntmps37 rfl (ζf rfl (ζf rfl (ζf rfl (ζf rfl (Xay.make hTT (m:=N) (k:=N) rfl rfl rfl (Nat.le_refl _) (by first | omega | (show 24*N≤_; omega)) (by omega) fun sb E e1 c d Q=>ζa rfl (ζb rfl (ζn rfl fun tb s e2 a j R => ?_)))))));obtain ⟨P,eP⟩:∃ P:XbD,P=⟨tb,sb⟩:=⟨_,rfl⟩;replace c:XaE E P.sb 147 (N*3) (XkD 0):=by
  unfold XaE;rw [eP,c];exact congrArg (fun x:List Value=>some (Obj.cells x.toArray 147 (0,0))) (XuW (XkD 0) (fun _=>rfl) N)
 replace a:s.heap[P.tb]? = some (.cells (tbR P N gens 0 (fun _=>0)).toArray 145 (0,0)):=by rw [eP]; exact a
 have o:¬ P.tb=P.sb:=by rw [eP]; show ¬ tb=sb; omega
 rw [show tb=P.tb by rw [eP]];refine ζl a rfl ?_;rw [show sb=P.sb by rw [eP]];refine Xay.loop (α:=Nat) (fun k => [(0,false,.int .i64 N),(6,false,tbV P),(31,false,.int .i64 N),(32,false,.int .i64 k)])
  (fun k w'=>k≤N∧XaE w' P.sb 147 (N*3) (XkD k)∧Chg (fun z=>z=P.sb) s w') (fun k=>N - k) 0 ⟨rfl,rfl,rfl,rfl,trivial⟩ ⟨Nat.zero_le _,j.heap' c,Chg.refl _ _⟩ ?_
 rintro k F ⟨S,t,f⟩ ih;have g:=f.heap a o;refine ζa rfl (ζg rfl (fun p => ?_) fun p => ?_)
 ·have u:k<N:=by have:=of_decide_eq_true p; omega
  refine ζl g rfl (ζj rfl (ζb rfl (ζi (k*3) rfl ?_)));refine Xay.store hTT rfl (show F.heap[P.sb]? = some (.cells (XsE (N*3) (XkD k)).toArray 147 (0,0)) from t) (XpF (i:=k*3) (by show 0+k*3=_; omega) (by omega)) rfl ?_;intro y G b A;exact ζa rfl (ζj rfl (ih (k+1) _ _ ⟨u,G,f.trans b⟩ (by omega) ⟨rfl,rfl,rfl,rfl,trivial⟩))
 ·have B:k=N:=by have:=of_decide_eq_false p; omega
  subst B;refine ζi 0 rfl (ζs g rfl fun y q b A => ?_);have H:=((d.trans j).since f (fun z I e=>by rw [eP] at e; have:z=sb:=e; omega)).since b (fun z I e=>by rw [eP] at e; have:z=tb:=e; have:=d.size; omega);have h:(XkX k gens).gen.length=k:=by show (List.replicate ((k:Nat):Int).toNat (1:Int)).length=k; rw [List.length_replicate,Int.toNat_natCast]
  have r:(XkX k gens).fl=List.range k:=by show List.range ((k:Nat):Int).toNat=_; rw [Int.toNat_natCast]
  have e1:(XkX k gens).live.count true=0:=by show (List.replicate ((k:Nat):Int).toNat false).count true=0; rw [List.count_replicate]; rfl
  have J:XbE y P (XkX k gens) k gens:=by
   refine ⟨XkY (by omega) hg,0,XkD k,?_,?_,?_,fun i C => ?_⟩
   ·rw [q,h];refine congrArg (fun l:List Value=>some (Obj.cells l.toArray 145 (0,0))) ?_;show tbR P k gens 0 (fun i=>if i=0 then (k:Int) else 0)=tbR P k gens 0 _
    refine Xs3 ?_ ?_ ?_
    ·show (k:Int)=((XkX k gens).fl.length:Nat)
     rw [r,List.length_range]
    ·show (0:Int)=((XkX k gens).live.count true:Nat)
     rw [e1]; rfl
    ·show (0:Int)=((XkX k gens).gen.length:Nat) - (XkX k gens).fl.length - ((XkX k gens).live.count true:Nat)
     rw [h,r,e1,List.length_range]; omega
   ·rw [h]; exact b.heap t (fun e=>o e.symm)
   ·rw [h,r,List.range_eq_range'];exact Xi3 (fun n K=>(XkE k n K).2.2) k 0 (by omega)
   ·rw [h] at C;obtain ⟨L,M,_⟩:=XkE k i C;have O:(XkX k gens).live[i]? = some false:=by show (List.replicate ((k:Nat):Int).toNat false)[i]? = _; rw [List.getElem?_replicate,if_pos (by omega)]
    have D:(XkX k gens).gen[i]? = some 1:=by show (List.replicate ((k:Nat):Int).toNat (1:Int))[i]? = _; rw [List.getElem?_replicate,if_pos (by omega)]
    rw [L,M,XgC D];refine ⟨?_,rfl⟩;unfold tbW;rw [XgC O,XgC D,if_neg (by decide),if_pos (show (1:Int)≤(XkX (k:Nat) gens).most from hg.1)]
  exact ζr Tryz.func37 rfl ⟨P,rfl,⟨by rw [eP]; show _≤tb; have:=d.size; omega,by rw [eP]; show _≤sb; omega⟩,J,H⟩
def zsT (s:StM):List Int:=s.th.map szT
section
variable {c:Conf} {s:StM} {pd:Option (Nat × PlcM)}
theorem Xvf {l:List (Option ThM)} {o:Nat} {y:Option ThM}:(l.set o y).map szT=(l.map szT).set o (szT y):=List.map_set
theorem XpI {α:Type} {l:List α} {o:Nat} {x:α} (h:l[o]? = some x):l.set o x=l:=by
 obtain ⟨a,e⟩:=List.getElem?_eq_some_iff.1 h;rw [← e,List.set_getElem_self]
theorem Xu5 {o:Nat} {x:Option ThM} (h:s.th[o]? = some x):(zsT s)[o]? = some (szT x):=by unfold zsT; rw [List.getElem?_map,h]; rfl
theorem Xva (h:s.Ok c) (k:Nat) (n:Int):zsT (XrA s k n)=zsT s:=by
 unfold XrA;cases hm:XrE s (k:Nat) with
 |none=>rfl
 |some m =>
  obtain ⟨j,ej,d,a⟩:=Xkw hm;obtain ⟨⟨o,t,e1,e2,e3⟩,_⟩:=h.mv j m a;simp only
  split
  ·rfl
  ·have b:XrL s m.who=t.size:=by rw [e1]; exact XrM e2
   show (s.th.set m.who.toNat _).map szT=_
   rw [show m.who.toNat=o by omega,Xvf,b];show (zsT s).set o t.size=zsT s
   exact XpI (Xu5 e2)
theorem Xu6 (c:Conf) (s:StM) (k:Nat):zsT (Xrs c s k)=zsT s:=by unfold zsT; rw [(Xc9 c s k).1]
theorem Xu8 (h:s.Ok c) (κ:Int):zsT (Xrx s κ)=zsT s:=by
 unfold Xrx;split
 ·rfl
 ·exact Xva h _ _
theorem Xu7 {o:Nat} {q:PlcM} (h:s.OkP c (some (o,q))):zsT (Xrw c s q)=zsT s:=by
 unfold Xrw;split
 ·rfl
 ·rw [Xva (StM.OkP.begin h.dropped _),Xu6]; rfl
theorem Xvc (c:Conf) (s:StM) (o:Nat) (size:Int):zsT (XrD c s (o:Nat) size)=(zsT s).set o size:=by
 show (s.th.set (o:Int).toNat _).map szT=_
 rw [Int.toNat_natCast,Xvf];rfl
theorem Xvi (s:StM) (o:Int) (i n:Nat):zsT (XrQ s o i n)=zsT s:=by unfold zsT; rw [XuM]
theorem Xu4 (h:s.Ok c) (o size:Int):zsT (Xrq c s o size)=if Xrr c s o size=0 then (zsT s).set o.toNat size else zsT s:=by
 unfold Xrq;split
 ·rename_i a
  obtain ⟨j,rfl,_⟩:=Xcb a;rw [Xvc,Int.toNat_natCast]
 ·rfl
theorem Xu9 (h:s.Ok c) (o:Int):zsT (Xrz c s o)=if Xlz s o=0 then (zsT s).set o.toNat 0 else zsT s:=by
 unfold Xrz;by_cases a:Xlz s o=0
 ·rw [if_neg (fun h=>h a),if_pos a];obtain ⟨j,t,rfl,b⟩:=XlA a;rw [XrG b,Int.toNat_natCast];obtain ⟨t',d,_,_,_,e⟩:=Xf2 h b;have f:=(h.finish t.q.cls).away d e;rw [XrG d,Xu7 f];show ((Xrx s t.q.cls).th.set j none).map szT=_
  rw [Xvf];show (zsT (Xrx s t.q.cls)).set j 0=_
  rw [Xu8 h]
 ·rw [if_pos a,if_neg a]
theorem Xve (c:Conf) (s:StM) (o i n:Int):zsT (XrH c s o i n)=zsT s:=by unfold XrH; split <;> rfl
theorem Xvh (c:Conf) (s:StM) (o i:Int) (l:List Int):zsT (XrP c s o i l)=zsT s:=by
 unfold XrP;split
 ·rw [Xvi]; rfl
 ·rfl
theorem Xvg (s:StM) (k keep:Int):zsT (XrJ s k keep)=zsT s:=by unfold XrJ; split <;> rfl
theorem Xvb (h:s.OkP c pd) (o:Nat):(∃ t,s.th[o]? = some (some t))↔1≤(zsT s).getD o 0:=by
 constructor
 ·rintro ⟨t,a⟩;rw [List.getD_eq_getElem?_getD,Xu5 a];exact (h.size o t a).1
 ·intro b;cases a:s.th[o]? with
  |none =>
   rw [List.getD_eq_getElem?_getD,show (zsT s)[o]? = none by unfold zsT; rw [List.getElem?_map,a]; rfl] at b;exact absurd b (by decide)
  |some x =>
   cases x with
   |none =>
    rw [List.getD_eq_getElem?_getD,Xu5 a] at b;exact absurd b (by decide)
   |some t=>exact ⟨t,rfl⟩
theorem Xvd:(zsT s).length=s.th.length:=List.length_map _
end
theorem Xbz.ones {F Fr:Nat→Prop} {w w':World} {S:Sto} {s:StM} {by':Int} {mo:Mo} (h:Xbz F Fr w S s by' mo) {X:Nat→Prop} (he:∀ b,X b→Xas F w S b) (hc:Chg X w w'):Xbz F Fr w' S s by' mo:=by
 refine h.other hc he ?_;intro al d k sz q c;obtain ⟨x,g,y,i,j⟩:=h.th;have:=g.uniq d;subst this;by_cases a:∀ (o:Nat) t,s.th[o]? = some (some t)→(o:Int)≠k
 ·rw [j k a] at c; cases c
 ·simp only [Classical.not_forall,Decidable.not_not] at a;obtain ⟨o,l,m,n⟩:=a;obtain ⟨z,_,f,_,_,p⟩:=i o l m;rw [n,c] at f;have e:=Xta (Option.some.inj f);rw [e];intro b' off s' e' r;obtain ⟨t,u,v⟩:=(he b' r).kd;have:=p b' off s' e';rw [u] at this;exact v.2.2 (Option.some.inj (Option.some.inj this))
structure HpM where
 st:StM
 tb:TbM
abbrev hpV (H:Nat):Value := .pointer (some ⟨H,0,none⟩)
def XnT (e g:Int) (b:Value) (s:Int):Value := .agg #[.int .i64 e,.int .i64 g,b,.int .i64 s]
abbrev Xk0:Value := .slice none 0 0
structure Hm (c:Conf) (n0:Nat) (w0 w:World) (F:Nat→Prop) (S:Sto) (H:Nat) (P:XbD) (s:StM) (t:TbM):Prop where
 lv:Lv c n0 w0 w F S s
 obj:w.heap[H]? = some (.cells [XrY S,tbV P,.int .i64 c.size].toArray 89 (0,0))
 tb:XbE w P t c.slots c.gens
 low:(n0≤P.tb∧n0≤P.sb)∧w0.heap.size≤P.tb∧w0.heap.size≤P.sb
 out:¬ F H ∧ ¬ F P.tb ∧ ¬ F P.sb
def Xhy (F:Nat→Prop) (P:XbD):Nat→Prop:=fun z=>F z∨XsW P z
def Xaz (c:Conf) (n0:Nat) (w0 w:World) (F:Nat→Prop) (S:Sto) (H:Nat) (P:XbD) (s:StM) (t:TbM) (w':World):Prop :=
 ∃ F',Hm c n0 w0 w' F' S H P s t∧(∀ z,F' z→F z∨w.heap.size≤z)∧Chg (Xhy F P) w w'
section
variable {c:Conf} {n0:Nat} {w0 w w':World} {F:Nat→Prop} {S:Sto} {H:Nat} {P:XbD} {s s':StM} {t t':TbM}
theorem Lv.ones (h:Lv c n0 w0 w F S s) {X:Nat→Prop} (hX:∀ b,X b→n0≤b∧w0.heap.size≤b ∧ ¬ F b ∧ ∃ t,kd w b=some (some t)∧t≠329∧t≠325∧t≠3) (hc:Chg X w w'):Lv c n0 w0 w' F S s:=by
 obtain ⟨Fr,mo,a⟩:=h.ok;obtain ⟨f1,f2,l,m,n,o,d,f⟩:=h.fx;refine {h with ok:=⟨Fr,mo,a.ones (fun b g => ?_) hc⟩,chg:=h.chg.since hc (fun z p e=>by have:=(hX z e).2.1; omega)};obtain ⟨q,r,i,t,j,k⟩:=hX b g;exact ⟨i,⟨by omega,by omega,by omega,by omega,by omega,by omega⟩,fun off s e=>by have:=d _ _ _ e; omega,fun off s e=>by have:=f _ _ _ e; omega,t,j,k⟩
theorem Hm.grow (h:Hm c n0 w0 w F S H P s t) (hc:Chg XaW w w'):Hm c n0 w0 w' F S H P s t:={h with lv:=h.lv.grow hc,obj:=hc.heap' h.obj,tb:=h.tb.grow hc}
theorem Hm.ne (h:Hm c n0 w0 w F S H P s t):¬ XsW P H:=fun e=>by
 obtain ⟨a,b⟩:=h.tb.kd;have:=Xh5 h.obj;exact e.elim (fun e=>by rw [← e,this] at a; cases a) (fun e=>by rw [← e,this] at b; cases b)
theorem Hm.store (h:Hm c n0 w0 w F S H P s t) (hl:XaJ c n0 w0 w F S s' w'):Xaz c n0 w0 w F S H P s' t w':=by
 obtain ⟨F',j,a,b⟩:=hl;obtain ⟨d,f,i⟩:=h.out;obtain ⟨k,l⟩:=h.tb.lt;exact ⟨F',⟨j,b.heap h.obj d,h.tb.chg b f i,h.low,fun z=>(a _ z).elim d (fun g=>by have:=Xjs h.obj; omega),fun z=>(a _ z).elim f (fun g=>by omega),fun z=>(a _ z).elim i (fun g=>by omega)⟩,a,b.mono fun _ _ e => .inl e⟩
theorem Hm.table (h:Hm c n0 w0 w F S H P s t) (hT:XbE w' P t' c.slots c.gens) (hc:Chg (XsW P) w w'):Xaz c n0 w0 w F S H P s t' w':=by
 obtain ⟨k,a,d⟩:=h.out;obtain ⟨f,g⟩:=h.tb.kd;refine ⟨F,⟨h.lv.ones (fun b i => ?_) hc,hc.heap h.obj h.ne,hT,h.low,h.out⟩,fun z j => .inl j,hc.mono fun _ _ e => .inr e⟩;rcases i with rfl | rfl
 ·exact ⟨h.low.1.1,h.low.2.1,a,_,f,by decide⟩
 ·exact ⟨h.low.1.2,h.low.2.2,d,_,g,by decide⟩
theorem Hm.self (h:Hm c n0 w0 w F S H P s t) (hc:Chg XaW w w'):Xaz c n0 w0 w F S H P s t w':=⟨F,h.grow hc,fun _ h => .inl h,hc.mono fun _ _ h=>h.elim⟩
theorem Xaz.up {w1:World} (h:Xaz c n0 w0 w1 F S H P s t w') (hc:Chg XaW w w1):Xaz c n0 w0 w F S H P s t w':=by
 obtain ⟨F',a,b,d⟩:=h;have:=hc.size;exact ⟨F',a,fun z e=>(b z e).imp id (by omega),(hc.mono fun _ _ h=>h.elim).trans d⟩
theorem Xaz.on {w1:World} (h:Xaz c n0 w0 w F S H P s t w1) (hc:Chg XaW w1 w'):Xaz c n0 w0 w F S H P s t w':=by
 obtain ⟨F',a,b,d⟩:=h;exact ⟨F',a.grow hc,b,d.trans (hc.mono fun _ _ h=>h.elim)⟩
theorem Xaz.box {w1:World} (h:Xaz c n0 w0 w F S H P s t w1) {b ty:Nat} (hF:∀ F',(∀ z,F' z→F z∨w.heap.size≤z)→Hm c n0 w0 w1 F' S H P s t → ¬ F' b) (hn:n0≤b∧w.heap.size≤b) (hk:kd w1 b=some (some ty)) (ht:(ty≠329∧ty≠325∧ty≠3)∧ty≠89∧ty≠145∧ty≠147) (h0:w0.heap.size≤b) (hc:Chg (fun z=>z=b) w1 w'):Xaz c n0 w0 w F S H P s t w':=by
 obtain ⟨F',a,d,i⟩:=h;obtain ⟨f,g⟩:=a.tb.kd;have kH:=Xh5 a.obj;refine ⟨F',⟨a.lv.ones (fun z e => ?_) hc,hc.heap a.obj (fun e => ?_),a.tb.chg hc (fun e => ?_) (fun e => ?_),a.low,a.out⟩,d,i.since hc (fun z j e=>by omega)⟩
 ·subst e; exact ⟨hn.1,h0,hF F' d a,ty,hk,ht.1⟩
 ·rw [e,hk] at kH; exact ht.2.1 (Option.some.inj (Option.some.inj kH))
 ·rw [e,hk] at f; exact ht.2.2.1 (Option.some.inj (Option.some.inj f))
 ·rw [e,hk] at g; exact ht.2.2.2 (Option.some.inj (Option.some.inj g))
end
theorem XlX {r:Nat} (h:XnE (FloatKind.nearest .f64 0) (FloatKind.nearest .f64 0) r):XfR .eql r r=some false∧XfR .neq r r=some true:=by
 unfold XnE at h;rw [show (FloatKind.format .f64).div (FloatKind.nearest .f64 0) (FloatKind.nearest .f64 0)=none from rfl] at h;obtain ⟨t,rfl⟩:=h;have:(FloatKind.format .f64).order (t % 2*2 ^ 63+9218868437227405312+1+t / 2 % (2 ^ 52 - 1)) (t % 2*2 ^ 63+9218868437227405312+1+t / 2 % (2 ^ 52 - 1))=none:=by
  have a:t / 2 % (2 ^ 52 - 1)<2 ^ 52 - 1:=Nat.mod_lt _ (by decide);generalize t / 2 % (2 ^ 52 - 1)=u at *
  have b:t % 2<2:=Nat.mod_lt _ (by decide);generalize t % 2=z at *
  have:∃ sg fr,Ieee.double.read (z*2 ^ 63+9218868437227405312+1+u) = .nan sg fr:=by
   unfold Ieee.Format.read;rw [show Ieee.double.signWeight=2 ^ 63 from rfl,show Ieee.double.binade=2 ^ 52 from rfl,show Ieee.double.infRung=2047*2 ^ 52 from rfl];have e2:(z*2 ^ 63+9218868437227405312+1+u) % 2 ^ 63=9218868437227405312+1+u:=by omega
   simp only [e2];rw [if_neg (by omega),if_neg (by omega),if_neg (by omega)];exact ⟨_,_,rfl⟩
  obtain ⟨sg,fr,e⟩:=this;show Ieee.Format.order _ _ _=_
  unfold Ieee.Format.order;rw [show FloatKind.format .f64=Ieee.double from rfl,e];rfl
 unfold XfR;rw [show (FloatKind.format .f64).order=(FloatKind.format .f64).order from rfl,this];exact ⟨rfl,rfl⟩
theorem XnG (a b:Int) (w:World):Xan Tryz.prog 60 #[.int .i64 a,.int .i64 b] w (fun v w' => ∃ r,v = .float .f64 r∧XnE (FloatKind.nearest .f64 a) (FloatKind.nearest .f64 b) r∧Chg XaW w w'):=by
 exact ζe Tryz.func60 Tryz.ntmps60 rfl (Xay.fconv hTT rfl rfl (Xay.fconv hTT rfl rfl (Xay.fquo hTT rfl (fun _=>rfl) fun r e d c=>ζr Tryz.func60 rfl ⟨r,rfl,d,c⟩)))
section
variable {c:Conf} {n0:Nat} {w0 w:World} {F:Nat→Prop} {S:Sto} {H:Nat} {P:XbD} {s:StM} {t:TbM}
theorem Xhe (h:Hm c n0 w0 w F S H P s t):Xan Tryz.prog 12 #[hpV H] w (Xbp (.int .i64 (XsZ t:Nat)) w):=by
 exact ζe Tryz.func12 Tryz.ntmps12 rfl (ζl h.obj rfl (ζw (Xnm h.tb) rfl (ζr Tryz.func12 rfl ⟨rfl,rfl⟩)))
theorem Xhd (h:Hm c n0 w0 w F S H P s t):Xan Tryz.prog 13 #[hpV H] w (Grow (.int .i64 (Xho s.rm.pl:Nat)) w):=by
 exact ζe Tryz.func13 Tryz.ntmps13 rfl (ζl h.obj rfl (ζv (Xjx h.lv) rfl fun b a=>ζr Tryz.func13 rfl ⟨rfl,a⟩))
theorem Xha (h:Hm c n0 w0 w F S H P s t):Xan Tryz.prog 22 #[hpV H] w (fun v w' => ∃ r,v = .float .f64 r∧XnE (FloatKind.nearest .f64 (Xrt s)) (FloatKind.nearest .f64 ((Xho s.rm.pl:Nat)*c.size)) r∧Chg XaW w w'):=by
 have a:=XjT h.lv.inv.may;have e:((Xho s.rm.pl:Nat):Int)≤1024:=by
  have:=Xmw s.rm.pl.own;have:=h.lv.inv.rm.ok.own;have:=a.pages;unfold Xho;omega
 have i:0≤((Xho s.rm.pl:Nat):Int)*c.size∧((Xho s.rm.pl:Nat):Int)*c.size≤1024*4096:=⟨Int.mul_nonneg (by omega) (by have:=a.size; omega),Int.mul_le_mul e (by have:=a.size; omega) (by have:=a.size; omega) (by decide)⟩;refine ζe Tryz.func22 Tryz.ntmps22 rfl (ζd 11 XaW (by kernel_rfl) rfl fun b=>δl b h.obj rfl (δv b (fun w' d=>Xju (h.lv.grow d)) rfl (δv b (fun w' d=>Xhd (h.grow d)) rfl (δl b h.obj rfl (δn b rfl fun j f=>ζj rfl (ζc rfl (XnG _ _ j) ?_))))));rintro _ l ⟨r,rfl,k,g⟩;exact ζa rfl (ζr Tryz.func22 rfl ⟨r,rfl,k,f.trans g⟩)
end
def Xaj (n:Nat) (F:Nat→Prop) (l:List Int) (b:Value) (w:World):Prop := ∃ a cap,b = .slice a l.length cap∧Rd .u8 w a l ∧ ∀ b' off s',a=some ⟨b',off,s'⟩→(n≤b'∧b'<w.heap.size) ∧ ¬ F b'
theorem Xaj.none (n:Nat) (F:Nat→Prop) (w:World):Xaj n F [] Xk0 w:=⟨_,_,rfl,Rd.nil _ _ _,by intro b' off s' e; cases e⟩
theorem Xaj.chg {n:Nat} {F:Nat→Prop} {l:List Int} {b:Value} {w w':World} {X:Nat→Prop} (h:Xaj n F l b w) (hc:Chg X w w') (hX:∀ z,X z→(z<n∨w.heap.size≤z)∨F z):Xaj n F l b w':=by
 obtain ⟨a,cap,e,f,c⟩:=h;refine ⟨a,cap,e,fun i j => ?_,fun b' off s' e=>⟨⟨(c b' off s' e).1.1,by have:=(c b' off s' e).1.2; have:=hc.size; omega⟩,(c b' off s' e).2⟩⟩;obtain ⟨b',off,e',d⟩:=f i j;exact ⟨b',off,e',hc.cell d (fun k=>(hX _ k).elim (fun g=>by have:=(c _ _ _ e').1; omega) (c _ _ _ e').2)⟩
theorem Xaj.low {n m:Nat} {F F':Nat→Prop} {l:List Int} {b:Value} {w:World} (h:Xaj n F l b w) (hm:m≤n) (hF:∀ z,n≤z→z<w.heap.size → ¬ F z → ¬ F' z):Xaj m F' l b w:=by
 obtain ⟨a,cap,e,d,c⟩:=h;exact ⟨a,cap,e,d,fun b' off s' e=>⟨⟨Nat.le_trans hm (c b' off s' e).1.1,(c b' off s' e).1.2⟩,hF _ (c b' off s' e).1.1 (c b' off s' e).1.2 (c b' off s' e).2⟩⟩
def XbF (c:Conf) (n0:Nat) (w0 w:World) (F:Nat→Prop) (S:Sto) (H:Nat) (P:XbD) (s:StM) (t:TbM) (e g k:Int) (l:List Int) (v:Value) (w':World):Prop :=
 ∃ b F',v=XnT e g b k∧Xaj w.heap.size F' l b w'∧Hm c n0 w0 w' F' S H P s t∧(∀ z,F' z→F z∨w.heap.size≤z)∧Chg (Xhy F P) w w'
def XbJ (c:Conf) (n0:Nat) (w0 w:World) (F:Nat→Prop) (S:Sto) (H:Nat) (P:XbD) (s:StM) (t:TbM) (e g k:Int) (l:List Int) (v:Value) (w':World):Prop :=
 ∃ b F',v=XnT e g b k∧Xaj w.heap.size F' l b w'∧Hm c n0 w0 w' F' (S.relap s.rm.tot) H P s t∧(∀ z,F' z→F z∨w.heap.size≤z)∧Chg (Xhy F P) w w'
section
variable {c:Conf} {n0:Nat} {w0 w w':World} {F:Nat→Prop} {S:Sto} {H:Nat} {P:XbD} {s:StM} {t:TbM} {x:HpM}
theorem Hm.low' (h:Hm c n0 w0 w F S H P s t):∀ z,F z→z<w.heap.size:=h.lv.low
theorem Hm.since0 (h:Hm c n0 w0 w F S H P s t):n0≤w.heap.size∧w0.heap.size≤w.heap.size:=by
 have:=h.tb.lt;have:=h.low;omega
theorem Hm.steps (h:Hm c n0 w0 w F S H P s t) {w':World} (hl:Lv c n0 w0 w' F (S.relap s.rm.tot) s) (hc:Chg (fun z=>z=S.mb) w w') (hF:F S.mb):Hm c n0 w0 w' F (S.relap s.rm.tot) H P s t:=by
 obtain ⟨a,b,d⟩:=h.out;exact ⟨hl,hc.heap h.obj (fun e=>a (e▸hF)),h.tb.chg hc (fun e=>b (e▸hF)) (fun e=>d (e▸hF)),h.low,h.out⟩
theorem Lv.mb (h:Lv c n0 w0 w F S s):F S.mb:=by obtain ⟨Fr,mo,a⟩:=h.ok; exact a.mb.1
theorem Hm.ones (h:Hm c n0 w0 w F S H P s t) {X:Nat→Prop} (hX:∀ q,X q→n0≤q∧w0.heap.size≤q ∧ ¬ F q ∧ ¬ XsW P q∧H≠q) (hk:∀ q,X q → ∃ ty,kd w q=some (some ty)∧ty≠329∧ty≠325∧ty≠3) (hc:Chg X w w'):Hm c n0 w0 w' F S H P s t :=
 ⟨h.lv.ones (fun q a=>⟨(hX q a).1,(hX q a).2.1,(hX q a).2.2.1,hk q a⟩) hc,hc.heap h.obj (fun e=>(hX _ e).2.2.2.2 rfl),h.tb.chg hc (fun e=>(hX _ e).2.2.2.1 (.inl rfl)) (fun e=>(hX _ e).2.2.2.1 (.inr rfl)),h.low,h.out⟩
theorem Hm.stepsD (h:Hm c n0 w0 w F S H P s t):∀ w',Chg XaW w w'→Xan Tryz.prog 47 #[XrY S] w' (fun v w2=>Chg F w' w2∧v = .int .i64 (s.rm.tot - S.R.lap)∧Lv c n0 w0 w2 F (S.relap s.rm.tot) s∧Chg (fun z=>z=S.mb) w w2∧F S.mb):=fun w' a =>
 (XjA (h.lv.grow a)).mono fun v w2 ⟨e,f,b,d⟩=>⟨b.mono fun z _ e=>e▸d,e,f,(a.mono fun _ _ h=>h.elim).trans b,d⟩
theorem Xhn (h:Hm c n0 w0 w F S H P x.st x.tb) (hlap:S.R.lap=x.st.rm.tot) (n:Int) (hn : -9223372036854775808≤n∧n≤9223372036854775807) {k:FuncId} {cap:List Value} {st':StM} {tb':TbM} {e g z:Int} {l:List Int} (hz:0≤z∧z≤2)
 (hd:tbE x.tb n=0 → ∀ w1,Chg XaW w w1→Xan Tryz.prog k (Value.int .i64 (tbN x.tb n)::cap).toArray w1 (XbF c n0 w0 w1 F S H P st' tb' e g z l)) :
 Xan Tryz.prog 67 #[hpV H,.int .i64 n,.func (.func k) #[] cap.toArray] w
  (fun v w'=>if tbE x.tb n=0 then XbJ c n0 w0 w F S H P st' tb' e g (z+(1+(st'.rm.tot - x.st.rm.tot))) l v w' else XbJ c n0 w0 w F S H P x.st x.tb (tbE x.tb n) 0 1 [] v w'):=by
 have O:=h.low';have b7:=h.since0;refine ζe Tryz.func67 Tryz.ntmps67 rfl (ζn rfl fun b w1 e1 hb Q b8=>ζl (Q.heap' h.obj) rfl (ζv (Xnn (h.tb.grow Q) n hn) rfl fun w2 R=>ζb rfl (ζn rfl fun d w3 e3 ak a7 b9=>ζs ak rfl fun w4 t a8 a9 => ?_)));have ba:=R.size;have o:=((Q.trans R).trans a7).since a8 (fun q a e=>by omega);have u:=a8.heap (a7.heap' (R.heap' hb)) (show ¬ b=d by omega);have h4:=h.grow o;by_cases he:tbE x.tb n=0
 ·simp only [if_pos he];refine ζy rfl (ζc rfl (hd he w4 o) ?_);rintro _ w5 ⟨bv,D,rfl,am,an,aa,T⟩;refine ζa rfl ?_;obtain ⟨a5,E,rfl,ao,ap⟩:=am;have a9:=o.size;have L:∀ q,q=b∨q=d → ¬ Xhy F P q:=fun q a e=>by
   have ab:=h.tb.lt;rcases e with e | e | e
   ·have:=O q e; omega
   ·omega
   ·omega
  have U:∀ q,q=b∨q=d → ¬ D q:=fun q a e=>by
   rcases aa q e with e | e
   ·have:=O q e; omega
   ·have:=Xjs u; have:=Xjs t; omega
  have y:=U b (.inl rfl);have s:=U d (.inr rfl);have ac:=T.heap t (L d (.inr rfl));have aq:=T.heap u (L b (.inl rfl));refine ζs ac rfl fun w6 ad M bb => ?_;have ab:=h.tb.lt;have ar:∀ q,q=d→n0≤q∧w0.heap.size≤q ∧ ¬ D q ∧ ¬ XsW P q∧H≠q:=fun q a=>⟨by omega,by omega,a▸s,fun e=>by rcases e with e | e <;> omega,by have:=Xjs h.obj; omega⟩;have V:=an.ones ar (fun q a=>⟨_,a▸Xh5 ac,by decide⟩) M;have ae:=M.heap aq (show ¬ b=d by omega);have bc:=V.lv.inv.rm.ok.tot;have b2:=h.lv.inv.rm.ok.tot;have au:=V.out.1;refine ζd 8 D (by kernel_rfl) rfl fun j=>δl j ad rfl (δl j V.obj rfl (Xaq.callQ j rfl rfl (V.stepsD) ?_));rintro _ w7 av ⟨rfl,W,f,m⟩;refine Xaq.adv hTT j rfl (Xaq.arith hTT j rfl (w64 (by rw [hlap]; omega)) rfl (δn j rfl fun w8 i=>ζJ rfl (by rw [hlap]; omega) ?_));have G:¬ d=S.mb:=fun e=>s (e▸m);have A:=i.heap' (f.heap ad G);refine ζs A rfl fun w9 a1 B aw=>ζl a1 rfl ?_;have p:¬ b=S.mb:=fun e=>y (e▸m);have a2:=B.heap (i.heap' (f.heap ae p)) (show ¬ b=d by omega);refine ζs a2 rfl fun C r I ah => ?_;have a3:=(V.steps W f m).grow i;have ax:=f.size;have ay:=i.size;have hX:∀ q,q=b∨q=d→n0≤q∧w0.heap.size≤q ∧ ¬ D q ∧ ¬ XsW P q∧H≠q:=fun q a=>⟨by omega,by omega,a.elim (fun e=>e▸y) (fun e=>e▸s),fun e=>by
   rcases e with e | e <;> omega,by have:=Xjs h.obj; omega⟩
  have a4:∀ q,q=b∨q=d→kd w8 q=some (some 34):=fun q a=>a.elim (fun e=>e▸Xh5 (i.heap' (f.heap ae p))) (fun e=>e▸Xh5 A);have N:Chg (fun q=>q=b∨q=d) w8 C:=(B.mono fun q _ e => .inr e).trans (I.mono fun q _ e => .inl e);have J:=a3.ones hX (fun q a=>⟨_,a4 q a,by decide⟩) N;rw [hlap] at r;have bd:=O _ h.lv.mb;have hc:=((((((o.mono fun _ _ h=>h.elim).trans T).since M (fun q a e=>by omega)).since f (fun q a e => .inl (e▸h.lv.mb))).trans (i.mono fun _ _ h=>h.elim))).since N (fun q a e=>by omega);have b5:=Xjs u;have b6:=Xjs t;have az:Xaj w4.heap.size D l (.slice a5 l.length E) w5:=⟨a5,E,rfl,ao,ap⟩;have j:Xaj w.heap.size D l (.slice a5 l.length E) C:=((((az.chg M (fun q e => .inl (.inl (by omega)))).chg f (fun q e => .inl (.inl (by omega)))).chg i (fun q e=>e.elim)).chg N (fun q e => .inl (.inl (by omega)))).low a9 (fun _ _ _ h=>h);exact ζq rfl Tryz.func67 (Xba.cell rfl rfl rfl r rfl .nil) ⟨_,D,rfl,j,J,fun q a=>(aa q a).imp id (by omega),hc⟩
 ·simp only [if_neg he];refine ζf rfl ?_;have y:¬ F b:=fun e=>by have:=O b e; omega
  have s:¬ F d:=fun e=>by have:=O d e; omega
  have K:=hlap;have au:=h4.out.1;refine ζd 8 F (by kernel_rfl) rfl fun j=>δl j t rfl (δl j h4.obj rfl (Xaq.callQ j rfl rfl (h4.stepsD) ?_));rintro _ w7 av ⟨rfl,W,f,m⟩;refine Xaq.adv hTT j rfl (Xaq.arith hTT j rfl (w64 (by rw [K]; omega)) rfl (δn j rfl fun w8 i=>ζJ rfl (by rw [K]; omega) ?_));have G:¬ d=S.mb:=fun e=>s (e▸m);have A:=i.heap' (f.heap t G);refine ζs A rfl fun w9 a1 B aw=>ζl a1 rfl ?_;have p:¬ b=S.mb:=fun e=>y (e▸m);have a2:=B.heap (i.heap' (f.heap u p)) (show ¬ b=d by omega);refine ζs a2 rfl fun C r I ah => ?_;have a3:=(h4.steps W f m).grow i;have ax:=f.size;have ay:=i.size;have hX:∀ q,q=b∨q=d→n0≤q∧w0.heap.size≤q ∧ ¬ F q ∧ ¬ XsW P q∧H≠q:=fun q a=>⟨by omega,by omega,a.elim (fun e=>e▸y) (fun e=>e▸s),fun e=>by
   have ab:=h.tb.lt;rcases e with e | e <;> omega,by have:=Xjs h.obj; omega⟩
  have a4:∀ q,q=b∨q=d→kd w8 q=some (some 34):=fun q a=>a.elim (fun e=>e▸Xh5 (i.heap' (f.heap u p))) (fun e=>e▸Xh5 A);have N:Chg (fun q=>q=b∨q=d) w8 C:=(B.mono fun q _ e => .inr e).trans (I.mono fun q _ e => .inl e);have J:=a3.ones hX (fun q a=>⟨_,a4 q a,by decide⟩) N;rw [K,Int.sub_self] at r;have hc:Chg (Xhy F P) w C:=(((o.mono fun _ _ h=>h.elim).trans (f.mono fun q _ e => .inl (e▸m))).trans (i.mono fun _ _ h=>h.elim)).since N (fun q a e=>by omega);exact ζR Tryz.func67 r rfl ⟨Xk0,F,rfl,.none _ _ _,J,fun q a => .inl a,hc⟩
end
section
variable {c:Conf} {n0:Nat} {w0 w w' w1 w2:World} {F F1:Nat→Prop} {S:Sto} {H:Nat} {P:XbD} {s:StM} {t:TbM} {x:HpM}
theorem Xaz.seq (hF1:∀ z,F1 z→F z∨w.heap.size≤z) (hc1:Chg (Xhy F P) w w1) (h2:Xaz c n0 w0 w1 F1 S H P s t w2):Xaz c n0 w0 w F S H P s t w2:=by
 obtain ⟨F',a,b,d⟩:=h2;have:=hc1.size;exact ⟨F',a,fun z f=>(b z f).elim (hF1 z) (fun e => .inr (by omega)),hc1.since d (fun q h e=>e.elim (fun e=>(hF1 q e).elim .inl (fun g=>by omega)) .inr)⟩
theorem Hm.stores {s':StM} (h:Hm c n0 w0 w F S H P s t) (hl:Lv c n0 w0 w' F S s') (hc:Chg F w w'):Hm c n0 w0 w' F S H P s' t:=⟨hl,hc.heap h.obj h.out.1,h.tb.chg hc h.out.2.1 h.out.2.2,h.low,h.out⟩
theorem Hm.boxed (h:Hm c n0 w0 w F S H P s t) {b ty:Nat} (hb:¬ F b) (hn:n0≤b∧w0.heap.size≤b) (hP:¬ XsW P b∧H≠b) (hk:kd w b=some (some ty)) (ht:ty≠329∧ty≠325∧ty≠3) (hc:Chg (fun q=>q=b) w w'):Hm c n0 w0 w' F S H P s t :=
 h.ones (X:=fun q=>q=b) (fun q e=>e▸⟨hn.1,hn.2,hb,hP.1,hP.2⟩) (fun q e=>e▸⟨ty,hk,ht⟩) hc
theorem Xhc (h:Hm c n0 w0 w F S H P s t) (slot n:Int) (hn : -9223372036854775808≤n∧n≤9223372036854775807) {a d:Nat} (ha:w.cell? ⟨a,0,none⟩=some (hpV H)) (hd:w.cell? ⟨d,0,none⟩=some (.int .i64 n)) (hFa:¬ Xhy F P a) (hFd:¬ Xhy F P d) :
 Xan Tryz.prog 68 #[.int .i64 slot,.pointer (some ⟨a,0,none⟩),.pointer (some ⟨d,0,none⟩)] w (XbF c n0 w0 w F S H P (Xrz c s slot) (XsY t n) (tbE t n) 0 2 []):=by
 have A:=h.low';have U:=h.since0;have V:=h.tb.lt;have W:=Xjs h.obj;refine ζe Tryz.func68 Tryz.ntmps68 rfl (ζn rfl fun b w1 e1 B g a0 => ?_);have l:=g.cell ha id;have C:=g.cell hd id;have v:=h.grow g;refine ζk rfl l rfl (ζl v.obj rfl ?_);refine ζc rfl (Xjw v.lv slot) ?_;rintro _ w2 ⟨rfl,D⟩;refine ζa rfl ?_;obtain ⟨F2,E,m,f⟩:=v.store D;have G:=f.cell l hFa;have I:=f.cell C hFd;have J:=f.heap B (show ¬ Xhy F P b from fun e=>by
  rcases e with e | e | e
  ·have:=A b e; omega
  ·omega
  ·omega)
 refine ζd 5 XaW (by kernel_rfl) rfl fun k=>δk k G rfl (δl k E.obj rfl (δk k I rfl (δn k rfl fun w3 i => ?_)));have K:=E.grow i;refine ζc rfl (Xnk K.tb n hn) ?_;rintro _ w4 ⟨rfl,L,j⟩;refine ζa rfl ?_;obtain ⟨x,Q,o,R⟩:=K.table L j;have a1:=f.size;have a2:=i.size;have y:∀ q,x q→F q∨w.heap.size≤q:=fun q M=>(o q M).elim (fun e=>(m q e).imp id (by omega)) (fun e => .inr (by omega));have z:=(((g.mono fun _ _ h=>h.elim).trans f).trans (i.mono fun _ _ h=>h.elim)).trans (j.mono fun _ _ e => .inr e);have p:¬ XsW P b:=fun e=>by rcases e with e | e <;> omega
 have r:=j.heap (i.heap' J) p;have N:¬ x b:=fun e=>by
  rcases o b e with e | e
  ·rcases m b e with e | e
   ·have:=A b e; omega
   ·have:=Xjs B; omega
  ·omega
 refine ζb rfl (ζs r rfl fun w5 O u a3 => ?_);have T:=Q.boxed N (by omega) ⟨p,by omega⟩ (Xh5 r) (by decide) u;exact ζR Tryz.func68 O rfl ⟨_,x,rfl,.none _ _ _,T,y,z.since u (fun q M e=>by omega)⟩
theorem Xhi (h:Hm c n0 w0 w F S H P s t) (slot i m:Int) (hi : -9223372036854775808≤i∧i≤9223372036854775807) (hm : -9223372036854775808≤m∧m≤9223372036854775807) {a d d':Nat} (ha:w.cell? ⟨a,0,none⟩=some (hpV H)) (hd:w.cell? ⟨d,0,none⟩=some (.int .i64 i)) (hd':w.cell? ⟨d',0,none⟩=some (.int .i64 m)) (hFa:¬ Xhy F P a) (hFd:¬ Xhy F P d) (hFd':¬ Xhy F P d') :
 Xan Tryz.prog 71 #[.int .i64 slot,.pointer (some ⟨a,0,none⟩),.pointer (some ⟨d,0,none⟩),.pointer (some ⟨d',0,none⟩)] w (XbF c n0 w0 w F S H P (XrH c s slot i m) t (Xun s slot i m) 0 0 (XrI c s slot i m)):=by
 have D:=h.low';have a2:=h.since0;have a3:=h.tb.lt;have a4:=Xjs h.obj;refine Xan.enter Tryz.func71 rfl Tryz.ntmps71 rfl rfl ?_;refine ζa rfl ?_;refine Xay.alloc hTT rfl ?_;intro b l e1 J g a5;refine ζa rfl ?_;have K:=g.cell ha id;have L:=g.cell hd id;have E:=g.cell hd' id;have G:=h.grow g;refine Xay.drawn (q:=12) F hTT Xj9 (by kernel_rfl) rfl ?_;intro k;have a6:¬ F a:=fun e=>hFa (.inl e);have a7:¬ F d:=fun e=>hFd (.inl e);have V:¬ F d':=fun e=>hFd' (.inl e);have a8:=h.out.1;refine Xaq.load hTT k rfl K (by first | exact fun h=>h | (intro h; omega) | assumption) rfl ?_;refine Xaq.loadb hTT k rfl G.obj (by first | exact fun h=>h | (intro h; omega) | assumption) rfl rfl ?_;refine Xaq.load hTT k rfl L (by first | exact fun h=>h | (intro h; omega) | assumption) rfl ?_;refine Xaq.load hTT k rfl E (by first | exact fun h=>h | (intro h; omega) | assumption) rfl ?_;have M:∀ w',Chg XaW l w'→Xan Tryz.prog 72 #[XrY S,.int .i64 slot,.int .i64 i,.int .i64 m] w' (fun v f=>Chg F w' f ∧ ∃ a cap,v = .tuple #[.slice a (XrI c s slot i m).length cap,.int .i64 (Xun s slot i m)]∧Rd .u8 f a (XrI c s slot i m)∧(∀ b off s',a=some ⟨b,off,s'⟩→l.heap.size≤b∧b<f.heap.size)∧Lv c n0 w0 f F S (XrH c s slot i m)∧Chg F l f):=fun w' o =>
  (Xjz (G.lv.grow o) slot i m hi hm).mono fun v f ⟨a,cap,e1,e2,e3,e4,e5⟩ =>
   ⟨e5,a,cap,e1,e2,fun b off s' e=>⟨by have:=(e3 b off s' e).1; have:=o.size; omega,(e3 b off s' e).2⟩,e4,(o.mono fun _ _ h=>h.elim).trans e5⟩
 refine Xaq.callQ k rfl rfl (M) ?_;rintro _ f a9 ⟨ra,rcap,rfl,N,y,O,z⟩;refine Xaq.adv hTT k rfl ?_;refine Xaq.nil k ?_;intro w3 j;refine ζa rfl ?_;have Q:=G.stores O z;have p:Chg (Xhy F P) l f:=z.mono fun _ _ e => .inl e;obtain ⟨n,r⟩:∃ n,n=F:=⟨_,rfl⟩;rw [← r] at Q;have A:∀ q,n q→F q∨l.heap.size≤q:=fun q x => .inl (r▸x);have R:Xaj l.heap.size n (XrI c s slot i m) (.slice ra (XrI c s slot i m).length rcap) f:=⟨ra,rcap,rfl,N,fun b' off s' e=>⟨y b' off s' e,fun e2=>by have:=(y b' off s' e).1; have:=D b' (r▸e2); omega⟩⟩;have W:=Q.grow j;have aa:=p.size;have ab:=j.size;have ac:=Xjs J;have B:¬ XsW P b:=fun e=>by rcases e with e | e <;> omega
 have C:=j.heap' (p.heap J (show ¬ Xhy F P b from fun e=>by
  rcases e with e | e
  ·have:=D b e; omega
  ·exact B e))
 have T:¬ n b:=fun e=>by
  rcases A b e with e | e
  ·have:=D b e; omega
  ·omega
 refine Xay.build hTT rfl rfl ?_;refine Xay.store hTT rfl C rfl rfl ?_;intro w5 U u ad;refine ζa rfl ?_;have h5:=W.boxed T (by omega) ⟨B,by omega⟩ (Xh5 C) (by decide) u;have I:Chg (Xhy F P) w w5:=(((g.mono fun _ _ h=>h.elim).trans p).trans (j.mono fun _ _ h=>h.elim)).since u (fun q x e=>by omega);exact ζq rfl Tryz.func71 (Xba.cell rfl rfl rfl U rfl .nil) ⟨_,n,rfl,((R.chg j (fun q e=>e.elim)).chg u (fun q e => .inl (.inl (by omega)))).low (by omega) (fun _ _ _ h=>h),h5,fun q x=>(A q x).imp id (by omega),I⟩
theorem Xhk (h:Hm c n0 w0 w F S H P s t) (slot i:Int) (ba:Option Addr) (bc:Nat) (l:List Int) (hi : -9223372036854775808≤i∧i≤9223372036854775807) (hr:Rd .u8 w ba l) (hlc:l.length≤bc) (hl:l.length≤9223372036854775807) (hin:InB l) (hout:0<l.length→XaX F ba)
 {a d d':Nat} (ha:w.cell? ⟨a,0,none⟩=some (hpV H)) (hd:w.cell? ⟨d,0,none⟩=some (.int .i64 i)) (hd':w.cell? ⟨d',0,none⟩=some (.slice ba l.length bc)) :
 Xan Tryz.prog 76 #[.int .i64 slot,.pointer (some ⟨a,0,none⟩),.pointer (some ⟨d,0,none⟩),.pointer (some ⟨d',0,none⟩)] w (XbF c n0 w0 w F S H P (XrP c s slot i l) t (Xun s slot i l.length) 0 0 []):=by
 have E:=h.low';have U:=h.since0;have V:=h.tb.lt;have W:=Xjs h.obj;refine Xan.enter Tryz.func76 rfl Tryz.ntmps76 rfl rfl ?_;refine ζa rfl ?_;refine Xay.alloc hTT rfl ?_;intro b G e1 I g a0;refine ζa rfl ?_;have J:=g.cell ha id;have K:=g.cell hd id;have v:=g.cell hd' id;have x:=h.grow g;refine Xay.drawn (q:=7) XaW hTT Xj9 (by kernel_rfl) rfl ?_;intro k;refine Xaq.load hTT k rfl J (by first | exact fun h=>h | (intro h; omega) | assumption) rfl ?_;refine Xaq.loadb hTT k rfl x.obj (by first | exact fun h=>h | (intro h; omega) | assumption) rfl rfl ?_;refine Xaq.load hTT k rfl K (by first | exact fun h=>h | (intro h; omega) | assumption) rfl ?_;refine Xaq.load hTT k rfl v (by first | exact fun h=>h | (intro h; omega) | assumption) rfl ?_;refine Xaq.nil k ?_;intro wd j;refine ζa rfl ?_;refine ζc rfl (XjB (x.lv.grow j) slot i ba bc l hi ((hr.chg g).chg j) hlc hl hin hout) ?_;rintro _ y ⟨rfl,L⟩;refine ζa rfl ?_;obtain ⟨z,O,A,B⟩:=(x.grow j).store L;have a1:=j.size;have o:∀ q,z q→F q∨G.heap.size≤q:=fun q n=>(A q n).imp id (by omega);have m:Chg (Xhy F P) G y:=(j.mono fun _ _ h=>h.elim).trans B;obtain ⟨C,f⟩:∃ C,C=y:=⟨_,rfl⟩;rw [← f];replace f:Chg XaW y C:=f▸Chg.refl _ _;have Q:=O.grow f;have a2:=m.size;have a3:=f.size;have a4:=Xjs I;have p:¬ XsW P b:=fun e=>by rcases e with e | e <;> omega
 have r:=f.heap' (m.heap I (show ¬ Xhy F P b from fun e=>by
  rcases e with e | e
  ·have:=E b e; omega
  ·exact p e))
 have M:¬ z b:=fun e=>by
  rcases o b e with e | e
  ·have:=E b e; omega
  ·omega
 refine Xay.build hTT rfl rfl ?_;refine Xay.store hTT rfl r rfl rfl ?_;intro R N u a5;refine ζa rfl ?_;have T:=Q.boxed M (by omega) ⟨p,by omega⟩ (Xh5 r) (by decide) u;have D:Chg (Xhy F P) w R:=(((g.mono fun _ _ h=>h.elim).trans m).trans (f.mono fun _ _ h=>h.elim)).since u (fun q n e=>by omega);exact ζq rfl Tryz.func76 (Xba.cell rfl rfl rfl N rfl .nil) ⟨_,z,rfl,.none _ _ _,T,fun q n=>(o q n).imp id (by omega),D⟩
end
end Go.Proofs.YtgddpaiandefgaaGreatDoor
