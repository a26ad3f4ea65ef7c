/-
  Texts put together: Sto0, Sto1, Plain21, Plain21b, Plain21c, Sto2, Sto3, Sto4, Sto5, Sto6, Sto7, Sto8, StBy, Sto9, Sto10, Sto11, Sto12, Sto13, Sto14, Sto15, Ref20j, Sr0, Sr1, Sr2, Sr3, Sr4, Sr5, Sr6, Sr7, Sr8, Sr9, Sr10, Sr11, Sr12, Sr13, Sr14, Xaa, Sr15, Laws22, Tb.
-/
import Derived.Test.YtgddpaiandefgaaGreatDoorPt3
import Derived.Test.YtgddpaiandefgaaGreatDoorQRule18
import Derived.Test.YtgddpaiandefgaaGreatDoorQRule22
import Derived.Test.YtgddpaiandefgaaGreatDoorQRule23
import Derived.Test.YtgddpaiandefgaaGreatDoorQRule21
set_option linter.unusedVariables false
set_option maxRecDepth 100000
namespace Go.Proofs.YtgddpaiandefgaaGreatDoor
open Go.RowKit
structure Sto where
 sb:Nat
 c:Conf
 p:Xal
 kb:Nat
 kc:Nat
 kr:List Value
 mb:Nat
 A:Ar
 R:Rm
 v:Vw
 tm:Nat
 vb:Nat
 vc:Nat
abbrev XtA (S:Sto):Value := .pointer (some ⟨S.sb,0,none⟩)
def Xtz (S:Sto) (nk nm:Nat) (by':Int):List Value:=Xfl S.c S.p ++ [.slice (some ⟨S.kb,0,none⟩) nk S.kc,.pointer (some ⟨S.mb,0,none⟩),.pointer (some ⟨S.A.ab,0,none⟩),rmV S.R,vwV S.v,.map (some S.tm),.slice (some ⟨S.vb,0,none⟩) nm S.vc,.int .i64 by']
def thL (size:Int) (q:Plc):List Value := .int .i64 size::Xoc q
abbrev Mo:=List (Option (Nat × MvM))
def Xlv:Option (Nat × MvM)→List Value
 |none => [.pointer none,.int .i64 0,.int .i64 0,.int .i64 0,.int .i64 0,.int .i64 0]
 |some (b,m) => [.pointer (some ⟨b,0,none⟩),.int .i64 m.who,.int .i64 m.pf,.int .i64 m.fa,.int .i64 m.pt,.int .i64 m.ta]
theorem Xlw (x:Option (Nat × MvM)):(Xlv x).length=6:=by cases x <;> rfl
def Xk5 (mo:Mo):List (Option MvM):=mo.map fun x=>x.map (·.2)
abbrev arV (S:Sto) (s:StM):ArV:=⟨s.bs,s.rm.tot,S.R.lap⟩
abbrev Xlg (b:Nat) (m:MvM):Mv:=⟨b,m.f,m.t,m.size⟩
def XaD (w:World) (a:Option Addr):Prop := ∀ b off s,a=some ⟨b,off,s⟩→kd w b=some (some 3)
theorem XaD.lt {w:World} {a:Option Addr} (h:XaD w a):ALt w a:=fun b off s e=>XiR (h b off s e)
theorem XaD.chg {S:Nat→Prop} {w w':World} {a:Option Addr} (h:XaD w a) (hc:Chg S w w') (hS:Xa0 S a):XaD w' a:=fun b off s e=>XiP hc (h b off s e) (hS b off s e)
theorem XaD.grow {w w':World} {a:Option Addr} (h:XaD w a) (hc:Chg XaX w w'):XaD w' a:=h.chg hc (fun _ _ _ _ h=>h)
def XbL (F:Nat→Prop) (w:World) (tm:Nat) (th:List (Option ThM)) (al:AL):Prop:=XaL w tm al∧(Xb9 al).Nodup ∧
 (∀ (o:Nat) t,th[o]? = some (some t) → ∃ q:Plc,Xoe q=t.q∧Xcj al o=some (.agg (thL t.size q).toArray)∧Xa8 w q∧Xa0 F q.pa∧XaD w q.pa) ∧ ∀ k:Int,(∀ (o:Nat) t,th[o]? = some (some t)→(o:Int)≠k)→Xcj al k=none
def XbK (F:Nat→Prop) (w:World) (tm:Nat) (th:List (Option ThM)):Prop := ∃ al,XbL F w tm th al
theorem XbK.far {F S:Nat→Prop} {w w':World} {tm:Nat} {th:List (Option ThM)} (h:XbK F w tm th) (hc:Chg S w w') (hS:∀ z,S z→F z) (hm:¬ S tm):XbK F w' tm th:=by
 obtain ⟨al,a,b,d,e⟩:=h;exact ⟨al,a.chg hc hm,b,fun o t ht=>by
  obtain ⟨q,g,i,f,c,j⟩:=d o t ht;exact ⟨q,g,i,⟨f.rd.far (c.mono hS) hc,f.len⟩,c,j.chg hc (c.mono hS)⟩,e⟩
theorem XbK.wide {F F':Nat→Prop} {w:World} {tm:Nat} {th:List (Option ThM)} (h:XbK F w tm th) (hF:∀ z,F' z→F z∨w.heap.size≤z):XbK F' w tm th:=by
 obtain ⟨al,a,b,d,e⟩:=h;exact ⟨al,a,b,fun o t ht=>by
  obtain ⟨q,f,g,i,j,c⟩:=d o t ht;exact ⟨q,f,g,i,fun b off s e k=>(hF b k).elim (j b off s e) (fun h=>by have:=XiR (c b off s e); omega),c⟩,e⟩
structure XbC (F Fr:Nat→Prop) (w:World) (S:Sto) (s:StM) (by':Int) (mo:Mo):Prop where
 obj:w.heap[S.sb]? = some (.cells (Xtz S s.keep.length s.mv.length by').toArray 135 (0,0))
 kee:w.heap[S.kb]? = some (.cells (s.keep.map (Value.int .i64)++S.kr).toArray 3 (0,0))
 kcap:s.keep.length≤S.kc
 room:Xbh Fr w S.R s.rm
 ar:Xag w S.A (arV S s)
 vw:XbS w S.v
 th:XbK F w S.tm s.th
 mvs:w.heap[S.vb]? = some (.cells (fl Xlv mo).toArray 190 (0,0))
 mvc:s.mv.length≤S.vc
 mom:Xk5 mo=s.mv
 mob:∀ (k b:Nat) m,mo[k]? = some (some (b,m))→w.heap[b]? = some (.cells (Xlh S.A (Xlg b m) m.gone).toArray 258 (0,0))∧F b ∧ ¬ Fr b
 mdj:∀ (j k b:Nat) m m',mo[j]? = some (some (b,m))→mo[k]? = some (some (b,m'))→j=k
 rc:S.R.c=S.c
 rp:S.R.p=S.p
 rmo:S.R.mo=some S.mb
 rX:S.R.X=fun z=>z=S.kb
 amb:S.A.mb=some S.mb
 vc:S.v.c=S.c
 vp:S.v.p=S.p
 vab:S.v.ab=S.A.ab
 vmb:S.v.mb=some S.mb
 f1:∀ z,Fr z→F z
 f2:F S.sb∧F S.kb∧F S.A.db∧F S.tm∧F S.vb
 nr:¬ Fr S.sb ∧ ¬ Fr S.kb ∧ ¬ Fr S.A.db ∧ ¬ Fr S.tm ∧ ¬ Fr S.vb
 nF:¬ F S.A.ab ∧ ¬ F S.A.mc ∧ ¬ F S.v.vb ∧ ¬ F S.R.rb ∧ ¬ F S.R.sb ∧ ¬ F 1
 ca:Far F w S.p.ca S.c.classes
 ka:Far F w S.p.ka S.c.keep
 low:∀ z,F z→z<w.heap.size
section
variable {F Fr:Nat→Prop} {w w':World} {S:Sto} {s:StM} {by':Int} {mo:Mo}
theorem XbC.lt (h:XbC F Fr w S s by' mo):S.sb<w.heap.size∧S.kb<w.heap.size∧S.A.db<w.heap.size∧S.tm<w.heap.size∧S.vb<w.heap.size :=
 ⟨h.low _ h.f2.1,h.low _ h.f2.2.1,h.low _ h.f2.2.2.1,h.low _ h.f2.2.2.2.1,h.low _ h.f2.2.2.2.2⟩
theorem XbK.kd (h:XbK F w S.tm s.th):kd w S.tm=some none:=by
 obtain ⟨al,a,_⟩:=h;exact XiS a
theorem XbC.mb (h:XbC F Fr w S s by' mo):F S.mb∧Fr S.mb∧XaO w S.mb s.rm.tot S.R.lap:=by
 obtain ⟨a,b⟩:=h.room.met _ h.rmo;exact ⟨h.f1 _ a,a,b⟩
theorem XbC.ext (h:XbC F Fr w S s by' mo) {z:Nat} {x:Option Nat} (hF:F z) (hn:¬ Fr z) (hk:kd w z=some x) (hx:∀ t,x=some t→t≠329∧t≠325∧t≠206∧(t=3→z=S.kb)):Ext Fr w S.R z:=by
 obtain ⟨j,k,m,c,d,f⟩:=h.nF;have hm:=XkN h.room.may;have far:∀ {a:Option Addr} {l:List Int},Far F w a l→0<l.length → ∀ off s,a≠some ⟨z,off,s⟩:=fun g i off s e=>g.2 i z off s e hF;have b:=h.rc;refine ⟨hn,fun e=>c (e▸hF),fun e=>d (e▸hF),fun e=>f (e▸hF),?_,?_,fun e => ?_,fun e => ?_,fun e => ?_⟩
 ·rw [h.rp]; exact far h.ca (by rw [b] at hm; have:=hm.n; omega)
 ·rw [h.rp]; exact far h.ka (by rw [b] at hm; have:=hm.keep; have:=hm.n; omega)
 ·rw [hk] at e; exact (hx _ (Option.some.inj e)).1 rfl
 ·rw [hk] at e; exact (hx _ (Option.some.inj e)).2.1 rfl
 ·rw [hk] at e;rw [h.rX];exact (hx _ (Option.some.inj e)).2.2.2 rfl
theorem XbC.ext' (h:XbC F Fr w S s by' mo) {z t:Nat} (hF:F z) (hn:¬ Fr z) (hk:kd w z=some (some t)) (ht:t≠329∧t≠325∧t≠206∧t≠3):Ext Fr w S.R z :=
 h.ext hF hn hk (fun t' e=>by cases e; exact ⟨ht.1,ht.2.1,ht.2.2.1,fun e=>absurd e ht.2.2.2⟩)
theorem XbC.extMap (h:XbC F Fr w S s by' mo):Ext Fr w S.R S.tm:=h.ext h.f2.2.2.2.1 h.nr.2.2.2.1 h.th.kd (fun t e=>by cases e)
theorem XbC.extKeep (h:XbC F Fr w S s by' mo):Ext Fr w S.R S.kb:=h.ext h.f2.2.1 h.nr.2.1 (XiO h.kee) (fun t e=>by cases e; exact ⟨by decide,by decide,by decide,fun _=>rfl⟩)
theorem XbC.grow (h:XbC F Fr w S s by' mo) (hc:Chg XaX w w'):XbC F Fr w' S s by' mo :=
 {h with
  obj:=hc.heap' h.obj,kee:=hc.heap' h.kee,room:=h.room.grow hc,ar:=h.ar.grow hc,vw:=h.vw.grow hc,th:=h.th.far hc (fun _ h=>h.elim) id,mvs:=hc.heap' h.mvs,
  mob:=fun k b m hm=>by obtain ⟨a,d⟩:=h.mob k b m hm; exact ⟨hc.heap' a,d⟩,
  ca:=h.ca.chg hc (fun _ h=>h.elim),ka:=h.ka.chg hc (fun _ h=>h.elim),low:=fun z c=>by have:=h.low z c; have:=hc.size; omega}
structure Xas (F:Nat→Prop) (w:World) (S:Sto) (z:Nat):Prop where
 f:¬ F z
 e1:S.A.ab≠z∧S.A.mc≠z∧S.v.vb≠z∧S.R.rb≠z∧S.R.sb≠z∧1≠z
 ca:∀ off s,S.p.ca≠some ⟨z,off,s⟩
 ka:∀ off s,S.p.ka≠some ⟨z,off,s⟩
 kd:∃ t,kd w z=some (some t)∧t≠329∧t≠325∧t≠3
def XbM (S:Nat→Prop) (w:World) (tm:Nat):Prop := ∀ al,XaL w tm al → ∀ (k:Int) sz (q:Plc),Xcj al k=some (.agg (thL sz q).toArray)→Xa0 S q.pa
theorem XbC.other {T:Nat→Prop} (h:XbC F Fr w S s by' mo) (hc:Chg T w w') (hT:∀ z,T z→Xas F w S z) (ho:XbM T w S.tm):XbC F Fr w' S s by' mo:=by
 have nf:∀ {z:Nat},F z → ¬ T z:=fun hf ht=>(hT _ ht).f hf;have i:∀ z,T z→Ext Fr w S.R z:=fun z c=>by
  have e:=hT z c;obtain ⟨t,r,u,v,x⟩:=e.kd;have d:∀ {t':Nat},t≠t'→Go.Proofs.YtgddpaiandefgaaGreatDoor.kd w z≠some (some t'):=fun h e=>h (Option.some.inj (Option.some.inj (r.symm.trans e)));exact ⟨fun hf=>e.f (h.f1 z hf),e.e1.2.2.2.1,e.e1.2.2.2.2.1,e.e1.2.2.2.2.2,by rw [h.rp]; exact e.ca,by rw [h.rp]; exact e.ka,d u,d v,fun e=>absurd e (d x)⟩
 have far:∀ {a:Option Addr} {l:List Int},Far F w a l→(∀ z,T z → ∀ off s,a≠some ⟨z,off,s⟩)→Far F w' a l:=fun g y=>⟨g.1.far (fun b off s e c=>y b c off s e) hc,g.2⟩;have n:XbS w' S.v:=⟨hc.heap h.vw.obj (fun c=>(hT _ c).e1.2.2.1 rfl),by
  have:=h.vw.conf;rw [h.vc,h.vp] at this ⊢;exact ⟨this.classes.far (fun b off s e c=>(hT b c).ca off s e) hc,this.keep.far (fun b off s e c=>(hT b c).ka off s e) hc,this.lc,this.lk,this.size⟩,h.vw.may⟩
 refine {h with
  obj:=hc.heap h.obj (nf h.f2.1),kee:=hc.heap h.kee (nf h.f2.2.1),room:=h.room.other hc i,
  ar:=h.ar.chg hc (fun b hb c => ?_),vw:=n,th := ?_,mvs:=hc.heap h.mvs (nf h.f2.2.2.2.2),
  mob:=fun k b m hm=>by obtain ⟨a,d⟩:=h.mob k b m hm; exact ⟨hc.heap a (nf d.1),d⟩,
  ca:=far h.ca (fun z c=>(hT z c).ca),ka:=far h.ka (fun z c=>(hT z c).ka),low:=fun z c=>by have:=h.low z c; have:=hc.size; omega}
 ·rcases hb with rfl | rfl | rfl | hb
  ·exact (hT _ c).e1.1 rfl
  ·exact nf h.f2.2.2.1 c
  ·exact (hT _ c).e1.2.1 rfl
  ·rw [h.amb] at hb; cases hb; exact nf h.mb.1 c
 ·have f:=ho;obtain ⟨al,a,b,d,e⟩:=h.th;exact ⟨al,a.chg hc (nf h.f2.2.2.2.1),b,fun o t ht=>by
   obtain ⟨q,A,j,p,B,C⟩:=d o t ht;exact ⟨q,A,j,⟨p.rd.far (f al a _ _ _ j) hc,p.len⟩,B,C.chg hc (f al a _ _ _ j)⟩,e⟩
theorem XbC.own {T:Nat→Prop} (h:XbC F Fr w S s by' mo) (hc:Chg T w w') (hT:∀ z,T z→F z∧Ext Fr w S.R z) :
 Xbh Fr w' S.R s.rm∧XbS w' S.v∧(¬ T S.tm→XbK F w' S.tm s.th)∧(¬ T S.A.db→Xag w' S.A (arV S s))∧Far F w' S.p.ca S.c.classes∧Far F w' S.p.ka S.c.keep∧(∀ z,F z→z<w'.heap.size)∧XaO w' S.mb s.rm.tot S.R.lap:=by
 obtain ⟨d,e,f,j,k,l⟩:=h.nF;have c:¬ T S.mb:=fun a=>(hT _ a).2.f h.mb.2.1;refine ⟨h.room.other hc (fun z a=>(hT z a).2),⟨hc.heap h.vw.obj (fun a=>f (hT _ a).1),?_,h.vw.may⟩,fun hm=>h.th.far hc (fun z a=>(hT z a).1) hm,fun g=>h.ar.chg hc (fun b hb a => ?_),h.ca.chg hc (fun z a=>(hT z a).1),h.ka.chg hc (fun z a=>(hT z a).1),fun z a=>by have:=h.low z a; have:=hc.size; omega,h.mb.2.2.1 |> fun i=>⟨hc.heap i c,h.mb.2.2.2⟩⟩
 ·have:=h.vw.conf;rw [h.vc,h.vp] at this ⊢;exact ⟨(h.ca.chg hc (fun z a=>(hT z a).1)).1,(h.ka.chg hc (fun z a=>(hT z a).1)).1,this.lc,this.lk,this.size⟩
 ·rcases hb with rfl | rfl | rfl | hb
  ·exact d (hT _ a).1
  ·exact g a
  ·exact e (hT _ a).1
  ·rw [h.amb] at hb; cases hb; exact c a
end
theorem Xbh.charge2 {F T:Nat→Prop} {w w':World} {R:Rm} {M:RmM} (h:Xbh F w R M) {b:Nat} (hb:R.mo=some b) {t:Int} (hm:XaO w' b t R.lap) (hc:Chg T w w') (hT:∀ z,T z→z=b∨Ext F w R z):Xbh F w' R {M with tot:=t}:=by
 obtain ⟨f,o⟩:=h.met b hb;have kb:=XiT o;have kp:=h.pool.kds;have y:=hc.size;have no:∀ {z:Nat} {x:Option Nat},kd w z=some x→x≠some 197 → ¬ Ext F w R z → ¬ T z:=fun i j r hz=>by
  rcases hT _ hz with e | e
  ·subst e; rw [kb] at i; exact j (Option.some.inj i).symm
  ·exact r e
 have mf:∀ {z:Nat} {x:Option Nat},kd w z=some x→x≠some 197→F z → ¬ T z:=fun i j hf=>no i j (fun e=>e.f hf);have out:∀ {a:Option Addr} {l:List Int},Far F w a l→(∀ z,Ext F w R z → ∀ off s,a≠some ⟨z,off,s⟩)→Far F w' a l:=fun {a l} g u=>by
  refine ⟨?_,g.2⟩;by_cases v:0<l.length
  ·exact g.1.far (fun b' off s e hz=>by
    rcases hT _ hz with e' | e'
    ·subst e'; exact g.2 v b' off s e f
    ·exact u b' e' off s e) hc
  ·have:l = []:=List.eq_nil_of_length_eq_zero (by omega);subst this;exact Rd.nil _ _ _
 have rbn:¬ T R.rb:=fun hz=>(hT _ hz).elim (fun e=>h.rf (e▸f)) (fun e=>e.rb rfl);have sbn:¬ T R.sb:=fun hz=>(hT _ hz).elim (fun e=>h.sf (e▸f)) (fun e=>e.sb rfl);have tbn:¬ T 1:=fun hz=>(hT _ hz).elim (fun e=>h.tf (e▸f)) (fun e=>e.tb rfl);have pb:=mf kp.1 (by decide) (h.pf _ (.inl rfl));have ab:=mf kp.2 (by decide) (h.pf _ (.inr rfl));refine ⟨{h.ok with tot:=by have:=hm.2; show 0≤t∧t≤4611686018427387904; omega},hc.heap h.obj rbn,out h.cls (fun z e=>e.ca),out h.kee (fun z e=>e.ka),h.may,fun b' m => ?_,fun k i=>hc.cell (h.sl k i) sbn,h.pool.chg hc pb ab,h.pf,?_,h.lg.chg hc (fun z hz e=>(hT z e).elim (fun e => .inl (e▸f)) (fun e => .inr (e.int hz))) (mf (XiQ h.lg) (by simp) h.lf),h.lf,h.rf,h.sf,fun z hz=>by have:=h.low z hz; omega,h.tab.chg hc tbn,h.tf,fun z hz=>⟨by have:=(h.xl z hz).1; omega,(h.xl z hz).2⟩⟩
 ·rw [hb] at m; cases m; exact ⟨f,hm⟩
 ·obtain ⟨G,a,d⟩:=h.sh;refine ⟨G,fun k x j => ?_,d⟩;obtain ⟨n,c,p⟩:=a k x j;have k:=c.at'.kds;have ap:=c.at'.apart kb (by decide);have nf:∀ z,Ext F w R z → ¬ Xrb (R.S _) (G _) x.pg z:=fun z hz hf=>hz.f (p z hf).1;refine ⟨n,⟨c.ok,c.pos,c.of,c.at'.chg hc (fun z hz => ?_) (fun z hz => ?_) tbn,c.pool.chg hc (by rw [n]; exact pb) (by rw [n]; exact ab)⟩,p⟩
  ·rcases hT z hz with e | hz
   ·subst e; exact ap.1
   ·exact ⟨fun e=>nf z hz (.inl e),fun e=>nf z hz (.inr (.inl e)),fun e=>hz.lb (e▸k.lb),fun e=>nf z hz (.inr (.inr (.inl e)))⟩
  ·rcases hT z hz with e | hz
   ·subst e; exact ap.2
   ·exact fun e q=>⟨fun e'=>hz.pg (e'▸(c.at'.pages e q).kds.p),fun e'=>nf z hz (.inr (.inr (.inr ⟨e,q,e'⟩)))⟩
section
variable {F Fr:Nat→Prop} {w w':World} {S:Sto} {s:StM} {by':Int} {mo:Mo}
theorem XbL.put {tm:Nat} {th:List (Option ThM)} {al:AL} (h:XbL F w tm th al) {o:Nat} {size:Int} {q:Plc} {qm:PlcM} (hq:Xoe q=qm) (ho:o<th.length) (hm:XaL w' tm (XcC al (o:Nat) (.agg (thL size q).toArray))) (hc:Chg (fun z=>z=tm) w w') (ht:F tm) (hp:Xa8 w q) (hF:Xa0 F q.pa) (hl:XaD w q.pa):XbK F w' tm (th.set o (some ⟨size,qm⟩)):=by
 obtain ⟨x,l,m,n⟩:=h;have up:∀ {q:Plc},Xa8 w q→Xa0 F q.pa→Xa8 w' q:=fun a b=>⟨a.rd.far (b.mono (S':=fun z=>z=tm) fun z e=>e▸ht) hc,a.len⟩;refine ⟨_,hm,XlX l _ _,fun d g c => ?_,fun k j => ?_⟩
 ·rcases Xvj c with ⟨rfl,rfl⟩ | ⟨v,c⟩
  ·exact ⟨q,hq,by rw [Xco,if_pos rfl],up hp hF,hF,hl.chg hc (hF.mono (S':=fun z=>z=tm) fun z e=>e▸ht)⟩
  ·obtain ⟨p,r,s,t,i,u⟩:=m d g c;exact ⟨p,r,by rw [Xco,if_neg (by omega)]; exact s,up t i,i,u.chg hc (i.mono (S':=fun z=>z=tm) fun z e=>e▸ht)⟩
 ·have f:=j o _ (List.getElem?_set_self ho);rw [Xco,if_neg (fun e=>f e.symm)];refine n k fun d g c => ?_;by_cases e:d=o
  ·subst e; exact f
  ·exact j d g (Xu7 e c)
theorem XbL.del {tm:Nat} {th:List (Option ThM)} {al:AL} (h:XbL F w tm th al) {o:Nat} (hm:XaL w' tm (XbZ al (o:Nat))) (hc:Chg (fun z=>z=tm) w w') (ht:F tm):XbK F w' tm (th.set o none):=by
 obtain ⟨s,c,i,j⟩:=h;refine ⟨_,hm,XlV c _,fun b d a => ?_,fun k l => ?_⟩
 ·rcases Xq8 a with ⟨_,e,_⟩ | ⟨r,a⟩
  ·cases e
  ·obtain ⟨m,n,p,g,f,q⟩:=i b d a;exact ⟨m,n,by rw [Xcl c,if_neg (by omega)]; exact p,⟨g.rd.far (f.mono (S':=fun z=>z=tm) fun z e=>e▸ht) hc,g.len⟩,f,q.chg hc (f.mono (S':=fun z=>z=tm) fun z e=>e▸ht)⟩
 ·rw [Xcl c];by_cases e:k=(o:Nat)
  ·rw [if_pos e]
  ·rw [if_neg e];refine j k fun b d a => ?_;by_cases e1:b=o
   ·subst e1; exact fun h=>e h.symm
   ·exact l b d (Xu7 e1 a)
theorem XbC.kds (h:XbC F Fr w S s by' mo):kd w S.sb=some (some 135)∧kd w S.kb=some (some 3)∧kd w S.A.db=some (some 5)∧kd w S.tm=some none∧kd w S.vb=some (some 190)∧kd w S.mb=some (some 197) :=
 ⟨XiO h.obj,XiO h.kee,XiO h.ar.dat,h.th.kd,XiO h.mvs,XiO h.mb.2.2.1⟩
theorem XbC.objAt {T:Nat→Prop} (h:XbC F Fr w S s by' mo) (hc:Chg T w w') (hT:∀ (k b:Nat) m,mo[k]? = some (some (b,m)) → ¬ T b):∀ (k b:Nat) m,mo[k]? = some (some (b,m))→w'.heap[b]? = some (.cells (Xlh S.A (Xlg b m) m.gone).toArray 258 (0,0))∧F b ∧ ¬ Fr b:=fun k b m hm=>by
 obtain ⟨x,y⟩:=h.mob k b m hm;exact ⟨hc.heap x (hT k b m hm),y⟩
theorem XbC.kdm (h:XbC F Fr w S s by' mo) {k b:Nat} {m:MvM} (hm:mo[k]? = some (some (b,m))):kd w b=some (some 258):=XiO (h.mob k b m hm).1
theorem XbC.setBy (h:XbC F Fr w S s by' mo) {by2:Int} (hc:Chg (fun z=>z=S.sb) w w') (ho:w'.heap[S.sb]? = some (.cells (Xtz S s.keep.length s.mv.length by2).toArray 135 (0,0))):XbC F Fr w' S s by2 mo:=by
 obtain ⟨a,c,d,f,g,r⟩:=h.kds;obtain ⟨i,j,l,n,o,p,q,_⟩:=h.own hc (fun z e=>⟨e▸h.f2.1,e▸h.ext' h.f2.1 h.nr.1 a (by decide)⟩);exact {h with obj:=ho,kee:=hc.heap h.kee (XiU c a (by decide)),room:=i,ar:=n (XiU d a (by decide)),vw:=j,th:=l (XiU f a (by simp)),mvs:=hc.heap h.mvs (XiU g a (by decide)),mob:=h.objAt hc (fun k b m hm=>XiU (h.kdm hm) a (by decide)),ca:=o,ka:=p,low:=q}
theorem XbC.setKeep (h:XbC F Fr w S s by' mo) {l:List Int} (hl:l.length=s.keep.length) (hc:Chg (fun z=>z=S.kb) w w') (ho:w'.heap[S.kb]? = some (.cells (l.map (Value.int .i64)++S.kr).toArray 3 (0,0))):XbC F Fr w' S {s with keep:=l} by' mo:=by
 obtain ⟨c,a,d,f,g,t⟩:=h.kds;obtain ⟨i,j,n,o,p,q,r,_⟩:=h.own hc (fun z e=>⟨e▸h.f2.2.1,e▸h.extKeep⟩);exact {h with obj:=by show w'.heap[S.sb]? = some (.cells (Xtz S l.length s.mv.length by').toArray _ _); rw [hl]; exact hc.heap h.obj (XiU c a (by decide)),kee:=ho,kcap:=by show l.length≤_; rw [hl]; exact h.kcap,room:=i,ar:=o (XiU d a (by decide)),vw:=j,th:=n (XiU f a (by simp)),mvs:=hc.heap h.mvs (XiU g a (by decide)),mob:=h.objAt hc (fun k b m hm=>XiU (h.kdm hm) a (by decide)),ca:=p,ka:=q,low:=r}
theorem XbC.setTh (h:XbC F Fr w S s by' mo) {th':List (Option ThM)} (hc:Chg (fun z=>z=S.tm) w w') (ht:XbK F w' S.tm th'):XbC F Fr w' S {s with th:=th'} by' mo:=by
 obtain ⟨c,d,f,a,g,q⟩:=h.kds;obtain ⟨i,j,r,l,n,o,p,_⟩:=h.own hc (fun z e=>⟨e▸h.f2.2.2.2.1,e▸h.extMap⟩);exact {h with obj:=hc.heap h.obj (XiU c a (by simp)),kee:=hc.heap h.kee (XiU d a (by simp)),room:=i,ar:=l (XiU f a (by simp)),vw:=j,th:=ht,mvs:=hc.heap h.mvs (XiU g a (by simp)),mob:=h.objAt hc (fun k b m hm=>XiU (h.kdm hm) a (by simp)),ca:=n,ka:=o,low:=p}
theorem Xk6 (mo:Mo) (k:Nat) (x:Option (Nat × MvM)):Xk5 (mo.set k x)=(Xk5 mo).set k (x.map (·.2)):=by unfold Xk5; rw [List.map_set]
theorem Xk7 {mo:Mo} {k j b:Nat} {m:MvM} {x:Option (Nat × MvM)} (h:(mo.set k x)[j]? = some (some (b,m))):(j=k∧x=some (b,m)∧k<mo.length)∨(j≠k∧mo[j]? = some (some (b,m))):=Xq8 h
theorem XbC.mol (h:XbC F Fr w S s by' mo):mo.length=s.mv.length:=by rw [← h.mom]; unfold Xk5; rw [List.length_map]
theorem XbC.setMv (h:XbC F Fr w S s by' mo) {k:Nat} {x:Option (Nat × MvM)} (hc:Chg (fun z=>z=S.vb) w w') (ho:w'.heap[S.vb]? = some (.cells (fl Xlv (mo.set k x)).toArray 190 (0,0)))
 (hx:∀ b m,x=some (b,m)→w.heap[b]? = some (.cells (Xlh S.A (Xlg b m) m.gone).toArray 258 (0,0))∧F b ∧ ¬ Fr b ∧ ∀ (j:Nat) m',mo[j]?≠some (some (b,m'))) :
 XbC F Fr w' S {s with mv:=s.mv.set k (x.map (·.2))} by' (mo.set k x):=by
 obtain ⟨l,n,o,p,a,D⟩:=h.kds;obtain ⟨q,r,t,u,v,y,A,_⟩:=h.own hc (fun z e=>⟨e▸h.f2.2.2.2.2,e▸h.ext' h.f2.2.2.2.2 h.nr.2.2.2.2 a (by decide)⟩);have f:(s.mv.set k (x.map (·.2))).length=s.mv.length:=List.length_set;refine {h with obj:=by show w'.heap[S.sb]? = some (.cells (Xtz S s.keep.length (s.mv.set k (x.map (·.2))).length by').toArray _ _); rw [f]; exact hc.heap h.obj (XiU l a (by decide)),kee:=hc.heap h.kee (XiU n a (by decide)),room:=q,ar:=u (XiU o a (by decide)),vw:=r,th:=t (XiU p a (by simp)),mvs:=ho,mvc:=by show (s.mv.set k _).length≤_; rw [f]; exact h.mvc,mom:=by rw [Xk6,h.mom],mob:=fun j b m hm => ?_,mdj:=fun i j b m m' B g => ?_,ca:=v,ka:=y,low:=A}
 ·rcases Xk7 hm with ⟨_,e,_⟩ | ⟨_,hm⟩
  ·obtain ⟨c,d,C,_⟩:=hx b m e;exact ⟨hc.heap c (XiU (XiO c) a (by decide)),d,C⟩
  ·obtain ⟨c,d⟩:=h.mob j b m hm;exact ⟨hc.heap c (XiU (XiO c) a (by decide)),d⟩
 ·rcases Xk7 B with ⟨e1,e,_⟩ | ⟨_,gi⟩
  ·rcases Xk7 g with ⟨e2,_,_⟩ | ⟨_,gj⟩
   ·exact e1.trans e2.symm
   ·exact absurd gj ((hx b m e).2.2.2 j m')
  ·rcases Xk7 g with ⟨_,e,_⟩ | ⟨_,gj⟩
   ·exact absurd gi ((hx b m' e).2.2.2 i m)
   ·exact h.mdj i j b m m' gi gj
theorem XbC.adopt (h:XbC F Fr w S s by' mo) (hc:Chg XaX w w') {b:Nat} (hb:w.heap.size≤b) (hb':b<w'.heap.size):XbC (fun z=>F z∨z=b) Fr w' S s by' mo:=by
 have g:=h.grow hc;obtain ⟨f,i,j,l,n,o⟩:=h.nF;have d:∀ z,(F z∨z=b)→F z∨w.heap.size≤z:=fun z a=>a.elim .inl (fun e => .inr (by omega));have c:=h.room;have hm:=XkN c.may;have p:=Xkj h.ar.obj;have q:=Xkj h.ar.cap;have r:=Xkj h.vw.obj;have t:=Xkj c.obj;have u:S.R.sb<w.heap.size:=by have:=World.block_lt_of_cell? w _ (c.sl 0 (by have:=hm.n; have:=c.ok.n; omega)); exact this
 have v:1<w.heap.size:=by have:=World.block_lt_of_cell? w _ (c.tab 0 (by decide)); exact this
 exact {g with
  th:=((h.th.wide d).far hc (fun _ h=>h.elim) id),
  mob:=fun k b' m hm=>by obtain ⟨x,y,z⟩:=g.mob k b' m hm; exact ⟨x,.inl y,z⟩,
  f1:=fun z a => .inl (h.f1 z a),f2:=⟨.inl h.f2.1,.inl h.f2.2.1,.inl h.f2.2.2.1,.inl h.f2.2.2.2.1,.inl h.f2.2.2.2.2⟩,
  nF:=⟨fun a=>a.elim f (by omega),fun a=>a.elim i (by omega),fun a=>a.elim j (by omega),fun a=>a.elim l (by omega),fun a=>a.elim n (by omega),fun a=>a.elim o (by omega)⟩,
  ca:=(h.ca.grow d).chg hc (fun _ h=>h.elim),ka:=(h.ka.grow d).chg hc (fun _ h=>h.elim),low:=fun z a=>a.elim (g.low z) (by omega)}
theorem XbC.arena {T:Nat→Prop} (h:XbC F Fr w S s by' mo) {bs:List Int} {t:Int} {mo2:Mo} (hc:Chg T w w') (hT:∀ z,T z→z=S.A.db∨z=S.mb ∨ ∃ (k:Nat),∃ m,mo[k]? = some (some (z,m)))
 (hd:w'.heap[S.A.db]? = some (.cells (bs.map (Value.int .u8)).toArray 5 (0,0))) (hl:bs.length=s.bs.length) (hb:InB bs) (hm:XaO w' S.mb t S.R.lap)
 (hfl:fl Xlv mo2=fl Xlv mo) (hml:mo2.length=mo.length) (hmo:∀ (k b:Nat) m,mo2[k]? = some (some (b,m))→w'.heap[b]? = some (.cells (Xlh S.A (Xlg b m) m.gone).toArray 258 (0,0)) ∧ ∃ m0,mo[k]? = some (some (b,m0))) :
 XbC F Fr w' S {s with bs:=bs,rm:={s.rm with tot:=t},mv:=Xk5 mo2} by' mo2:=by
 obtain ⟨r,u,o,v,y,A⟩:=h.kds;obtain ⟨B,C,D,M,N,O⟩:=h.nF;have c:∀ z,T z→F z:=fun z a=>by
  rcases hT z a with e | e | ⟨k,m,e⟩
  ·exact e▸h.f2.2.2.1
  ·exact e▸h.mb.1
  ·exact (h.mob k z m e).2.1
 have kT:∀ {z:Nat} {x:Option Nat},kd w z=some x→x≠some 5→x≠some 197→x≠some 258 → ¬ T z:=fun d E G H a=>by
  rcases hT _ a with e | e | ⟨k,m,e⟩
  ·subst e; rw [o] at d; exact E (Option.some.inj d).symm
  ·subst e; rw [A] at d; exact G (Option.some.inj d).symm
  ·have:=h.kdm e; rw [this] at d; exact H (Option.some.inj d).symm
 have p:=h.room.charge2 h.rmo hm hc fun z a=>by
  rcases hT z a with e | e | ⟨k,m,e⟩
  ·exact .inr (e▸h.ext' h.f2.2.2.1 h.nr.2.2.1 o (by decide))
  ·exact .inl e
  ·obtain ⟨_,n,f⟩:=h.mob k z m e;exact .inr (h.ext' n f (h.kdm e) (by decide))
 have g:(Xk5 mo2).length=s.mv.length:=by unfold Xk5; rw [List.length_map,hml,h.mol]
 refine {h with
  obj:=by show w'.heap[S.sb]? = some (.cells (Xtz S s.keep.length (Xk5 mo2).length by').toArray _ _); rw [g]; exact hc.heap h.obj (kT r (by decide) (by decide) (by decide)),
  kee:=hc.heap h.kee (kT u (by decide) (by decide) (by decide)),room:=p,ar := ?_,vw := ?_,th:=h.th.far hc c (kT v (by simp) (by simp) (by simp)),
  mvs:=by rw [hfl]; exact hc.heap h.mvs (kT y (by decide) (by decide) (by decide)),mvc:=by show (Xk5 mo2).length≤_; rw [g]; exact h.mvc,mom:=rfl,
  mob:=fun k b m q=>by obtain ⟨n,m0,f⟩:=hmo k b m q; exact ⟨n,(h.mob k b m0 f).2⟩,
  mdj:=fun i j b m m' I J=>by obtain ⟨_,m0,f⟩:=hmo i b m I; obtain ⟨_,K,L⟩:=hmo j b m' J; exact h.mdj i j b m0 K f L,
  ca:=h.ca.chg hc c,ka:=h.ka.chg hc c,low:=fun z a=>by have:=h.low z a; have:=hc.size; omega}
 ·refine ⟨?_,hd,hc.heap h.ar.cap (fun a=>C (c _ a)),fun b l => ?_,by show bs.length≤_; rw [hl]; exact h.ar.len,hb⟩
  ·have:=hc.heap h.ar.obj (fun a=>B (c _ a));show w'.heap[S.A.ab]? = some (.cells #[.slice (some ⟨S.A.db,0,none⟩) bs.length bs.length,Xvx S.A] _ _)
   rw [hl]; exact this
  ·rw [h.amb] at l; cases l; exact hm
 ·refine ⟨hc.heap h.vw.obj (fun a=>D (c _ a)),?_,h.vw.may⟩;have:=h.vw.conf;rw [h.vc,h.vp] at this ⊢;exact ⟨(h.ca.chg hc c).1,(h.ka.chg hc c).1,this.lc,this.lk,this.size⟩
theorem XbC.arena' (h:XbC F Fr w S s by' mo) {bs:List Int} {n:Int} (hc:Chg (XgK S.A) w w') (ha:Xag w' S.A ⟨bs,XeA s.rm.tot n,S.R.lap⟩) (hl:bs.length=s.bs.length):XbC F Fr w' S (XeQ {s with bs:=bs} n) by' mo:=by
 have:=h.arena (bs:=bs) (t:=XeA s.rm.tot n) (mo2:=mo) hc (fun z a=>a.elim .inl (fun e => .inr (.inl (by rw [h.amb] at e; exact (Option.some.inj e).symm)))) ha.dat hl ha.rng (ha.met _ h.amb) rfl rfl (fun k b m hm=>⟨?_,m,hm⟩)
 ·rw [h.mom] at this;exact this
 ·have kk:=h.kdm hm;obtain ⟨_,_,c,_,_,d⟩:=h.kds;refine hc.heap (h.mob k b m hm).1 ?_;rintro (e | e)
  ·exact XiU kk c (by decide) e
  ·rw [h.amb] at e; cases e; exact XiU kk d (by decide) rfl
theorem XbC.roomed {Fr':Nat→Prop} {M:RmM} (h:XbC F Fr w S s by' mo) (hr:Xbh Fr' w' S.R M) (hf:∀ z,Fr' z→Fr z∨w.heap.size≤z) (hc:Chg Fr w w'):XbC (fun z=>F z∨Fr' z) Fr' w' S {s with rm:=M} by' mo:=by
 obtain ⟨l,n,o,A,B,C⟩:=h.nF;obtain ⟨D,E,G,H,I⟩:=h.lt;obtain ⟨p,q,r,t,u⟩:=h.nr;have f:∀ z,(F z∨Fr' z)→F z∨w.heap.size≤z:=fun z a=>a.elim .inl (fun e=>(hf z e).imp (h.f1 z) id);have c:∀ {z:Nat},¬ Fr z→z<w.heap.size → ¬ Fr' z:=fun j J a=>(hf _ a).elim j (by omega);have nf:∀ {z:Nat},¬ F z→z<w.heap.size → ¬ (F z∨Fr' z):=fun j J a=>(f _ a).elim j (by omega);have d:=h.room;have hm:=XkN d.may;have K:=Xkj h.ar.obj;have L:=Xkj h.ar.cap;have N:=Xkj h.vw.obj;have O:=Xkj d.obj;have P:S.R.sb<w.heap.size:=by have:=World.block_lt_of_cell? w _ (d.sl 0 (by have:=hm.n; have:=d.ok.n; omega)); exact this
 have Q:1<w.heap.size:=by have:=World.block_lt_of_cell? w _ (d.tab 0 (by decide)); exact this
 have g:=(h.ca.grow f).chg hc (fun z a => .inl (h.f1 z a));have i:=(h.ka.grow f).chg hc (fun z a => .inl (h.f1 z a));exact {h with
  obj:=hc.heap h.obj p,kee:=hc.heap h.kee q,room:=hr,
  ar:=⟨hc.heap h.ar.obj (fun a=>l (h.f1 _ a)),hc.heap h.ar.dat r,hc.heap h.ar.cap (fun a=>n (h.f1 _ a)),fun b v=>by rw [h.amb] at v; cases v; exact (hr.met _ h.rmo).2,h.ar.len,h.ar.rng⟩,
  vw:=⟨hc.heap h.vw.obj (fun a=>o (h.f1 _ a)),by
   have:=h.vw.conf;rw [h.vc,h.vp] at this ⊢;exact ⟨g.1,i.1,this.lc,this.lk,this.size⟩,h.vw.may⟩,
  th:=(h.th.wide f).far hc (fun z a => .inl (h.f1 z a)) t,mvs:=hc.heap h.mvs u,
  mob:=fun k b m hm=>by obtain ⟨x,y,z⟩:=h.mob k b m hm; exact ⟨hc.heap x z,.inl y,c z (h.low b y)⟩,
  f1:=fun z a => .inr a,f2:=⟨.inl h.f2.1,.inl h.f2.2.1,.inl h.f2.2.2.1,.inl h.f2.2.2.2.1,.inl h.f2.2.2.2.2⟩,
  nr:=⟨c p D,c q E,c r G,c t H,c u I⟩,
  nF:=⟨nf l K,nf n L,nf o N,nf A O,nf B P,nf C Q⟩,ca:=g,ka:=i,
  low:=fun z a=>a.elim (fun a=>by have:=h.low z a; have:=hc.size; omega) (hr.low z)}
end
def XbB (F:Nat→Prop) (w w':World) (S:Sto) (s:StM) (by':Int):Prop := ∃ F' Fr' mo',XbC F' Fr' w' S s by' mo'∧(∀ z,F' z→F z∨w.heap.size≤z)∧Chg F w w'
section
variable {F Fr:Nat→Prop} {w w' w'':World} {S:Sto} {s:StM} {by':Int} {mo:Mo}
theorem XbB.of (h:XbC F Fr w' S s by' mo) (hc:Chg F w w'):XbB F w w' S s by':=⟨F,Fr,mo,h,fun _ h => .inl h,hc⟩
theorem XbB.trans {F1:Nat→Prop} (hF:∀ z,F1 z→F z∨w.heap.size≤z) (hc:Chg F w w') (h:XbB F1 w' w'' S s by'):XbB F w w'' S s by':=by
 obtain ⟨g,d,e,a,b,c⟩:=h;refine ⟨g,d,e,a,fun z f => ?_,hc.since c fun z f i => ?_⟩
 ·rcases b z f with h | h
  ·exact hF z h
  ·have:=hc.size; exact .inr (by omega)
 ·rcases hF z i with h | h
  ·exact h
  ·omega
end
theorem Xva (c:Conf) (q:Plc) (bs:List Int) (at' m k:Nat):Xu9 c q bs at' (m+k)=Xu9 c q bs at' m++Xu9 c q bs (at'+m) k:=by
 unfold Xu9;rw [List.range_add,List.map_append,List.map_map]
 congr 1
 apply List.map_congr_left
 intro i _;simp only [Function.comp];rw [Nat.add_assoc]
theorem Xuf {bs:List Int} {x m:Nat} (h:x+m≤bs.length):sub bs x m=(List.range m).map fun i=>bs.getD (x+i) 0:=by
 apply List.ext_getElem
 ·rw [Xue h]; simp
 ·intro i a b;rw [Xue h] at a;simp only [List.getElem_map,List.getElem_range];have e:(sub bs x m)[i]? = some (bs.getD (x+i) 0):=by
   unfold sub;rw [List.getElem?_take,if_pos a,List.getElem?_drop,List.getElem?_eq_getElem (show x+i<bs.length by omega),List.getD_eq_getElem?_getD,List.getElem?_eq_getElem (show x+i<bs.length by omega)];rfl
  exact Option.some.inj ((List.getElem?_eq_getElem _).symm.trans e)
theorem Xv9 {c:Conf} {q:Plc} {sz at' i:Nat} (hcl:q.cls = -1) (hsz:c.size=sz) (hi:at' % sz+i<sz):Xv5 c q (at'+i)=q.pages.getD (at' / sz) 0*c.size+((at' % sz:Nat):Int)+i:=by
 unfold Xv5;rw [if_pos hcl,show c.size.toNat=sz from by omega];have a:(at'+i) / sz=at' / sz:=by
  have d:=Nat.div_add_mod at' sz;apply Nat.div_eq_of_lt_le
  ·rw [Nat.mul_comm]; omega
  ·rw [Nat.add_mul,Nat.one_mul,Nat.mul_comm]; omega
 have hm:(at'+i) % sz=at' % sz+i:=by
  have e:=Nat.div_add_mod at' sz;have b:=Nat.div_add_mod (at'+i) sz;rw [a] at b;omega
 rw [a,hm];omega
theorem XoR {c:Conf} {q:Plc} {bs:List Int} {sz:Nat} (hcl:q.cls = -1) (hsz:c.size=sz) (hp:1≤sz):∀ (n at':Nat),(∀ i,i<n→0≤Xv5 c q (at'+i)∧Xv5 c q (at'+i)<bs.length) →
 XoP bs ((XsK at' n sz).map fun s=>(q.pages.getD s.1 0*c.size+s.2.1,(s.2.2:Int)))=Xu9 c q bs at' n:=by
 intro n
 induction n using Nat.strongRecOn with
 |_ n ih =>
  intro at' b;by_cases o:n=0
  ·subst o; rfl
  ·have d:=XhC (at':=at') hp (show 0<n by omega);have p:=Nat.mod_lt at' (show 0<sz by omega);rw [XsL hp (by omega),List.map_cons];obtain ⟨m,hm⟩:∃ m,m=min n (sz - at' % sz):=⟨_,rfl⟩;have h:XhB at' n sz=(at' / sz,at' % sz,m):=by unfold XhB; rw [hm]
   rw [h,← hm];rw [← hm] at d;have j:=b 0 (by omega);have a:=b (m - 1) (by omega);rw [Xv9 hcl hsz (by omega)] at j a;obtain ⟨x,e⟩:=Int.eq_ofNat_of_zero_le (show 0≤q.pages.getD (at' / sz) 0*c.size+((at' % sz:Nat):Int) by omega);rw [e] at a;have f:sub bs x m=Xu9 c q bs at' m:=by
    rw [Xuf (by omega)];unfold Xu9;apply List.map_congr_left
    intro i k;rw [List.mem_range] at k;rw [Xv9 hcl hsz (by omega),e]
    congr 1
   have g:=ih (n - m) (by omega) (at'+m) (fun i k=>by rw [Nat.add_assoc]; exact b (m+i) (by omega));have l:n=m+(n - m):=by omega
   conv=>rhs; rw [l]
   rw [Xva,← f,← g];unfold XoP;rw [List.flatMap_cons];simp only
   rw [e];rfl
theorem XoS {c:Conf} {q:Plc} {bs:List Int} {at' n:Nat} (hm:XkH c=true) (hck:XeG c q at' n=0) (hlen:(bs.length:Int)=c.size*c.pages):XoP bs (Xm5 c q at' n)=Xu9 c q bs at' n:=by
 obtain ⟨m,o,p⟩:=XkJ hm;obtain ⟨e,_,_,l⟩:=XeK hck;have d:∀ i,i<n→0≤Xv5 c q (at'+i)∧Xv5 c q (at'+i)<bs.length:=fun i r=>by
  have:=Xv8 (i:=at'+i) hm e (by omega);omega
 unfold Xm5;by_cases a:q.cls = -1
 ·rw [if_pos a];obtain ⟨sz,f⟩:=Int.eq_ofNat_of_zero_le (show 0≤c.size by omega);rw [show c.size.toNat=sz from by omega];exact XoR a f (by omega) n at' d
 ·rw [if_neg a];unfold XoP;simp only [List.flatMap_cons,List.flatMap_nil,List.append_nil,Int.toNat_natCast];by_cases h:n=0
  ·subst h; simp [sub,Xu9]
  ·have j:=d 0 (by omega);have k:=d (n - 1) (by omega);have b:∀ i,Xv5 c q (at'+i)=XvA c q+at'+i:=fun i=>by unfold Xv5; rw [if_neg a]; omega
   rw [b] at j k;obtain ⟨x,g⟩:=Int.eq_ofNat_of_zero_le (show 0≤XvA c q+(at':Int) by omega);rw [g,Int.toNat_natCast,Xuf (by omega)];unfold Xu9;apply List.map_congr_left
   intro i _;rw [b,g]
   congr 1
theorem XsP {sz:Nat} (hp:1≤sz):∀ (n at' k:Nat) (h:k<(XsK at' n sz).length),(XsK at' n sz)[k].1*sz+(XsK at' n sz)[k].2.1=at'+(((XsK at' n sz).take k).map fun s=>s.2.2).sum:=by
 intro n
 induction n using Nat.strongRecOn with
 |_ n ih =>
  intro at' k h;by_cases b:n=0
  ·subst b; simp [XsN] at h
  ·have c:=XhC (at':=at') hp (show 0<n by omega);have e:=Nat.div_add_mod at' sz;have a:=XsL (at':=at') hp (show 0<n by omega);cases k with
   |zero =>
    simp only [a,List.getElem_cons_zero,List.take_zero,List.map_nil,List.sum_nil];unfold XhB;simp only
    rw [Nat.mul_comm]; omega
   |succ k =>
    have d:k<(XsK (at'+min n (sz - at' % sz)) (n - min n (sz - at' % sz)) sz).length:=by rw [a] at h; simpa using h
    have:=ih _ (by omega) _ k d;simp only [a,List.getElem_cons_succ,List.take_succ_cons,List.map_cons,List.sum_cons];rw [this];unfold XhB;simp only
    omega
theorem Xm2 {c:Conf} {q:Plc} {at' n k i m:Nat} (hm:XkH c=true) (hk:k<(Xm5 c q at' n).length) (hp:(Xm5 c q at' n)[k]=((i:Int),(m:Int))) :
 ∀ j,j<m→Xv5 c q (at'+(Xvd ((Xm5 c q at' n).take k)+j))=(i:Int)+j:=by
 obtain ⟨y,z,B⟩:=XkJ hm;intro j C;by_cases b:q.cls = -1
 ·obtain ⟨sz,h⟩:=Int.eq_ofNat_of_zero_le (show 0≤c.size by omega);have a:Xm5 c q at' n=(XsK at' n sz).map fun s=>(q.pages.getD s.1 0*c.size+s.2.1,(s.2.2:Int)):=by unfold Xm5; rw [if_pos b,show c.size.toNat=sz from by omega]
  have g:k<(XsK at' n sz).length:=by rw [a,List.length_map] at hk; exact hk
  have e:=XsP (sz:=sz) (by omega) n at' k g;obtain ⟨l,o,p,x⟩:=XsH (page:=sz) (by omega) n at' _ (List.getElem_mem g);have r:Xvd ((Xm5 c q at' n).take k)=(((XsK at' n sz).take k).map fun s=>s.2.2).sum:=by
   unfold Xvd;rw [a,← List.map_take,List.map_map];rfl
  have t:(q.pages.getD (XsK at' n sz)[k].1 0*c.size+((XsK at' n sz)[k].2.1:Int),((XsK at' n sz)[k].2.2:Int))=((i:Int),(m:Int)):=by
   rw [← hp]; simp only [a,List.getElem_map]
  obtain ⟨e1,e2⟩:=Prod.mk.inj t;rw [r,← Nat.add_assoc,← e];obtain ⟨s,u⟩:∃ s,s=(XsK at' n sz)[k]:=⟨_,rfl⟩;rw [← u] at e1 e2 l o p ⊢
  clear u e x
  obtain ⟨N,A,L⟩:=s;simp only at e1 e2 l o p ⊢
  have d:(N*sz+A) % sz=A:=by rw [Nat.mul_comm,Nat.mul_add_mod]; exact Nat.mod_eq_of_lt (by omega)
  have f:(N*sz+A) / sz=N:=by rw [Nat.mul_comm,Nat.mul_add_div (by omega),Nat.div_eq_of_lt (by omega)]; rfl
  rw [Xv9 b h (by rw [d]; omega),d,f];omega
 ·have a:Xm5 c q at' n = [(XvA c q+at',(n:Int))]:=by unfold Xm5; rw [if_neg b]
  have v:k=0:=by rw [a] at hk; simpa using hk
  subst v;have w:(XvA c q+(at':Int),(n:Int))=((i:Int),(m:Int)):=by rw [← hp]; simp only [a]; rfl
  obtain ⟨e1,e2⟩:=Prod.mk.inj w;unfold Xv5;rw [if_neg b];simp only [List.take_zero,Xvd,List.map_nil,List.sum_nil];omega
theorem Xjk {c:Conf} {q:Plc} {bs l:List Int} {at' off i m:Nat} (him:i+m≤bs.length) (hol:off+m≤l.length) (hw:∀ j,j<m→Xv5 c q (at'+(off+j))=(i:Int)+j) :
 ∀ j,j≤m→Xjc c q bs at' l (off+j)=XmU (Xjc c q bs at' l off) i (sub l off m) j
 |0,_=>by rw [XmZ]; rfl
 |j+1,h=>by
  have a:(sub l off m).length=m:=Xue hol;have ih:=Xjk him hol hw j (by omega);have b:(sub l off m).getD j 0=l.getD (off+j) 0:=by
   rw [Xuf hol,List.getD_eq_getElem?_getD,List.getElem?_map,List.getElem?_range (by omega)]; rfl
  rw [← XmY (by rw [a,Xje]; exact him) (by rw [a]; omega),b,← ih];show (Xjc c q bs at' l (off+j)).set (Xv5 c q (at'+(off+j))).toNat (l.getD (off+j) 0)=_
  rw [hw j (by omega)];rfl
theorem Xww {c:Conf} {q:Plc} {A:Ar} {V:ArV} {at':Nat} {l:List Int} (hm:XkH c=true) (hck:XeG c q at' l.length=0) (hfew:q.pages.length≤4096) (hlen:(V.bs.length:Int)=c.size*c.pages) :
 ∀ k,k≤(Xm5 c q at' l.length).length→(vsW q A V (Xm5 c q at' l.length) l k).bs=Xjc c q V.bs at' l (Xvd ((Xm5 c q at' l.length).take k))
 |0,_=>rfl
 |k+1,h=>by
  have a:k<(Xm5 c q at' l.length).length:=h;obtain ⟨i,m,b,n⟩:=Xm7 hm hck hfew _ (List.getElem_mem a);have ih:=Xww (A:=A) hm hck hfew hlen k (by omega);have j:Xvd (Xm5 c q at' l.length)=l.length:=Xm9 hm;have d:=Xvh a;rw [b] at d;simp only [Int.toNat_natCast] at d;have f:Xvd ((Xm5 c q at' l.length).take (k+1))=Xvd ((Xm5 c q at' l.length).take k)+m:=by
   rw [List.take_add_one,List.getElem?_eq_getElem a,b,Xve]; simp [Xvd]
  have g:i+m≤V.bs.length:=by omega
  have e:Xvd ((Xm5 c q at' l.length).take k)+m≤l.length:=by omega
  rw [Xv2 a b,f,Xjk g e (Xm2 hm a b) m (Nat.le_refl _)];show wrB _ i (sub l _ m)=_
  rw [ih];have:=XmV (bs:=Xjc c q V.bs at' l (Xvd ((Xm5 c q at' l.length).take k))) (l:=sub l (Xvd ((Xm5 c q at' l.length).take k)) m) (i:=i);rw [Xue e] at this;exact this.symm
theorem Xwx {c:Conf} {q:Plc} {A:Ar} {V:ArV} {at':Nat} {l:List Int} (hm:XkH c=true) (hck:XeG c q at' l.length=0) (hfew:q.pages.length≤4096) (hlen:(V.bs.length:Int)=c.size*c.pages) :
 (vsW q A V (Xm5 c q at' l.length) l (Xm5 c q at' l.length).length).bs=Xjc c q V.bs at' l l.length:=by
 rw [Xww hm hck hfew hlen _ (Nat.le_refl _),List.take_length,Xm9 hm]
def Xdm (q:Plc) (k:Nat):Int:=if q.cls = -1 then (k:Int) else 0
theorem Xm6 {c:Conf} {q:Plc} {at' n:Nat} (hm:XkH c=true):((Xvd (Xm5 c q at' n):Nat):Int)+Xdm q (Xm5 c q at' n).length=Xew c q at' n:=by
 rw [Xm9 hm];unfold Xdm Xew Xm5;by_cases a:q.cls = -1
 ·rw [if_pos a,if_pos a,if_pos a,List.length_map]
 ·rw [if_neg a,if_neg a]
theorem XeE {t a b:Int} (h:0≤t∧t≤4611686018427387904) (ha:0≤a) (hb:0≤b):XeA (XeA t a) b=XeA t (a+b):=by
 unfold XeA;split <;> split <;> split <;> omega
theorem XeB (t:Int):XeA t 0=t:=by unfold XeA; rw [if_pos (by omega)]
theorem Xez {V:ArV} {A:Ar} {b:Nat} {n:Int} (hb:A.mb=some b):(V.charge A n).total=XeA V.total n:=by unfold ArV.charge; rw [hb]
theorem XeN {q:Plc} {V:ArV} {A:Ar} {b:Nat} (hb:A.mb=some b):(XeL q A V).total=XeA V.total (Xdm q 1):=by
 unfold XeL Xdm;split
 ·exact Xez hb
 ·rw [XeB]
theorem XeO {q:Plc} {V:ArV} {A:Ar}:(XeL q A V).lap=V.lap:=by unfold XeL; split; exact V.charge_lap A _; rfl
theorem Xdn (q:Plc) (k:Nat):Xdm q (k+1)=Xdm q k+Xdm q 1∧0≤Xdm q k∧0≤Xdm q 1:=by unfold Xdm; split <;> omega
theorem Xvg {ps:List (Int × Int)} {k i m:Nat} (hk:k<ps.length) (hp:ps[k]=((i:Int),(m:Int))):Xvd (ps.take (k+1))=Xvd (ps.take k)+m:=by
 rw [List.take_add_one,List.getElem?_eq_getElem hk,hp,Xve]; simp [Xvd]
theorem XvY {q:Plc} {A:Ar} {V:ArV} {ps:List (Int × Int)} {b:Nat} (hb:A.mb=some b) (hps:∀ p ∈ ps,∃ i m:Nat,p=((i:Int),(m:Int))) (hV:0≤V.total∧V.total≤4611686018427387904) :
 ∀ k,k≤ps.length→(vsT q A V ps k).total=XeA V.total (Xvd (ps.take k)+Xdm q k)∧(vsT q A V ps k).lap=V.lap
 |0,_=>by
  have e:((Xvd (ps.take 0):Nat):Int)+Xdm q 0=0:=by unfold Xdm; simp [Xvd]
  rw [e,XeB];exact ⟨rfl,rfl⟩
 |k+1,h=>by
  have a:k<ps.length:=h;obtain ⟨i,m,c⟩:=hps _ (List.getElem_mem a);obtain ⟨d,f⟩:=XvY (q:=q) hb hps hV k (by omega);obtain ⟨g,l,j⟩:=Xdn q k;rw [XvZ a,c];simp only
  rw [ArV.charge_lap,XeO,Xez hb,XeN hb,d,XeE hV (by omega) j,XeE hV (by omega) (by omega),Xvg a c,g];exact ⟨by congr 1; omega,f⟩
theorem Xv0 {q:Plc} {A:Ar} {V:ArV} {ps:List (Int × Int)} {l:List Int} {b:Nat} (hb:A.mb=some b) (hps:∀ p ∈ ps,∃ i m:Nat,p=((i:Int),(m:Int))) (hV:0≤V.total∧V.total≤4611686018427387904) :
 ∀ k,k≤ps.length→(vsW q A V ps l k).total=XeA V.total (Xvd (ps.take k)+Xdm q k)∧(vsW q A V ps l k).lap=V.lap
 |0,_=>by
  have e:((Xvd (ps.take 0):Nat):Int)+Xdm q 0=0:=by unfold Xdm; simp [Xvd]
  rw [e,XeB];exact ⟨rfl,rfl⟩
 |k+1,h=>by
  have a:k<ps.length:=h;obtain ⟨i,m,c⟩:=hps _ (List.getElem_mem a);obtain ⟨d,f⟩:=Xv0 (q:=q) (l:=l) hb hps hV k (by omega);obtain ⟨g,n,j⟩:=Xdn q k;rw [Xv2 a c];show ((XeL q A (vsW q A V ps l k)).charge A m).total=_∧((XeL q A (vsW q A V ps l k)).charge A m).lap=_
  rw [ArV.charge_lap,XeO,Xez hb,XeN hb,d,XeE hV (by omega) j,XeE hV (by omega) (by omega),Xvg a c,g];exact ⟨by congr 1; omega,f⟩
theorem ArV.eq {V:ArV} {bs:List Int} {t l:Int} (h1:V.bs=bs) (h2:V.total=t) (h3:V.lap=l):V=⟨bs,t,l⟩:=by cases V; cases h1; cases h2; cases h3; rfl
theorem XeJ {c:Conf} {q:Plc} {i n:Int} (hv:XvE c q=true) (hi:0≤i) (hn:0≤n) (h:i+n≤XvB c q):XeG c q i n=0:=by
 unfold XeG;rw [if_neg (by rw [hv]; decide),if_neg (by omega)]
section
variable {F Fr:Nat→Prop} {w w':World} {S:Sto} {s:StM} {by':Int} {mo:Mo} {pd:Option (Nat × PlcM)}
theorem XbC.footF (h:XbC F Fr w S s by' mo):∀ z,XgK S.A z→F z:=fun z a=>by
 rcases a with e | e
 ·exact e▸h.f2.2.2.1
 ·rw [h.amb] at e; cases e; exact h.mb.1
theorem XbC.tot (h:XbC F Fr w S s by' mo):0≤s.rm.tot∧s.rm.tot≤4611686018427387904:=h.room.ok.tot
theorem XbC.vwf (h:XbC F Fr w S s by' mo):¬ XgK S.A S.v.vb∧(0<S.v.c.classes.length→Xa0 (XgK S.A) S.v.p.ca)∧(0<S.v.c.keep.length→Xa0 (XgK S.A) S.v.p.ka):=by
 refine ⟨fun b=>h.nF.2.2.1 (h.footF _ b),fun a => ?_,fun a => ?_⟩
 ·rw [h.vc] at a; rw [h.vp]; exact (h.ca.2 a).mono h.footF
 ·rw [h.vc] at a; rw [h.vp]; exact (h.ka.2 a).mono h.footF
theorem Xm8 {c:Conf} {q:Plc} {i n:Nat} (hm:XkH c=true) (hck:XeG c q i n=0) (hfew:q.pages.length≤4096):∀ p ∈ Xm5 c q i n,∃ a b:Nat,p=((a:Int),(b:Int)):=fun p d=>by
 obtain ⟨a,b,e,_⟩:=Xm7 hm hck hfew p d;exact ⟨a,b,e⟩
theorem XtC (h:XbC F Fr w S s by' mo) (hm:XkH S.c=true) (hbl:(s.bs.length:Int)=S.c.size*S.c.pages) (q:Plc) (i:Nat) (a:Option Addr) (cap:Nat) (l:List Int) (hq:Xa8 w q) (hF:Xa0 F q.pa) (hck:XeG S.c q i l.length=0) (hfew:q.pages.length≤4096) (hr:Rd .u8 w a l) (hlc:l.length≤cap) (hin:InB l) (hout:0<l.length→Xa0 F a) :
 Xan Tryz.prog 128 #[vwV S.v,.agg (Xoc q).toArray,.int .i64 i,.slice a l.length cap] w (fun u w'=>u = .int .i64 0∧XbC F Fr w' S (Xs9 S.c s (Xoe q) i l) by' mo∧Chg F w w'):=by
 obtain ⟨f,g,j⟩:=h.vwf;have ec:=h.vc;refine (XvL S.v q i a cap l S.A (arV S s) w h.vw hq (h.vmb.trans h.amb.symm) h.vab (by rw [ec]; exact hck) hfew f (fun _=>hF.mono h.footF) g j h.ar (by rw [ec]; exact hbl) hr hlc hin (fun k=>(hout k).mono h.footF)).mono fun u w' ⟨e,b,c⟩=>⟨e,?_,c.mono fun z _ m=>h.footF z m⟩;rw [ec] at b;obtain ⟨d,o⟩:=Xv0 (q:=q) (V:=arV S s) (l:=l) h.amb (Xm8 hm hck hfew) h.tot _ (Nat.le_refl _);rw [List.take_length,Xm6 hm] at d;have e1:=ArV.eq (Xwx (A:=S.A) (V:=arV S s) hm hck hfew hbl) d o;rw [e1,Xjf,Xex] at b;exact h.arena' (bs:=Xjc S.c (Xoe q).plc s.bs i l l.length) (n:=Xew S.c (Xoe q).plc i l.length) c b (Xje _ _ _ _ _ _)
theorem XwW (n:Nat):(XwU n).length=n:=by unfold XwU; rw [List.length_replicate]
theorem XtD (h:XbC F Fr w S s by' mo) (hm:XkH S.c=true) (hbl:(s.bs.length:Int)=S.c.size*S.c.pages) (q:Plc) (i n:Nat) (hq:Xa8 w q) (hF:Xa0 F q.pa) (hck:XeG S.c q i n=0) (hfew:q.pages.length≤4096) :
 Xan Tryz.prog 131 #[vwV S.v,.agg (Xoc q).toArray,.int .i64 i,.int .i64 n] w (fun u w'=>u = .int .i64 0∧XbC F Fr w' S (Xs9 S.c s (Xoe q) i (XwU n)) by' mo∧Chg F w w'):=by
 obtain ⟨g,j,k⟩:=h.vwf;have ec:=h.vc;have a:=XwW n;refine (XvN S.v q i n S.A (arV S s) w h.vw hq (h.vmb.trans h.amb.symm) h.vab (by rw [ec]; exact hck) hfew g (fun _=>hF.mono h.footF) j k h.ar (by rw [ec]; exact hbl)).mono fun u w' ⟨e,b,c⟩=>⟨e,?_,c.mono fun z _ a=>h.footF z a⟩;rw [ec] at b;obtain ⟨d,m⟩:=Xv0 (q:=q) (V:=arV S s) (l:=XwU n) h.amb (Xm8 hm hck hfew) h.tot _ (Nat.le_refl _);rw [List.take_length,Xm6 hm] at d;have f:=Xwx (A:=S.A) (V:=arV S s) (l:=XwU n) (q:=q) (at':=i) hm (by rw [a]; exact hck) hfew hbl;rw [a] at f;have e1:=ArV.eq f d m;rw [e1,Xjf,Xex] at b;have:=h.arena' (bs:=Xjc S.c (Xoe q).plc s.bs i (XwU n) n) (n:=Xew S.c (Xoe q).plc i n) c b (Xje _ _ _ _ _ _);unfold Xs9;rw [a];exact this
theorem XtB (h:XbC F Fr w S s by' mo) (hm:XkH S.c=true) (hbl:(s.bs.length:Int)=S.c.size*S.c.pages) (q:Plc) (i n:Nat) (hq:Xa8 w q) (hF:Xa0 F q.pa) (hck:XeG S.c q i n=0) (hfew:q.pages.length≤4096) :
 Xan Tryz.prog 126 #[vwV S.v,.agg (Xoc q).toArray,.int .i64 i,.int .i64 n] w (fun u w' => ∃ u1,u = .tuple #[u1,.int .i64 0]∧XbC F Fr w' S (XeQ s (Xew S.c (Xoe q).plc i n)) by' mo∧Chg (XgK S.A) w w' ∧
  Own w.heap.size 5 1 w' u1 n ((Xu9 S.c (Xoe q).plc s.bs i n).map (Value.int .u8))):=by
 obtain ⟨j,k,l⟩:=h.vwf;have ec:=h.vc;have mF:∀ z,Xkx S.A z→XgK S.A z:=fun z a => .inr a;refine (XvJ S.v q i n S.A (arV S s) w h.vw hq (h.vmb.trans h.amb.symm) h.vab (by rw [ec]; exact hck) hfew (fun a=>j (mF _ a)) (fun _=>(hF.mono h.footF).mono mF) (fun b=>(k b).mono mF) (fun b=>(l b).mono mF) h.ar (by rw [ec]; exact hbl)).mono fun u w' ⟨u1,e,c,f,d⟩=>⟨u1,e,?_,f.mono fun z _ a=>mF z a,?_⟩
 ·rw [ec] at c;obtain ⟨g,m⟩:=XvY (q:=q) (V:=arV S s) h.amb (Xm8 hm hck hfew) h.tot _ (Nat.le_refl _);rw [List.take_length,Xm6 hm] at g;have e1:=ArV.eq (XvX q S.A (arV S s) (Xm5 S.c q i n) _) g m;rw [e1,Xex] at c;exact h.arena' (bs:=s.bs) (n:=Xew S.c (Xoe q).plc i n) (f.mono fun z _ a=>mF z a) c rfl
 ·rw [ec,XoS hm hck hbl] at d;have e:(Xu9 S.c q s.bs i n).length=n:=by unfold Xu9; rw [List.length_map,List.length_range]
  rw [e,Xvc] at d;exact d
end
theorem XkC {n q:Int} (hn:1≤n) (hq:1≤q):n≤XkA n q*q:=by
 have a:=Int.emod_add_mul_ediv (n - 1) q;have:=Int.emod_lt_of_pos (n - 1) (show 0<q by omega);have e:XkA n q=(n - 1) / q+1:=by unfold XkA; rw [if_neg (by omega)]
 rw [e,Int.add_mul,Int.one_mul,Int.mul_comm ((n - 1) / q) q];omega
section
variable {c:Conf} {s:StM} {pd:Option (Nat × PlcM)}
theorem XjC:∀ {l:List (Nat × List Nat)} {e:Nat × List Nat},e ∈ l→e.2.length+1≤XjA l
 |a::l,e,h=>by
  have b:XjA (a::l)=(a.2.length+1)+XjA l:=by unfold XjA; simp
  rcases List.mem_cons.1 h with rfl | h
  ·omega
  ·have:=XjC h; omega
theorem XjF (h:s.OkP c pd) {n:Nat} {r:List Nat} (hm:(n,r) ∈ s.rm.lg):(∀ m ∈ r,(m:Int)<c.pages)∧r.length≤1024:=by
 have f:=h.rm.ok.own;have a:=h.rm.mok.good;refine ⟨fun m b => ?_,?_⟩
 ·have:=(h.rm.ok.lg m (XkP hm (List.mem_cons_of_mem _ b))).1;omega
 ·have d:=XjC hm;have e:=h.rm.ok.sum;have g:=a.many;have i:=a.len;unfold XhV at e;simp only at d
  omega
theorem Xi2 (h:s.OkP c pd) {n:Nat} {r:List Nat} {size:Int} (hm:(n,r) ∈ s.rm.lg) (hs:1≤size) (hr:(r.length+1:Int)=Xce size c.size):XvE c (PlcM.mk (-1) (n:Nat) 0 (Xly r)).plc=true∧size≤XvB c (PlcM.mk (-1) (n:Nat) 0 (Xly r)).plc∧(Xly r).length≤4096:=by
 obtain ⟨g,l⟩:=XjF h hm;have i:1≤c.size:=by have:=(XkJ h.may).1; omega
 have a:=XkC hs i;have k:1≤XkA size c.size:=by
  have o:0≤(size - 1) / c.size:=Int.ediv_nonneg (by omega) (by omega);unfold XkA;rw [if_neg (by omega)];omega
 have e:(r.length:Int)=XkA size c.size:=by
  unfold Xce at hr;split at hr <;> omega
 have j:=XlA r;have b:XvE c (PlcM.mk (-1) (n:Nat) 0 (Xly r)).plc=true:=by
  unfold XvE PlcM.plc;show (if (-1:Int) = -1 then (decide (0<(Xly r).length) && !(Xly r).any fun n => !inT n c.pages) else _)=true
  rw [if_pos rfl,Bool.and_eq_true];refine ⟨decide_eq_true (by omega),?_⟩;rw [Bool.not_eq_true',List.any_eq_false];intro x d;unfold Xly at d;obtain ⟨m,f,rfl⟩:=List.mem_map.1 d;have:=g m f;rw [Xiw.2 (by omega)]
  decide
 refine ⟨b,?_,by omega⟩;unfold XvB;rw [if_pos b];show size≤if (-1:Int) = -1 then ((Xly r).length:Int)*c.size else _
 rw [if_pos rfl,j,e];exact a
theorem XsD (h:s.OkP c pd) {k n a:Int} (ho:XpS s.rm k n a ≠ -1):XvE c (PlcM.mk k n a []).plc=true∧XvB c (PlcM.mk k n a []).plc=Xfb c k:=by
 obtain ⟨b,d,_⟩:=XmI h ho;refine ⟨b,?_⟩;unfold XvB;rw [if_pos (show XvE c (PlcM.mk k n a []).plc=true from b)];show (if k = -1 then _ else Xfb c k)=_
 rw [if_neg (by omega)]
theorem XnL {size:Int} {k:Nat} (hp:XnI c.classes size=(k:Nat)):size≤Xfb c k:=by
 unfold Xfb;rw [Int.toNat_natCast];exact XnM hp
theorem Xn3 (h:s.OkP c pd) {o:Nat} {t:ThM} (ht:s.th[o]? = some (some t)):XvE c t.q.plc=true∧t.size≤XvB c t.q.plc∧t.q.pages.length≤4096:=by
 by_cases d:XnI c.classes t.size = -1
 ·obtain ⟨n,r,f,b,g⟩:=h.large o t ht d;rw [b];exact Xi2 h f (h.size o t ht).1 g
 ·obtain ⟨f,b,g⟩:=h.small o t ht d;obtain ⟨m,p⟩:=XnK d;obtain ⟨k,i⟩:=Int.eq_ofNat_of_zero_le m;obtain ⟨j,l⟩:=XsD h (k:=t.q.cls) (n:=t.q.page) (a:=t.q.idx) (by rw [g]; omega);have e:t.q=⟨t.q.cls,t.q.page,t.q.idx,[]⟩:=by
   obtain ⟨sz,q,u,v,w⟩:=t;simp only at b
   rw [b]
  rw [← e] at j l;refine ⟨j,?_,by rw [b]; simp⟩;rw [l,f,i];exact XnL i
end
section
variable {F Fr:Nat→Prop} {w w':World} {S:Sto} {s:StM} {by':Int} {mo:Mo} {pd:Option (Nat × PlcM)}
def XuV (s:StM) (k:Int):Bool:=decide (0≤k) && decide (k<s.mv.length)
theorem OkP.few (hs:s.OkP S.c pd):s.mv.length≤16∧s.keep.length=s.mv.length∧0<s.mv.length:=by
 have hm:=XkN hs.may;have:=hm.n;have:=hs.ml;have:=hs.kl;omega
end
theorem Xt7 {F Fr:Nat→Prop} {w:World} {S:Sto} {s:StM} {by':Int} {mo:Mo} {pd:Option (Nat × PlcM)} (h:XbC F Fr w S s by' mo) (hs:s.OkP S.c pd) (k:Int):Xan Tryz.prog 134 #[XtA S,.int .i64 k] w (Xbs (.bool (XuV s k)) w):=by
 refine ζe Tryz.func134 Tryz.ntmps134 rfl (ζg rfl (fun a => ?_) fun a => ?_)
 ·refine ζl h.obj rfl ?_;have e:XuV s k=decide (k<s.mv.length):=by unfold XuV; rw [decide_eq_true (show 0≤k from of_decide_eq_true a)]; rfl
  rw [e];exact ζr Tryz.func134 rfl ⟨rfl,rfl⟩
 ·have e:XuV s k=false:=by unfold XuV; rw [decide_eq_false (show ¬ 0≤k from of_decide_eq_false a)]; rfl
  rw [e];exact ζr Tryz.func134 rfl ⟨rfl,rfl⟩
theorem Xlq {s:StM} {k:Int} (h:XuV s k=false):Xs8 s k=none:=by
 unfold Xs8;split
 ·rename_i a
  unfold XuV at h;rw [decide_eq_true a,Bool.true_and] at h;have:=of_decide_eq_false h;rw [List.getD_eq_getElem?_getD,List.getElem?_eq_none (by omega)]; rfl
 ·rfl
theorem XuW {s:StM} {k:Int} (h:XuV s k=true):∃ j:Nat,k=j∧j<s.mv.length:=by
 unfold XuV at h;simp only [Bool.and_eq_true,decide_eq_true_eq] at h;exact ⟨k.toNat,by omega,by omega⟩
theorem Xlk {s:StM} {j:Nat} (h:j<s.mv.length):Xs8 s (j:Nat)=s.mv[j]:=by
 unfold Xs8;rw [if_pos (by omega),Int.toNat_natCast,List.getD_eq_getElem?_getD,List.getElem?_eq_getElem h]; rfl
section
variable {F Fr:Nat→Prop} {w w':World} {S:Sto} {s:StM} {by':Int} {mo:Mo} {pd:Option (Nat × PlcM)}
theorem XbC.mo_at (h:XbC F Fr w S s by' mo) {j:Nat} (hj:j<s.mv.length):∃ x,mo[j]? = some x∧x.map (·.2)=Xs8 s (j:Nat):=by
 have b:=h.mol;have a:j<mo.length:=by omega
 refine ⟨mo[j],List.getElem?_eq_getElem a,?_⟩;rw [Xlk hj];have e:=h.mom;unfold Xk5 at e;simp only [← e,List.getElem_map]
theorem XbC.mcell (h:XbC F Fr w S s by' mo) {j:Nat} {x:Option (Nat × MvM)} (hx:mo[j]? = some x) {i:Nat} (hi:i<6) {v:Value} (hv:(Xlv x)[i]? = some v):w.cell? ⟨S.vb,0+j*6+i,none⟩=some v:=by
 refine (Xel h.mvs).trans ?_;rw [Nat.zero_add,List.getElem?_toArray,XgA Xlw hi mo j x hx,hv]
end
theorem Xt2 {F Fr:Nat→Prop} {w:World} {S:Sto} {s:StM} {by':Int} {mo:Mo} {pd:Option (Nat × PlcM)} (h:XbC F Fr w S s by' mo) (hs:s.OkP S.c pd) (k:Int):Xan Tryz.prog 93 #[XtA S,.int .i64 k] w (Xbs (.bool (Xs8 s k).isSome) w):=by
 obtain ⟨f1,_,_⟩:=OkP.few hs;refine ζe Tryz.func93 Tryz.ntmps93 rfl (ζw (Xt7 h hs k) rfl ?_);cases ht:XuV s k with
 |false =>
  refine ζf rfl ?_;rw [Xlq ht];exact ζr Tryz.func93 rfl ⟨rfl,rfl⟩
 |true =>
  obtain ⟨j,rfl,c⟩:=XuW ht;obtain ⟨x,a,e⟩:=h.mo_at c;rw [← e];refine ζy rfl (ζl h.obj rfl (ζi (j*6) rfl ?_));cases x with
  |none =>
   exact ζk rfl (h.mcell a (i:=0) (by decide) rfl) rfl (ζr Tryz.func93 rfl ⟨rfl,rfl⟩)
  |some p =>
   obtain ⟨b,m⟩:=p;exact ζk rfl (h.mcell a (i:=0) (by decide) rfl) rfl (ζr Tryz.func93 rfl ⟨rfl,rfl⟩)
section
variable {F Fr:Nat→Prop} {w w':World} {S:Sto} {s:StM} {by':Int} {mo:Mo} {pd:Option (Nat × PlcM)}
theorem XbC.mvOk (h:XbC F Fr w S s by' mo) (hs:s.OkP S.c pd) {j b:Nat} {m:MvM} (hx:mo[j]? = some (some (b,m))):XaU w S.A (arV S s) (Xlg b m) m.gone:=by
 have hm:s.mv[j]? = some (some m):=by rw [← h.mom]; unfold Xk5; rw [List.getElem?_map,hx]; rfl
 obtain ⟨a,c,d,_⟩:=Xlp hs hm;have e:=(hs.mv j m hm).2.2.2.2.2.2;exact ⟨h.ar,(h.mob j b m hx).1,d,by show m.gone≤m.size; omega,a,c⟩
end
def Xa2 (F:Nat→Prop) (w0:World) (s:StM) (o e:Int) (v:Value):Prop := ∃ q,v = .tuple #[.agg (thL (Xti s o) q).toArray,.int .i64 e]∧Xoe q=stQ s o∧Xa8 w0 q∧Xa0 F q.pa∧XaD w0 q.pa
abbrev q0:Plc:=⟨0,0,0,none,0,[]⟩
theorem Xmv {F:Nat→Prop} {s:StM} {o e:Int} {w':World} (h:Xtl s o=none):Xa2 F w' s o e (.tuple #[.agg (thL 0 q0).toArray,.int .i64 e]):=by
 refine ⟨q0,?_,?_,⟨Rd.nil _ _ _,by simp⟩,(fun _ _ _ e=>by cases e),(fun _ _ _ e=>by cases e)⟩
 ·have:Xti s o=0:=by unfold Xti; rw [h]
  rw [this]
 ·unfold stQ; rw [h]; rfl
theorem Xt3 {F Fr:Nat→Prop} {w0 w:World} {S:Sto} {s:StM} {by':Int} {mo:Mo} {pd:Option (Nat × PlcM)} (h0:XbC F Fr w0 S s by' mo) (hw0:Chg XaX w0 w) (hs:s.OkP S.c pd) (o:Int):Xan Tryz.prog 98 #[XtA S,.int .i64 o] w (fun v w'=>Xa2 F w0 s o (XmC s o) v∧Chg XaX w w'):=by
 have a0:=hs.tl;have h:=h0.grow hw0;refine ζe Tryz.func98 Tryz.ntmps98 rfl (ζn rfl fun b w1 e1 y d a1 => ?_);have C:=h.grow d;by_cases g:o<0∨S.c.slots≤o
 ·have l:XmC s o=1:=by unfold XmC; rw [if_pos (by omega)]
  have f:Xtl s o=none:=by
   unfold Xtl;split
   ·rw [List.getD_eq_getElem?_getD,List.getElem?_eq_none (by omega)]; rfl
   ·rfl
  rw [l];refine ζg rfl (fun m => ?_) fun m => ?_
  ·exact ζb rfl (ζs y rfl fun D c a n=>ζR Tryz.func98 c rfl ⟨Xmv f,d.since a (fun z p e=>by omega)⟩)
  ·have a2:=of_decide_eq_false m;exact ζl C.obj rfl (ζy rfl (ζb rfl (ζs y rfl fun D c a n=>ζR Tryz.func98 c rfl ⟨Xmv f,d.since a (fun z p e=>by omega)⟩)))
 ·obtain ⟨j,rfl⟩:=Int.eq_ofNat_of_zero_le (show 0≤o by omega);refine ζf rfl (ζl C.obj rfl (ζf rfl (ζl C.obj rfl ?_)));obtain ⟨al,E,a3,H,I⟩:=h0.th;have A:=E.chg (hw0.trans d) id;cases k:s.th[j]? with
  |none=>exact absurd k (by rw [List.getElem?_eq_none_iff]; omega)
  |some x =>
   cases x with
   |none =>
    have f:Xtl s (j:Nat)=none:=by
     unfold Xtl;rw [if_pos (by omega),Int.toNat_natCast,List.getD_eq_getElem?_getD,k]; rfl
    have l:XmC s (j:Nat)=9:=by unfold XmC; rw [if_neg (by omega),f]
    have M:Xcj al (j:Nat)=none:=I _ fun N t1 m e=>by
     have:N=j:=by omega
     subst this;rw [k] at m; cases m
    rw [l];exact Xay.lookup hTT rfl (A) ((show Xj6 al _ _ true = .tuple #[.agg (thL 0 q0).toArray,.bool false] from by unfold Xj6; rw [M]; rfl)) rfl (ζn rfl fun O D e2 c a n=>ζs c rfl fun P B i J=>ζy rfl (ζb rfl (ζs (i.heap (a.heap' y) (by omega)) rfl fun Q r u K=>ζR Tryz.func98 r rfl ⟨Xmv f,((d.trans a).since i (fun z p e=>by omega)).since u (fun z p e=>by omega)⟩)))
   |some t =>
    have f:=XuT k;have l:XmC s (j:Nat)=0:=by unfold XmC; rw [if_neg (by omega),f]
    have L:Xti s (j:Nat)=t.size:=by unfold Xti; rw [f]
    obtain ⟨q,R,T,U,V,W⟩:=H j t k;rw [l];refine Xay.lookup hTT rfl (A) ((show Xj6 al _ _ true = .tuple #[.agg (thL t.size q).toArray,.bool true] from by unfold Xj6; rw [T]; rfl)) rfl (ζn rfl fun O D e2 c a n=>ζs c rfl fun P B i J=>ζf rfl (ζl B rfl (ζs (i.heap (a.heap' y) (by omega)) rfl fun Q r u K => ?_)));have G:=((d.trans a).since i (fun z p e=>by omega)).since u (fun z p e=>by omega);exact ζR Tryz.func98 r rfl ⟨⟨q,by rw [L]; rfl,R.trans (Xta k).symm,U,V,W⟩,G⟩
theorem Xt8 {F Fr:Nat→Prop} {w0 w:World} {S:Sto} {s:StM} {by':Int} {mo:Mo} {pd:Option (Nat × PlcM)} (h:XbC F Fr w0 S s by' mo) (hw0:Chg XaX w0 w) (hs:s.OkP S.c pd) (o i n:Int) (hi : -9223372036854775808≤i∧i≤9223372036854775807) (hn : -9223372036854775808≤n∧n≤9223372036854775807):Xan Tryz.prog 125 #[XtA S,.int .i64 o,.int .i64 i,.int .i64 n] w (fun v w'=>Xa2 F w0 s o (Xwd s o i n) v∧Chg XaX w w'):=by
 have Q:0≤Xti s o∧Xti s o≤1152921504606846976:=by
  unfold Xti;cases ht:Xtl s o with
  |none=>simp
  |some t =>
   obtain ⟨j,_,_,O⟩:=XuU ht;have:=hs.size j t O;have:=(XkN hs.may).most;simp only
   omega
 refine ζe Tryz.func125 Tryz.ntmps125 rfl (ζn rfl fun b w1 e1 P p R=>ζc rfl (Xt3 h (hw0.trans p) hs o) ?_);rintro _ w2 ⟨⟨q,rfl,A,B,C,D⟩,m⟩;refine ζa rfl ?_;have I:=m.heap' P;have T:=m.size;refine ζn rfl fun b3 w3 e3 J r U=>ζs J rfl fun w4 k u V => ?_;have l:=u.heap (r.heap' I) (by omega);refine ζg rfl (fun G => ?_) fun G => ?_
 ·have K:XmC s o=0:=by simpa using G
  by_cases g:i<0∨n<0∨Xti s o<n∨Xti s o - n<i
  ·have e:Xwd s o i n=8:=by unfold Xwd; rw [if_neg (by omega),if_pos g]
   refine ζg rfl (fun L => ?_) fun L => ?_
   ·have a:=((p.trans m).trans r).since u (fun z x e=>by omega);refine ζl k rfl (ζs l rfl fun E d f y => ?_);have c:=a.since f (fun z x e=>by omega);exact ζR Tryz.func125 d rfl ⟨⟨q,by rw [e]; rfl,A,B,C,D⟩,c⟩
   ·have W:=of_decide_eq_false L;refine ζg rfl (fun M => ?_) fun M => ?_
    ·have a:=((p.trans m).trans r).since u (fun z x e=>by omega);refine ζl k rfl (ζs l rfl fun E d f y => ?_);have c:=a.since f (fun z x e=>by omega);exact ζR Tryz.func125 d rfl ⟨⟨q,by rw [e]; rfl,A,B,C,D⟩,c⟩
    ·have a0:=of_decide_eq_false M;refine ζl k rfl (ζg rfl (fun N => ?_) fun N => ?_)
     ·have a:=((p.trans m).trans r).since u (fun z x e=>by omega);refine ζl k rfl (ζs l rfl fun E d f y => ?_);have c:=a.since f (fun z x e=>by omega);exact ζR Tryz.func125 d rfl ⟨⟨q,by rw [e]; rfl,A,B,C,D⟩,c⟩
     ·have a1:=of_decide_eq_false N;refine ζl k rfl (ζj rfl (ζy rfl ?_));have a:=((p.trans m).trans r).since u (fun z x e=>by omega);refine ζl k rfl (ζs l rfl fun E d f y => ?_);have c:=a.since f (fun z x e=>by omega);exact ζR Tryz.func125 d rfl ⟨⟨q,by rw [e]; rfl,A,B,C,D⟩,c⟩
  ·have e:Xwd s o i n=0:=by unfold Xwd; rw [if_neg (by omega),if_neg g]
   refine ζf rfl (ζf rfl (ζl k rfl (ζf rfl (ζl k rfl (ζj rfl (ζf rfl ?_))))));have H:XmC s o=Xwd s o i n:=by rw [K,e]
   have a:=((p.trans m).trans r).since u (fun z x e=>by omega);refine ζl k rfl (ζs l rfl fun E d f y => ?_);have c:=a.since f (fun z x e=>by omega);exact ζR Tryz.func125 d rfl ⟨⟨q,by rw [← H]; rfl,A,B,C,D⟩,c⟩
 ·have e:XmC s o=Xwd s o i n:=by unfold Xwd; rw [if_pos (by simpa using G)]
  have a:=((p.trans m).trans r).since u (fun z x e=>by omega);refine ζl k rfl (ζs l rfl fun E d f y => ?_);have c:=a.since f (fun z x e=>by omega);exact ζR Tryz.func125 d rfl ⟨⟨q,by rw [← e]; rfl,A,B,C,D⟩,c⟩
theorem XtX {S:Sto} (fk:Nat) (caps:List Value) (w:World) (Q:Int→World→Prop) (hf:Xan Tryz.prog fk caps.toArray w (fun v w' => ∃ n:Int,v = .int .i64 n∧Q n w')):Xan Tryz.prog 90 #[XtA S,.func (.func fk) #[] caps.toArray] w (fun v w' => ∃ n:Int,v = .int .i64 n∧Q n w'):=by
 refine ζe Tryz.func90 Tryz.ntmps90 rfl (ζc rfl (hf) ?_);rintro _ b ⟨n,rfl,a⟩;exact ζa rfl (ζr Tryz.func90 rfl ⟨n,rfl,a⟩)
abbrev XsR (w:World) (b:Nat) (v:Value):Prop:=w.heap[b]? = some (.cells #[v] 82 (0,0))
theorem XtO {F Fr:Nat→Prop} {w:World} {S:Sto} {s:StM} {by':Int} {mo:Mo} (h:XbC F Fr w S s by' mo) (b:Nat) (hb:XsR w b (XtA S)):Xan Tryz.prog 91 [.pointer (some ⟨b,0,none⟩)].toArray w (fun v w' => ∃ n:Int,v = .int .i64 n∧n=(XhV s.rm.pl:Nat)∧w=w'):=by
 exact ζe Tryz.func91 Tryz.ntmps91 rfl (ζk rfl (Xek (off:=0) hb rfl) rfl (ζl h.obj rfl (ζw (Xqj h.room) rfl (ζr Tryz.func91 rfl ⟨_,rfl,rfl,rfl⟩))))
theorem XtN {F Fr:Nat→Prop} {w:World} {S:Sto} {s:StM} {by':Int} {mo:Mo} (h:XbC F Fr w S s by' mo):Xan Tryz.prog 41 #[XtA S] w (Grow (.int .i64 (XhV s.rm.pl:Nat)) w):=by
 refine ζe Tryz.func41 Tryz.ntmps41 rfl (ζn rfl fun b d e1 c a e=>ζk rfl (Xek (off:=0) c rfl) rfl (ζc rfl (XtX (S:=S) 91 [.pointer (some ⟨b,0,none⟩)] d _ (XtO (h.grow a) b c)) ?_));rintro _ f ⟨n,rfl,rfl,rfl⟩;exact ζa rfl (ζr Tryz.func41 rfl ⟨rfl,a⟩)
theorem XtK {F Fr:Nat→Prop} {w:World} {S:Sto} {s:StM} {by':Int} {mo:Mo} (h:XbC F Fr w S s by' mo) (b:Nat) (hb:XsR w b (XtA S)):Xan Tryz.prog 118 [.pointer (some ⟨b,0,none⟩)].toArray w (fun v w' => ∃ n:Int,v = .int .i64 n∧n=by'∧w=w'):=by
 exact ζe Tryz.func118 Tryz.ntmps118 rfl (ζk rfl (Xek (off:=0) hb rfl) rfl (ζl h.obj rfl (ζr Tryz.func118 rfl ⟨_,rfl,rfl,rfl⟩)))
theorem XtJ {F Fr:Nat→Prop} {w:World} {S:Sto} {s:StM} {by':Int} {mo:Mo} (h:XbC F Fr w S s by' mo):Xan Tryz.prog 61 #[XtA S] w (Grow (.int .i64 by') w):=by
 refine ζe Tryz.func61 Tryz.ntmps61 rfl (ζn rfl fun b d e1 c a e=>ζk rfl (Xek (off:=0) c rfl) rfl (ζc rfl (XtX (S:=S) 118 [.pointer (some ⟨b,0,none⟩)] d _ (XtK (h.grow a) b c)) ?_));rintro _ f ⟨n,rfl,rfl,rfl⟩;exact ζa rfl (ζr Tryz.func61 rfl ⟨rfl,a⟩)
theorem Xt6 {F Fr:Nat→Prop} {w:World} {S:Sto} {s:StM} {by':Int} {mo:Mo} (h:XbC F Fr w S s by' mo) (old size:Int) (ho:old≤9223372036854775807) (hz:size≤9223372036854775807):Xan Tryz.prog 130 #[XtA S,.int .i64 old,.int .i64 size] w (Grow (.bool (Xtp S.c old size)) w):=by
 have d:=h.ca.1;have j:S.c.classes.length≤9223372036854775807:=by have:=XkN h.room.may; have:=this.n; rw [h.rc] at this; omega
 refine ζe Tryz.func130 Tryz.ntmps130 rfl (ζd 13 XaX (by kernel_rfl) rfl fun a=>δl a h.obj rfl (δv a (fun w' f=>Xe6 S.p.ca S.p.cc S.c.classes old w' (d.chg f) j) rfl (δl a h.obj rfl (δn a rfl fun m g=>ζv (Xe6 S.p.ca S.p.cc S.c.classes size m (d.chg g) j) rfl fun n k => ?_))));have b:=g.trans k;have l:=h.grow b;by_cases e1:XnI S.c.classes old=XnI S.c.classes size
 ·by_cases e2:XnI S.c.classes old = -1
  ·have e:Xtp S.c old size=decide (XkA old S.c.size=XkA size S.c.size):=by unfold Xtp; rw [decide_eq_true e1,Bool.true_and,decide_eq_false (fun h=>h e2),Bool.false_or]
   rw [e];exact ζd 20 XaX (by kernel_rfl) rfl fun a=>Xaq.yes hTT a rfl (by simpa using e1) rfl (Xaq.no hTT a rfl (by rw [e2]; rfl) rfl (δl a l.obj rfl (δw a (fun w' f=>Xes old S.c.size w' ho) rfl (δl a l.obj rfl (δn a rfl fun i c=>ζw (Xes size S.c.size i hz) rfl (ζr Tryz.func130 rfl ⟨rfl,b.trans c⟩))))))
  ·have e:Xtp S.c old size=true:=by unfold Xtp; rw [decide_eq_true e1,Bool.true_and,decide_eq_true e2,Bool.true_or]
   rw [e];exact ζd 20 XaX (by kernel_rfl) rfl fun a=>Xaq.yes hTT a rfl (by simpa using e1) rfl (Xaq.yes hTT a rfl (by simpa using e2) rfl (δn a rfl fun i c=>ζr Tryz.func130 rfl ⟨rfl,b.trans c⟩))
 ·have e:Xtp S.c old size=false:=by unfold Xtp; rw [decide_eq_false e1,Bool.false_and]
  rw [e];exact ζd 20 XaX (by kernel_rfl) rfl fun a=>Xaq.no hTT a rfl (by simpa using e1) rfl (δn a rfl fun i c=>ζr Tryz.func130 rfl ⟨rfl,b.trans c⟩)
theorem XtL {F Fr:Nat→Prop} {w:World} {S:Sto} {s:StM} {by':Int} {mo:Mo} {pd:Option (Nat × PlcM)} (h:XbC F Fr w S s by' mo) (hs:s.OkP S.c pd) (size:Int):Xan Tryz.prog 43 #[XtA S,.int .i64 size] w (Grow (.int .i64 (Xs1 S.c s size)) w):=by
 have f:=h.ca.1;have j:S.c.classes.length≤9223372036854775807:=by have:=XkN h.room.may; have:=this.n; rw [h.rc] at this; omega
 refine ζe Tryz.func43 Tryz.ntmps43 rfl (ζg rfl (fun c => ?_) fun c => ?_)
 ·have e:Xs1 S.c s size=3:=by unfold Xs1; rw [if_pos (.inl (of_decide_eq_true c))]
  rw [e];exact ζr Tryz.func43 rfl ⟨rfl,Chg.refl _ _⟩
 ·have k:=of_decide_eq_false c;refine ζl h.obj rfl (ζg rfl (fun d => ?_) fun d => ?_)
  ·have e:Xs1 S.c s size=3:=by unfold Xs1; rw [if_pos (.inr (of_decide_eq_true d))]
   rw [e];exact ζr Tryz.func43 rfl ⟨rfl,Chg.refl _ _⟩
  ·have l:=of_decide_eq_false d;have e:Xs1 S.c s size=if (Xs8 s (XnI S.c.classes size)).isSome then 0 else XpA S.c s.rm size:=by unfold Xs1; rw [if_neg (by omega)]
   rw [e];refine ζl h.obj rfl (ζv (Xe6 S.p.ca S.p.cc S.c.classes size w f j) rfl fun m a => ?_);have b:=h.grow a;refine ζw (Xt2 b hs (XnI S.c.classes size)) rfl ?_;cases hm:(Xs8 s (XnI S.c.classes size)).isSome with
   |true =>
    exact ζy rfl (ζr Tryz.func43 rfl ⟨rfl,a⟩)
   |false =>
    refine ζf rfl (ζl b.obj rfl ?_);have g:=Xqh b.room size;rw [b.rc] at g;exact ζv g rfl fun n i=>ζr Tryz.func43 rfl ⟨rfl,a.trans i⟩
theorem Xn9 (opn keep:Int) (w:World) (ho:0≤opn∧opn≤4611686018427387904) (hk:0≤keep∧keep≤4611686018427387904):Xan Tryz.prog 201 #[.int .i64 opn,.int .i64 keep] w (Xbs (.bool (XfP opn keep)) w):=by
 refine ζe Tryz.func201 Tryz.ntmps201 rfl (ζg rfl (fun a => ?_) fun a => ?_)
 ·have b:=of_decide_eq_true a;refine Xay.arith hTT rfl (Xws (by omega)) rfl (Xay.arith hTT rfl (Xws (by omega)) rfl (Xay.arith hTT rfl (Xws (by omega)) rfl ?_));have e:XfP opn keep=decide (opn - keep > 1):=by
   unfold XfP;rw [decide_eq_true (by omega),Bool.true_and];exact decide_eq_decide.2 (by omega)
  rw [e];exact ζr Tryz.func201 rfl ⟨rfl,rfl⟩
 ·have b:=of_decide_eq_false a;have e:XfP opn keep=false:=by unfold XfP; rw [decide_eq_false (by omega),Bool.false_and]
  rw [e];exact ζr Tryz.func201 rfl ⟨rfl,rfl⟩
section
variable {F Fr:Nat→Prop} {w w':World} {S:Sto} {s:StM} {by':Int} {mo:Mo} {pd:Option (Nat × PlcM)}
theorem XbC.kcell (h:XbC F Fr w S s by' mo) {k:Nat} (hk:k<s.keep.length):w.cell? ⟨S.kb,0+k,none⟩=some (.int .i64 (s.keep.getD k 0)):=by
 refine (Xel h.kee).trans ?_;rw [Nat.zero_add,List.getElem?_toArray,List.getElem?_append_left (by rw [List.length_map]; exact hk),List.getElem?_map,List.getElem?_eq_getElem hk,List.getD_eq_getElem?_getD,List.getElem?_eq_getElem hk];rfl
theorem XiX (hs:s.OkP S.c pd) {k:Nat} (hk:k<s.keep.length):0≤s.keep.getD k 0∧s.keep.getD k 0≤1024:=by
 rw [List.getD_eq_getElem?_getD,List.getElem?_eq_getElem hk];exact hs.kr _ (List.getElem_mem hk)
theorem Xmj (hs:s.OkP S.c pd) (k:Int):XpO s.rm k≤1024:=by
 unfold XpO;cases a:XpC s.rm k with
 |none=>simp
 |some x =>
  obtain ⟨j,rfl,c,b⟩:=XpI a;exact ((hs.rm.mok.sh j x b).1.few).2.1
theorem Xlx {k:Nat} {y:Option (Nat × MvM)} (hk:k<mo.length):XqS (fl Xlv mo) (0+k*6) (Xlv y)=some (fl Xlv (mo.set k y)):=by
 have:=XgJ (cells:=Xlv) Xlw (xs:=mo) (k:=k) (y:=y) (rest := []) hk
 simpa using this
theorem Xod (a b c:Int):Xa8 w ⟨a,b,c,none,0,[]⟩:=⟨Rd.nil _ _ _,by simp⟩
end
theorem XtY {F Fr:Nat→Prop} {w:World} {S:Sto} {s:StM} {by':Int} {mo:Mo} (h:XbC F Fr w S s by' mo) (hs:s.Ok S.c) (k:Nat) (hk:k<s.mv.length):Xan Tryz.prog 132 #[XtA S,.int .i64 (k:Nat)] w (fun _ w'=>XbB F w w' S (XsV S.c s k) by'):=by
 obtain ⟨f1,f2,f3⟩:=OkP.few hs;have V:k<s.keep.length:=by omega
 have ar:k<S.c.classes.length:=by have:=hs.ml; omega
 have c4:=XiX hs V;have c5:=Xmj hs (k:Nat);have no:∀ {w'},Chg XaX w w'→Xdj s k=false→XbB F w w' S (XsV S.c s k) by':=fun {w'} Q i=>by
  unfold XsV;rw [i];exact .of (h.grow Q) (Q.mono fun _ _ h=>h.elim)
 refine ζe Tryz.func132 Tryz.ntmps132 rfl ?_;cases hm:(Xs8 s (k:Nat)).isSome with
 |true =>
  have i:Xdj s k=false:=by
   unfold Xdj;cases hx:Xs8 s (k:Nat) with
   |none=>rw [hx] at hm; cases hm
   |some x=>rfl
  exact ζd 17 XaX (by kernel_rfl) rfl fun a=>δw a (fun w' c=>Xt2 (h.grow c) hs (k:Nat)) rfl (Xaq.yes hTT a rfl hm rfl (δn a rfl fun w1 d=>ζr Tryz.func132 rfl (no d i)))
 |false =>
  have av:(Xs8 s (k:Nat)).isNone=true:=by
   cases hx:Xs8 s (k:Nat) with
   |none=>rfl
   |some x=>rw [hx] at hm; cases hm
  refine ζd 17 XaX (by kernel_rfl) rfl fun a=>δw a (fun w' c=>Xt2 (h.grow c) hs (k:Nat)) rfl (Xaq.no hTT a rfl hm rfl (δl a h.obj rfl (δw a (fun w' c=>Xql (h.room.grow c) (k:Nat)) rfl (δl a h.obj rfl (δi k a rfl (δk a (h.kcell V) rfl (δn a rfl fun w1 d=>ζw (Xn9 (XpO s.rm (k:Nat):Nat) (s.keep.getD k 0) w1 (by omega) (by omega)) rfl ?_)))))));cases R:XfP (XpO s.rm (k:Nat):Nat) (s.keep.getD k 0) with
  |false =>
   have i:Xdj s k=false:=by unfold Xdj; rw [R,Bool.and_false,Bool.false_and]
   exact ζy rfl (ζr Tryz.func132 rfl (no d i))
  |true =>
   refine ζf rfl (ζl (d.heap' h.obj) rfl ?_);have J:=Xqp (h.room.grow d) (k:Nat);obtain ⟨⟨pf,fa,pt,ta⟩,ePl⟩:∃ p,p=Xp5 s.rm (k:Nat):=⟨_,rfl⟩;rw [Xp4,← ePl] at J;simp only at J
   refine ζv J rfl fun T W=>ζn rfl fun b w3 e3 aw ax c6=>ζs aw rfl fun w4 K ay c7 => ?_;have c8:=d.size;have c9:=W.size;have n:=((d.trans W).trans ax).since ay (fun z hz e=>by omega);cases hp:Xp2 s.rm (k:Nat) with
   |false =>
    have i:Xdj s k=false:=by unfold Xdj; rw [hp,Bool.and_false]
    exact ζy rfl (ζr Tryz.func132 rfl (no n i))
   |true =>
    have i:Xdj s k=true:=by unfold Xdj; rw [av,R,hp]; rfl
    refine ζf rfl ?_;obtain ⟨P,_,bl,⟨o,t,u,ca,a0⟩,hf,ht⟩:=Xdh hs i;have P1:=P.own;have P2:=P.n (o:Int) (by omega);have P3:=P.a (o:Int) (by omega);rw [← ePl] at P1 P2 P3 u a0 hf ht;simp only at P1 P2 P3 u a0 hf ht
    have h4:=h.grow n;have b4:¬ F b:=fun hz=>by have:=h.low b hz; omega
    refine ζd 9 XaX (by kernel_rfl) rfl fun a=>δl a h4.obj rfl (δl a K rfl (δl a K rfl (δn a rfl fun w5 H => ?_)));have U:=h4.grow H;have b5:=H.heap' K;refine ζw (Xqn U.room (k:Nat) pf fa) rfl ?_;rw [u];refine ζl U.obj rfl (ζc rfl (Xqq U.room (k:Nat) (o:Nat)) ?_);rintro _ w6 ⟨rfl,⟨Fr',hr,a7,q⟩⟩;refine ζa rfl ?_;have h6:=U.roomed hr a7 q;have L:=q.heap b5 (fun hz=>b4 (h.f1 _ hz));have I:=StM.OkP.begin hs k;have eB:XsV S.c s k={s with rm:=Xqa s.rm (k:Nat) (o:Nat),mv:=s.mv.set k (some (XlG S.c s.rm k))}:=by unfold XsV; rw [if_pos i,← ePl]; simp only; rw [u]
    rw [eB] at I ⊢;obtain ⟨m,em⟩:∃ m,m=XlG S.c s.rm k:=⟨_,rfl⟩;rw [← em] at I ⊢;have b8:=Xlp I (k:=k) (m:=m) (by show (s.mv.set k _)[k]? = _; rw [List.getElem?_set_self hk]);obtain ⟨_,_,_,mf,mt,ms,_⟩:=I.mv k m (by show (s.mv.set k _)[k]? = _; rw [List.getElem?_set_self hk]);have b9:m.who=o∧m.pf=pf∧m.fa=fa∧m.pt=pt∧m.ta=ta∧m.gone=0:=by rw [em]; unfold XlG; rw [← ePl]; exact ⟨u,rfl,rfl,rfl,rfl,rfl⟩
    obtain ⟨ba,a8,a9,aa,ab,bb⟩:=b9;rw [a8,a9] at mf;rw [aa,ab] at mt;refine ζd 10 XaX (by kernel_rfl) rfl fun a=>δl a h6.obj rfl (δl a L rfl (δl a L rfl (Xaq.build hTT a rfl rfl (δn a rfl fun w7 A => ?_))));have h7:=h6.grow A;have B:=XvG S.v ⟨(k:Nat),pf,fa,none,0,[]⟩ w7 h7.vw (Xod _ _ _);rw [h.vc,show XvA S.c ⟨(k:Nat),pf,fa,none,0,[]⟩=(m.f:Int) from mf.symm] at B;refine ζv B rfl fun w8 C => ?_;have h8:=h7.grow C;have N:=C.heap' (A.heap' L);refine ζd 10 XaX (by kernel_rfl) rfl fun a=>δl a h8.obj rfl (δl a N rfl (δl a N rfl (Xaq.build hTT a rfl rfl (δn a rfl fun w9 D => ?_))));have h9:=h8.grow D;have B:=XvG S.v ⟨(k:Nat),pt,ta,none,0,[]⟩ w9 h9.vw (Xod _ _ _);rw [h.vc,show XvA S.c ⟨(k:Nat),pt,ta,none,0,[]⟩=(m.t:Int) from mt.symm] at B;refine ζv B rfl fun ac f => ?_;have g:=h9.grow f;have ak:=f.heap' (D.heap' N);obtain ⟨cb,off,eca,ad⟩:=g.ca.1 k ar;have esz:S.c.classes.getD k 0=(m.size:Int):=by rw [ms]; unfold Xfb; rw [Int.toNat_natCast]
    rw [esz] at ad;refine ζd 19 XaX (by kernel_rfl) rfl fun a=>δl a g.obj rfl (δl a g.obj rfl ?_);rw [eca];refine δi k a rfl ?_;refine Xaq.load hTT a rfl ad (by first | exact fun h=>h | (intro h; omega) | assumption) rfl ?_;have al:Xli s.bs.length m.f m.t m.size=true:=Xlj.2 (by obtain ⟨l1,l2,l3,l4⟩:=b8; simp only at l1 l2; omega);have R:∀ w',Chg XaX ac w'→Xan Tryz.prog 206 #[.pointer (some ⟨S.A.ab,0,none⟩),.int .i64 m.f,.int .i64 m.t,.int .i64 m.size] w' (fun v T=>Chg XaX w' T ∧ ∃ M:Mv,v = .tuple #[.pointer (some ⟨M.mv,0,none⟩),.int .i64 0]∧M.f=m.f∧M.t=m.t∧M.size=m.size∧ac.heap.size≤M.mv∧XaU T S.A (arV S {s with rm:=Xqa s.rm (k:Nat) (o:Nat)}) M 0):=fun w' c =>
     (Xk9 S.A _ m.f m.t m.size w' (g.ar.grow c) al).mono fun v T ⟨M,e,a1,a2,a3,a4,a5,a6⟩=>⟨a6,M,e,a1,a2,a3,by have:=c.size; omega,a5⟩
    refine Xaq.callQ a rfl rfl (R) ?_;rintro _ cc E ⟨M,rfl,ae,af,ag,bf,l⟩;refine Xaq.adv hTT a rfl (δn a rfl fun cd r => ?_);have bg:=Xkj l.obj;have ah:=(g.adopt E bf bg).grow r;have am:=r.heap' (E.heap' ak);have l:=l.grow r;refine ζd 9 XaX (by kernel_rfl) rfl fun a=>δl a ah.obj rfl (δl a am rfl (Xaq.build hTT a rfl rfl (δn a rfl fun bh G => ?_)));have ai:=ah.grow G;have l:=l.grow G;have an:k<mo.length:=by rw [h.mol]; exact hk
    have ao:=Xlx (mo:=mo) (k:=k) (y:=some (M.mv,m)) an;refine Xay.index hTT rfl (j:=k*6) (by omega) (show (k:Int)<(s.mv.length:Nat) by omega) (by simp) rfl ?_;have hv:([.pointer (some ⟨M.mv,0,none⟩),.int .i64 (o:Nat),.int .i64 pf,.int .i64 fa,.int .i64 pt,.int .i64 ta]:List Value)=Xlv (some (M.mv,m)):=by unfold Xlv; simp only; rw [ba,a8,a9,aa,ab]
    refine ζS rfl ai.mvs (hv▸ao) rfl fun bi ap O bx => ?_;have bj:∀ b' m',some (M.mv,m)=some (b',m')→bh.heap[b']? = some (.cells (Xlh S.A (Xlg b' m') m'.gone).toArray 258 (0,0))∧((F b'∨Fr' b')∨b'=M.mv) ∧ ¬ Fr' b' ∧ ∀ (j:Nat) m'',mo[j]?≠some (some (b',m'')):=fun b' m' e=>by
     cases e
     refine ⟨?_,.inr rfl,fun hz=>by have:=hr.low _ hz; have:=A.size; have:=C.size; have:=D.size; have:=f.size; omega,fun j m'' hj => ?_⟩
     ·have:=l.obj;rw [bb];have eM:M=Xlg M.mv m:=by cases M; simp only at ae af ag; subst ae; subst af; subst ag; rfl
      rw [eM] at this;exact this
     ·have:=g.low _ (g.mob j _ m'' hj).2.1;omega
    have bk:=ai.setMv (x:=some (M.mv,m)) O ap bj;have aq:Chg F w w5:=(n.trans H).mono fun _ _ h=>h.elim;have Q:Chg F w bi:=by
     have c1:=aq.trans (q.mono fun z _ hz=>h.f1 z hz);have c2:=(((((A.trans C).trans D).trans f).trans E).trans r).trans G;exact (c1.trans (c2.mono fun _ _ h=>h.elim)).trans (O.mono fun z _ e=>e▸h.f2.2.2.2.2)
    have fF:∀ z,((F z∨Fr' z)∨z=M.mv)→F z∨w.heap.size≤z:=fun z hz=>by
     have:=n.size; have:=H.size; have:=A.size; have:=C.size; have:=D.size; have:=f.size; have:=q.size;rcases hz with (hz | hz) | rfl
     ·exact .inl hz
     ·exact (a7 z hz).imp (h.f1 z) (by omega)
     ·exact .inr (by omega)
    exact ζr Tryz.func132 rfl ⟨_,Fr',_,bk,fF,Q⟩
section
variable {F Fr:Nat→Prop} {w w':World} {S:Sto} {s:StM} {by':Int} {mo:Mo} {pd:Option (Nat × PlcM)}
theorem Xtx {A:Ar} {V:ArV} {M:Mv} {g k b:Nat} (hb:A.mb=some b):Xtw A V M g k=⟨Xtr V.bs M.f M.t g k,XeA V.total k,V.lap⟩:=by
 unfold Xtw Xtr;by_cases h:k=0
 ·subst h;rw [if_pos rfl,if_pos rfl];exact ArV.eq rfl (XeB _).symm rfl
 ·rw [if_neg h,if_neg h];exact ArV.eq rfl (Xez hb) (V.charge_lap A _)
theorem XwB {A:Ar} {V:ArV} {M:Mv} {g i n b:Nat} (hb:A.mb=some b):XwA A V M g i n=⟨Xwy V.bs M.f M.t g i n,XeA V.total (Xwz i n g),V.lap⟩:=by
 unfold XwA Xwy;by_cases h:Xwz i n g=0
 ·rw [if_pos h,if_pos h,h];exact ArV.eq rfl (XeB _).symm rfl
 ·rw [if_neg h,if_neg h];exact ArV.eq rfl (Xez hb) (V.charge_lap A _)
theorem Xln (h:XbC F Fr w S s by' mo) {k:Nat} {m:MvM} (hm:s.mv[k]? = some (some m)):∃ b,mo[k]? = some (some (b,m)):=by
 have a:=(List.getElem?_eq_some_iff.1 hm).1;obtain ⟨x,c,e⟩:=h.mo_at a;rw [Xlr hm] at e;obtain ⟨⟨b,m'⟩,rfl,e'⟩:=Option.map_eq_some_iff.1 e;simp only at e'
 subst e';exact ⟨b,c⟩
theorem XbC.went (h:XbC F Fr w S s by' mo) {k b g:Nat} {m:MvM} {bs:List Int} {t:Int} (hx:mo[k]? = some (some (b,m))) (hM:XaU w' S.A ⟨bs,t,S.R.lap⟩ (Xlg b m) g) (hl:bs.length=s.bs.length) (hc:Chg (mFt S.A (Xlg b m)) w w') :
 XbC F Fr w' S {s with bs:=bs,rm:={s.rm with tot:=t},mv:=s.mv.set k (some {m with gone:=g})} by' (mo.set k (some (b,{m with gone:=g}))):=by
 have d:=(List.getElem?_eq_some_iff.1 hx).1;have l:∀ (j b':Nat) m',mo[j]? = some (some (b',m'))→j≠k → ¬ mFt S.A (Xlg b m) b':=fun j b' m' a c f=>by
  have kk:=h.kdm a;obtain ⟨_,_,n,_,_,o⟩:=h.kds;rcases f with (e | e) | e
  ·exact XiU kk n (by decide) e
  ·rw [h.amb] at e; cases e; exact XiU kk o (by decide) rfl
  ·exact c (h.mdj j k b' m' m a (e▸hx))
 have:=h.arena (bs:=bs) (t:=t) (mo2:=mo.set k (some (b,{m with gone:=g}))) hc (fun z f => ?_) hM.ar.dat hl hM.ar.rng (hM.ar.met _ h.amb) ?_ (by rw [List.length_set]) (fun j b' m' a => ?_)
 ·rw [Xk6,h.mom] at this;exact this
 ·rcases f with (e | e) | e
  ·exact .inl e
  ·rw [h.amb] at e; exact .inr (.inl (Option.some.inj e).symm)
  ·exact .inr (.inr ⟨k,m,e▸hx⟩)
 ·apply List.ext_getElem?
  intro i;have e1:=Xlx (mo:=mo) (k:=k) (y:=some (b,{m with gone:=g})) d;have e2:=Xlx (mo:=mo) (k:=k) (y:=some (b,m)) d;have e3:mo.set k (some (b,m))=mo:=by
   apply List.ext_getElem?
   intro j;by_cases e:k=j
   ·subst e; rw [List.getElem?_set_self d,hx]
   ·rw [List.getElem?_set_ne e]
  rw [e3] at e2;have e4:Xlv (some (b,{m with gone:=g}))=Xlv (some (b,m)):=rfl;rw [e4,e2] at e1;rw [← Option.some.inj e1]
 ·rcases Xk7 a with ⟨rfl,e,_⟩ | ⟨c,a⟩
  ·cases e
   exact ⟨hM.obj,m,hx⟩
  ·exact ⟨hc.heap (h.mob j b' m' a).1 (l j b' m' a c),m',a⟩
end
theorem Xt4 {F Fr:Nat→Prop} {w:World} {S:Sto} {s:StM} {by':Int} {mo:Mo} (h:XbC F Fr w S s by' mo) (hs:s.Ok S.c) {k:Nat} {m:MvM} (hm:s.mv[k]? = some (some m)) (n:Int):Xan Tryz.prog 133 #[XtA S,.int .i64 (k:Nat),.int .i64 n] w (fun v w'=>v = .int .i64 (goN m n:Nat)∧XbB F w w' S (Xs3 s k n) by'):=by
 obtain ⟨f1,f2,f3⟩:=OkP.few hs;have hk:=(List.getElem?_eq_some_iff.1 hm).1;obtain ⟨b,Q⟩:=Xln h hm;obtain ⟨⟨o,t,ew,et,eq⟩,ea,en,_,_,_,bc⟩:=hs.mv k m hm;have aa:k<mo.length:=by rw [h.mol]; exact hk
 have bd:=Xhl m n;have W:∀ z,mFt S.A (Xlg b m) z→F z:=fun z a=>a.elim (h.footF z) (fun e=>e▸(h.mob k b m Q).2.1);refine ζe Tryz.func133 Tryz.ntmps133 rfl (ζl h.obj rfl (Xay.index hTT rfl (j:=k*6) (by omega) (show (k:Int)<(s.mv.length:Nat) by omega) (by simp) rfl ?_));refine Xay.loadC hTT (Xlv (some (b,m))) rfl (by first | rfl | (simp; done) | (simp [*]; done) | (simp; omega)) ((fun j v hv=>by have hj:j<6:=(List.getElem?_eq_some_iff.1 hv).1; exact h.mcell Q hj hv)) rfl ?_;refine ζn rfl fun xb w1 e1 ab am be=>ζs ab rfl fun w2 a0 an bf => ?_;have B:=am.since an (fun z a e=>by omega);have h2:=h.grow B;have C:¬ F xb:=fun a=>by have:=h.low xb a; omega
 refine ζl a0 rfl (ζc rfl (Xla S.A (arV S s) (Xlg b m) m.gone n w2 (h2.mvOk hs Q)) ?_);rintro _ w3 ⟨rfl,a1,D⟩;refine ζa rfl ?_;have E:XaU w3 S.A ⟨Xtr s.bs m.f m.t m.gone (goN m n),XeA s.rm.tot (goN m n:Nat),S.R.lap⟩ (Xlg b m) (m.gone+goN m n):=by
  rw [Xtx h.amb] at a1; exact a1
 obtain ⟨l1,l2,l3,_⟩:=Xlp hs hm;have h3:=h2.went Q E (Xtt (size:=m.size) (by omega) l1 l2) D;have G:=D.heap a0 (fun a=>C (W _ a));have ac:=(B.mono fun _ _ h=>h.elim).trans (D.mono fun z _ a=>W z a);refine ζl G rfl (ζv (Xk8 S.A _ (Xlg b m) (m.gone+goN m n) w3 E) rfl fun w4 H => ?_);have R:=h3.grow H;have d:=H.heap' G;have I:=ac.trans (H.mono fun _ _ h=>h.elim);by_cases a2:m.gone+goN m n<m.size
 ·have eG:Xs3 s k n={Xtk s m n with mv:=s.mv.set k (some {m with gone:=m.gone+goN m n})}:=by unfold Xs3; rw [Xlr hm]; simp only; rw [if_pos a2]
  rw [eG];exact ζF rfl (by show ((((m.size - (m.gone+goN m n):Nat):Int) == 0)=false); simp; omega) (ζr Tryz.func133 rfl ⟨rfl,.of R I⟩)
 ·have eG:Xs3 s k n={Xtk s m n with mv:=s.mv.set k none,th:=s.th.set m.who.toNat (some ⟨Xti s m.who,⟨k,m.pt,m.ta,[]⟩⟩),rm:=XpJ (Xtk s m n).rm k m.pf m.fa}:=by unfold Xs3; rw [Xlr hm]; simp only; rw [if_neg a2]
  rw [eG];refine ζY rfl (by show ((((m.size - (m.gone+goN m n):Nat):Int) == 0)=true); simp; omega) ?_;have aq:=(List.getElem?_eq_some_iff.1 et).1;have ar:m.who.toNat=o:=by omega
  have au:Xti s m.who=t.size:=by unfold Xti; rw [ew,XuT et]
  rw [ar,au];obtain ⟨al,a3⟩:=R.th;obtain ⟨q,q1,q2,q3,q4,q5⟩:=a3.2.2.1 o t et;refine ζd 8 XaX (by kernel_rfl) rfl fun c=>δl c R.obj rfl (δl c d rfl (Xaq.lookup hTT c rfl (a3.1) (by first | (intro b h; cases h; assumption) | (intro b h hs; cases h; omega)) ((show Xj6 al _ m.who false = .agg (thL t.size q).toArray from by unfold Xj6; rw [ew,q2]; rfl)) rfl (Xaq.turn1 c rfl fun w5 r=>XbO.alloc hTT c rfl (fun _=>rfl) fun tb w6 e6 ad av bg=>δn c rfl fun w7 a4 => ?_)));have J:=(r.trans av).trans a4;have ae:=J.heap' d;have af:=a4.heap' ad;have aw:tb≠xb:=by have:=Xkj d; have:=r.size; omega
  refine ζs af rfl fun w8 ag a5 bh => ?_;have K:=a5.heap ae (fun e=>aw e.symm);refine ζl K rfl (ζl K rfl (ζb rfl (ζs ag rfl fun w9 ah ax bi => ?_)));have g:=(J.since a5 (fun z a e=>by have:=r.size; omega)).since ax (fun z a e=>by have:=r.size; omega);have h9:=R.grow g;have L:=g.heap' d;refine ζd 7 XaX (by kernel_rfl) rfl fun c=>δl c h9.obj rfl (δl c L rfl (δl c ah rfl (δn c rfl fun bj i => ?_)));have M:=h9.grow i;have T:=i.heap' L;obtain ⟨al',N⟩:=M.th;refine Xay.mapset hTT rfl (N.1) fun bk u f b9=>ζa rfl ?_;rw [ew] at u;have ai:=N.put (o:=o) (size:=t.size) (q:=⟨(k:Nat),m.pt,m.ta,none,0,[]⟩) (qm:=⟨(k:Nat),m.pt,m.ta,[]⟩) rfl aq u f M.f2.2.2.2.1 (Xod _ _ _) (fun _ _ _ e=>by cases e) (fun _ _ _ e=>by cases e);have O:=M.setTh f ai;have U:=f.heap T (fun e=>C (e▸h.f2.2.2.2.1));refine ζl O.obj rfl (ζb rfl ?_);have V:k<(mo.set k (some (b,{m with gone:=m.gone+goN m n}))).length:=by rw [List.length_set]; exact aa
  have bl:(s.mv.set k (some {m with gone:=m.gone+goN m n})).length=s.mv.length:=List.length_set;refine Xay.index hTT rfl (j:=k*6) (by omega) (show (k:Int)<((s.mv.set k (some {m with gone:=m.gone+goN m n})).length:Nat) by omega) (by simp) rfl (ζS rfl O.mvs (Xlx (y:=none) V) rfl fun bm aj l ba => ?_);have a6:=O.setMv (x:=none) l aj (fun _ _ e=>by cases e);have A:=l.heap U (fun e=>C (e▸h.f2.2.2.2.2));refine ζd 11 XaX (by kernel_rfl) rfl fun c=>δl c a6.obj rfl (δl c A rfl (δl c A rfl (δn c rfl fun bn p => ?_)));have a7:=a6.grow p;refine ζc rfl (Xqi a7.room (k:Nat) m.pf m.fa) ?_;rintro _ bo ⟨rfl,⟨Fr',hr,a8,P⟩⟩;refine ζa rfl ?_;have az:=a7.roomed hr a8 P;have b0:=(I.trans (g.mono fun _ _ h=>h.elim)).trans (i.mono fun _ _ h=>h.elim);have a9:=(b0.trans (f.mono fun z _ e=>e▸h.f2.2.2.2.1)).trans (l.mono fun z _ e=>e▸h.f2.2.2.2.2);have b1:=(a9.trans (p.mono fun _ _ h=>h.elim)).trans (P.mono fun z _ a=>h.f1 z a);have eS:({Xtk s m n with mv:=s.mv.set k none,th:=s.th.set o (some ⟨t.size,⟨(k:Nat),m.pt,m.ta,[]⟩⟩),rm:=XpJ (Xtk s m n).rm (k:Nat) m.pf m.fa}:StM)={keep:=s.keep,bs:=Xtr s.bs m.f m.t m.gone (goN m n),rm:=XpJ {s.rm with tot:=XeA s.rm.tot (goN m n:Nat)} (k:Nat) m.pf m.fa,th:=s.th.set o (some ⟨t.size,⟨(k:Nat),m.pt,m.ta,[]⟩⟩),mv:=(s.mv.set k (some {m with gone:=m.gone+goN m n})).set k none}:=by
   rw [List.set_set];rfl
  rw [eS];have fF:∀ z,(F z∨Fr' z)→F z∨w.heap.size≤z:=fun z a=>a.elim .inl (fun a=>(a8 z a).imp (h.f1 z) (fun hl=>by have:=a9.size; have:=p.size; omega));exact ζr Tryz.func133 rfl ⟨rfl,⟨_,Fr',_,az,fF,b1⟩⟩
theorem Xs5 {s:StM} {k:Nat} (h:Xs8 s (k:Nat)=none) (n:Int):Xs3 s k n=s:=by unfold Xs3; rw [h]
theorem Xs4 {s:StM} {k:Nat} {m:MvM} (h:Xs8 s (k:Nat)=some m) {n n':Int} (e:goN m n=goN m n'):Xs3 s k n=Xs3 s k n':=by
 unfold Xs3 Xtk;rw [h];simp only
 rw [e]
theorem Xhk {m:MvM}:goN m ((m.size - m.gone:Nat):Int)=goN m (m.size:Nat):=by unfold goN Xtv; omega
theorem Xt0 {F Fr:Nat→Prop} {w:World} {S:Sto} {s:StM} {by':Int} {mo:Mo} (h:XbC F Fr w S s by' mo) (hs:s.Ok S.c) (κ:Int):Xan Tryz.prog 123 #[XtA S,.int .i64 κ] w (fun _ w'=>XbB F w w' S (Xs0 s κ) by'):=by
 obtain ⟨f1,f2,l⟩:=OkP.few hs;refine ζe Tryz.func123 Tryz.ntmps123 rfl (ζw (Xt2 h hs κ) rfl ?_);cases hm:Xs8 s κ with
 |none =>
  have e:Xs0 s κ=s:=by unfold Xs0; rw [hm]
  rw [e];exact ζf rfl (ζr Tryz.func123 rfl (.of h (Chg.refl _ _)))
 |some m =>
  obtain ⟨k,rfl,n,a⟩:=Xlu hm;have e:Xs0 s (k:Nat)=Xs3 s k ((m.size - m.gone:Nat):Int):=by
   unfold Xs0;rw [hm];simp only [Int.toNat_natCast];exact Xs4 hm Xhk.symm
  rw [e];obtain ⟨b,d⟩:=Xln h a;refine ζy rfl (ζl h.obj rfl (Xay.index hTT rfl (j:=k*6) (by omega) (show (k:Int)<(s.mv.length:Nat) by omega) (by simp) rfl (ζk rfl (h.mcell d (i:=0) (by decide) rfl) rfl (ζv (Xk8 S.A (arV S s) (Xlg b m) m.gone w (h.mvOk hs d)) rfl fun o c => ?_))));refine ζc rfl (Xt4 (h.grow c) hs a ((m.size - m.gone:Nat):Int)) ?_;rintro _ p ⟨rfl,f⟩;exact ζa rfl (ζr Tryz.func123 rfl (.trans (fun _ g => .inl g) (c.mono fun _ _ h=>h.elim) f))
theorem XtZ {F Fr:Nat→Prop} {w:World} {S:Sto} {s:StM} {by':Int} {mo:Mo} {o:Nat} (h:XbC F Fr w S s by' mo) (q:Plc) (hs:s.OkP S.c (some (o,Xoe q))) (hq:Xa8 w q):Xan Tryz.prog 124 #[XtA S,.agg (Xoc q).toArray] w (fun _ w'=>XbB F w w' S (XsZ S.c s (Xoe q)) by'):=by
 obtain ⟨f1,f2,f3⟩:=OkP.few hs;have J:=hs.dropped;refine ζe Tryz.func124 Tryz.ntmps124 rfl (ζn rfl fun b w1 e1 A i a2 => ?_);have j:¬ F b:=fun c=>by have:=h.low b c; omega
 have K:=h.grow i;refine ζd 5 XaX (by kernel_rfl) rfl fun f=>δl f K.obj rfl (δl f A rfl (δn f rfl fun w2 d => ?_));have L:=K.grow d;have B:=d.heap' A;refine ζc rfl (Xqg L.room q (hq.grow (i.trans d))) ?_;rintro _ w3 ⟨rfl,⟨Fr',W,l,g⟩⟩;refine ζa rfl ?_;have M:=L.roomed W l g;have p:=g.heap B (fun c=>j (h.f1 _ c));have a3:=d.size;have a4:=g.size;have r:∀ z,(F z∨Fr' z)→F z∨w.heap.size≤z:=fun z c=>c.elim .inl (fun c=>(l z c).imp (h.f1 z) (by omega));have H:¬ (F b∨Fr' b):=fun c=>c.elim j (fun c=>(l b c).elim (fun c=>j (h.f1 _ c)) (by have:=Xkj B; omega));have t:=((i.trans d).mono fun _ _ h=>h.elim).trans (g.mono fun z _ c=>h.f1 z c);refine ζl p rfl ?_;by_cases u:q.cls = -1
 ·have e:XsZ S.c s (Xoe q)={s with rm:=Xpw s.rm (Xoe q)}:=by unfold XsZ; rw [if_pos (show (Xoe q).cls<0 by show q.cls<0; omega)]
  rw [e];exact ζY rfl (by rw [u]; rfl) (ζr Tryz.func124 rfl ⟨_,Fr',mo,M,r,t⟩)
 ·obtain ⟨_,p2,_,_⟩:=hs.ps o (Xoe q) rfl u;obtain ⟨_,k0,N⟩:=XmI hs (k:=(Xoe q).cls) (n:=(Xoe q).page) (a:=(Xoe q).idx) (by rw [p2]; omega);obtain ⟨k,I⟩:=Int.eq_ofNat_of_zero_le (show 0≤q.cls from k0);replace N:q.cls<S.c.classes.length:=N;have O:k<s.mv.length:=by have:=hs.ml; omega
  have e:XsZ S.c s (Xoe q)=Xs3 (XsV S.c {s with rm:=Xpw s.rm (Xoe q)} k) k S.c.step:=by
   unfold XsZ;rw [if_neg (show ¬ (Xoe q).cls<0 by show ¬ q.cls<0; omega),show (Xoe q).cls.toNat=k by show q.cls.toNat=k; omega]
  rw [e];refine ζF rfl (by simpa using u) (ζl p rfl ?_);rw [I];refine ζc rfl (XtY M J k O) ?_;rintro _ w4 ⟨P,Q,R,y,T,C⟩;refine ζa rfl ?_;have D:=C.heap p H;have E:=J.begin k;have v:=t.since C (fun z c hf=>(r z hf).elim id (by omega));have x:∀ z,P z→F z∨w.heap.size≤z:=fun z c=>(T z c).elim (r z) (by omega);refine ζl D rfl ?_;rw [I];refine ζw (Xt2 y E (k:Nat)) rfl ?_;cases hm:Xs8 (XsV S.c {s with rm:=Xpw s.rm (Xoe q)} k) (k:Nat) with
  |none =>
   rw [Xs5 hm];exact ζf rfl (ζr Tryz.func124 rfl ⟨P,Q,R,y,x,v⟩)
  |some m =>
   obtain ⟨k',ek',a5,U⟩:=Xlu hm;obtain rfl:k=k':=by omega
   refine ζy rfl (ζd 8 XaX (by kernel_rfl) rfl fun f=>δl f D rfl (δl f y.obj rfl ?_));rw [I];refine δn f rfl fun w5 G => ?_;refine ζc rfl (Xt4 (y.grow G) E U S.c.step) ?_;rintro _ w6 ⟨rfl,V⟩;exact ζa rfl (ζr Tryz.func124 rfl (.trans x (v.trans (G.mono fun _ _ h=>h.elim)) V))
section
variable {F Fr:Nat→Prop} {w w':World} {S:Sto} {s:StM} {by':Int} {mo:Mo} {pd:Option (Nat × PlcM)}
theorem XuQ {a b:Int} {q r:Plc} (h:Value.agg (thL a q).toArray=Value.agg (thL b r).toArray):q.pa=r.pa:=by
 injection h with h
 have h:=congrArg Array.toList h;simp only [thL,Xoc,List.toList_toArray,List.cons.injEq,Value.slice.injEq] at h;exact h.2.2.2.2.1.1
theorem XbC.loc {F0 Fr0:Nat→Prop} {w0:World} {s0:StM} {by0:Int} {mo0:Mo} (h0:XbC F0 Fr0 w0 S s0 by0 mo0) (hm:∀ al,XaL w0 S.tm al→XaL w S.tm al) (h:XbC F Fr w S s by' mo) {b t:Nat} (hb:w0.heap.size≤b) (hF:¬ F b) (hk:kd w b=some (some t)) (ht:t≠329∧t≠325∧t≠3) (hc:Chg (fun z=>z=b) w w'):XbC F Fr w' S s by' mo:=by
 have d:=h0.room;have c:=XkN d.may;have B:=Xkj h0.ar.obj;have C:=Xkj h0.ar.cap;have D:=Xkj h0.vw.obj;have E:=Xkj d.obj;have G:S.R.sb<w0.heap.size:=by have:=World.block_lt_of_cell? w0 _ (d.sl 0 (by have:=c.n; have:=d.ok.n; omega)); exact this
 have H:1<w0.heap.size:=by have:=World.block_lt_of_cell? w0 _ (d.tab 0 (by decide)); exact this
 have f:=h0.rc;have far:∀ {a:Option Addr} {l:List Int},Far F0 w0 a l→0<l.length → ∀ off s,a≠some ⟨b,off,s⟩:=fun g p off s e=>by have:=g.1.block p e; omega
 refine h.other hc (fun z e=>e▸⟨hF,⟨by omega,by omega,by omega,by omega,by omega,by omega⟩,far h0.ca (by rw [f] at c; have:=c.n; omega),far h0.ka (by rw [f] at c; have:=c.keep; have:=c.n; omega),t,hk,ht⟩) ?_;intro al j k sz q i;obtain ⟨m,r,I,u,v⟩:=h0.th;have:=(hm m r).uniq j;subst this;by_cases hk:∀ (o:Nat) t,s0.th[o]? = some (some t)→(o:Int)≠k
 ·rw [v k hk] at i; cases i
 ·simp only [Classical.not_forall,Decidable.not_not] at hk;obtain ⟨o,t,x,y⟩:=hk;obtain ⟨J,_,n,_,_,A⟩:=u o t x;rw [y,i] at n;have e:=XuQ (Option.some.inj n);rw [e];intro b' off s' e' K;have:=XiR (A b' off s' e');omega
theorem XtE (h:XbC F Fr w S s by' mo) (n:Int):Xan Tryz.prog 146 #[.pointer (some ⟨S.mb,0,none⟩),.int .i64 n] w (fun _ w'=>XbC (fun z=>F z∨Fr z) Fr w' S (XeQ s n) by' mo∧Chg Fr w w'):=by
 have hm:=Xqt h.room n;rw [h.rmo] at hm;exact hm.mono fun _ w' ⟨a,b⟩=>⟨h.roomed a (fun z c => .inl c) b,b⟩
end
theorem Xji (c:Conf) (s:StM) (o size:Int):(Xjh c s o size).th=s.th∧(Xjh c s o size).keep=s.keep∧(Xjh c s o size).bs=s.bs∧(Xjh c s o size).mv.length=s.mv.length:=by
 unfold Xjh;split
 ·exact ⟨rfl,rfl,rfl,List.length_set⟩
 ·exact ⟨rfl,rfl,rfl,rfl⟩
theorem Xt1 {F Fr:Nat→Prop} {w:World} {S:Sto} {s:StM} {by':Int} {mo:Mo} {pd pd2:Option (Nat × PlcM)} {o:Nat} {size:Int} (h:XbC F Fr w S s by' mo) (hs:s.OkP S.c pd) (ho:o<s.th.length) (hf:Xs1 S.c s size=0) (hL:(Xs6 S.c s (o:Nat) size).OkP S.c pd2) (hby:0≤by'∧by'≤1152921504606846976) :
 Xan Tryz.prog 99 #[XtA S,.int .i64 (o:Nat),.int .i64 size] w (fun _ w'=>XbB F w w' S (Xs6 S.c s (o:Nat) size) (by'+size)):=by
 obtain ⟨f1,f2,f3⟩:=OkP.few hs;have bp:=h.ca.1;have b6:=XkN hs.may;have P:=hs.may;have c6:=b6.most;have c7:=b6.n;have av:=h.vc;obtain ⟨ce,c8⟩:=Xgs hf;have bc:(Xs6 S.c s (o:Nat) size).th[o]? = some (some ⟨size,Xjg S.c s (o:Nat) size⟩):=by
  show (s.th.set (o:Int).toNat _)[o]? = _
  rw [Int.toNat_natCast,List.getElem?_set_self ho]
 obtain ⟨pv,ph,pf⟩:=Xn3 hL bc;simp only at pv ph pf
 refine ζe Tryz.func99 Tryz.ntmps99 rfl (ζl h.obj rfl (ζv (Xe6 S.p.ca S.p.cc S.c.classes size w bp (by omega)) rfl fun w1 a3 => ?_));have h1:=h.grow a3;refine ζn rfl fun b w2 e2 Q b7 cf => ?_;have M:=h1.grow b7;have K:¬ F b:=fun a=>by have:=h1.low b a; omega
 have N:=a3.trans b7;refine ζw (Xt2 M hs (XnI S.c.classes size)) rfl ?_;by_cases g:XuB S.c s size=none
 ·have eS:Xjh S.c s (o:Nat) size={s with rm:=XpX S.c s.rm (o:Nat) size}:=by unfold Xjh; rw [g]
  have eQ:Xjg S.c s (o:Nat) size=XpZ S.c s.rm (o:Nat) size:=by unfold Xjg; rw [g]
  have a4:(Xs8 s (XnI S.c.classes size)).isSome=false∨((Xs8 s (XnI S.c.classes size)).isSome=true∧XpO s.rm (XnI S.c.classes size)≠0):=by
   unfold XuB at g;cases hm:Xs8 s (XnI S.c.classes size) with
   |none=>exact .inl rfl
   |some m =>
    rw [hm] at g;simp only at g
    refine .inr ⟨rfl,fun e => ?_⟩;rw [if_pos e] at g;cases g
  have hP:=Xqo M.room (o:Nat) size;rw [h.rc] at hP;rcases a4 with a4 | ⟨a4,aw⟩
  ·rw [a4];refine ζf rfl (ζl M.obj rfl (ζc rfl (hP) ?_));rintro _ w3 ⟨q,rfl,l,⟨Fr',hr,C,E,a5,an,L⟩⟩;refine ζa rfl ?_;have h3:=M.roomed hr C E;have a6:=E.heap Q (fun a=>K (h.f1 _ a));have bf:=N.size;have ay:=a3.size;have bs:=E.size;have a7:∀ z,(F z∨Fr' z)→F z∨w.heap.size≤z:=fun z a=>a.elim .inl (fun a=>(C z a).imp (h.f1 z) (by omega));have G:¬ (F b∨Fr' b):=fun a=>a.elim K (fun a=>(C b a).elim (fun a=>K (h.f1 _ a)) (by have:=Xkj Q; omega));have n:Xa0 (fun z=>F z∨Fr' z) q.pa:=fun b' off s' e a=>a.elim (fun a=>by have:=M.low b' a; have:=L b' off s' e; omega) (an b' off s' e);have ao:XaD w3 q.pa:=fun b' off s' e=>(L b' off s' e).2;have H:Xa0 (fun z=>z=b) q.pa:=fun b' off s' e a=>by have:=L b' off s' e; have:=Xkj Q; omega
   refine ζs a6 rfl fun wt B D b8 => ?_;have a8:=XbC.loc h (fun al I=>(I.chg N id).chg E h.nr.2.2.2.1) h3 (by omega) G (XiO a6) (by decide) D;have O:Xa8 wt q:=⟨a5.rd.far H D,a5.len⟩;have a9:=ao.chg D H;have aa:=(((N.mono fun _ _ h=>h.elim).trans (E.mono fun z _ a=>h.f1 z a)).since D (fun z a e=>by omega));have R:q.pages.length≤4096:=by
    have e:q.pages=(Xjg S.c s (o:Nat) size).pages:=by rw [eQ,← l]; rfl
    rw [e]; exact pf
   rw [← eQ] at l;rw [← eS] at a8;have ht:=a8;have ab:=XvC (c:=S.c) (q:=q) P R;obtain ⟨hn,ehn⟩:=Int.eq_ofNat_of_zero_le ab.1;have ac:∀ w',Chg XaX wt w'→Xan Tryz.prog 159 #[vwV S.v,.agg (Xoc q).toArray] w' (Grow (.int .i64 ((hn:Nat):Int)) w'):=fun w' p=>by
    have:=XvH S.v q w' ((ht.grow p).vw) (O.grow p) (by omega);rw [av,ehn] at this;exact this
   have ad:XvE S.c q=true:=by rw [XvF,l]; exact pv
   obtain ⟨y1,y2,y3,y4⟩:=Xji S.c s (o:Nat) size;refine ζd 11 XaX (by kernel_rfl) rfl fun d=>δl d ht.obj rfl (δl d B rfl (δl d ht.obj rfl (δl d B rfl (δv d (fun w' p=>(ac w' p)) rfl (δn d rfl fun wa f => ?_)))));have ha:=ht.grow f;have af:=f.heap' B;refine ζc rfl (XtD ha P (by rw [y3]; exact hs.bl) q 0 hn (O.grow f) n (XeJ ad (by omega) (by omega) (by omega)) R) ?_;rintro _ wb ⟨rfl,T,r⟩;refine ζa rfl ?_;have ag:=r.heap af G;have H:Xa8 wb q:=⟨((O.grow f).rd).far n r,O.len⟩;refine ζd 8 XaX (by kernel_rfl) rfl fun d=>δl d T.obj rfl (δl d ag rfl (Xaq.build hTT d rfl rfl (δn d rfl fun wc t => ?_)));have u:=T.grow t;obtain ⟨al,U⟩:=u.th;refine Xay.mapset hTT rfl (U.1) fun wd I J b9=>ζa rfl ?_;have ah:=U.put (o:=o) (size:=size) (q:=q) (qm:=Xjg S.c s (o:Nat) size) l (by show o<(Xjh S.c s (o:Nat) size).th.length; rw [y1]; exact ho) I J u.f2.2.2.2.1 (H.grow t) n (((a9.grow f).chg r n).grow t);have A:=u.setTh J ah;refine ζl A.obj rfl (ζj rfl (ζs A.obj rfl fun wf ai V ba => ?_));have a1:=A.setBy (by2:=by'+size) V ai;have aj:=(((f.mono fun _ _ h=>h.elim).trans r).trans (t.mono fun _ _ h=>h.elim)).trans ((J.mono fun z _ e=>e▸u.f2.2.2.2.1).trans (V.mono fun z _ e=>e▸A.f2.1));have eL:Xs6 S.c s (o:Nat) size={Xs9 S.c (Xjh S.c s (o:Nat) size) (Xoe q) 0 (XwU hn) with th:=(Xjh S.c s (o:Nat) size).th.set o (some ⟨size,Xjg S.c s (o:Nat) size⟩)}:=by
    unfold Xs6;rw [y1,l,Int.toNat_natCast,← l,← XvD,ehn,Int.toNat_natCast]
   rw [eL];exact ζr Tryz.func99 rfl (.trans a7 aa (.of a1 aj))
  ·rw [a4];refine ζy rfl (ζl M.obj rfl (ζw (Xql M.room (XnI S.c.classes size)) rfl (ζF rfl (by simpa using aw) (ζl M.obj rfl (ζc rfl (hP) ?_)))));rintro _ w3 ⟨q,rfl,l,⟨Fr',hr,C,E,a5,an,L⟩⟩;refine ζa rfl ?_;have h3:=M.roomed hr C E;have a6:=E.heap Q (fun a=>K (h.f1 _ a));have bf:=N.size;have ay:=a3.size;have bs:=E.size;have a7:∀ z,(F z∨Fr' z)→F z∨w.heap.size≤z:=fun z a=>a.elim .inl (fun a=>(C z a).imp (h.f1 z) (by omega));have G:¬ (F b∨Fr' b):=fun a=>a.elim K (fun a=>(C b a).elim (fun a=>K (h.f1 _ a)) (by have:=Xkj Q; omega));have n:Xa0 (fun z=>F z∨Fr' z) q.pa:=fun b' off s' e a=>a.elim (fun a=>by have:=M.low b' a; have:=L b' off s' e; omega) (an b' off s' e);have ao:XaD w3 q.pa:=fun b' off s' e=>(L b' off s' e).2;have H:Xa0 (fun z=>z=b) q.pa:=fun b' off s' e a=>by have:=L b' off s' e; have:=Xkj Q; omega
   refine ζs a6 rfl fun wt B D b8 => ?_;have a8:=XbC.loc h (fun al I=>(I.chg N id).chg E h.nr.2.2.2.1) h3 (by omega) G (XiO a6) (by decide) D;have O:Xa8 wt q:=⟨a5.rd.far H D,a5.len⟩;have a9:=ao.chg D H;have aa:=(((N.mono fun _ _ h=>h.elim).trans (E.mono fun z _ a=>h.f1 z a)).since D (fun z a e=>by omega));have R:q.pages.length≤4096:=by
    have e:q.pages=(Xjg S.c s (o:Nat) size).pages:=by rw [eQ,← l]; rfl
    rw [e]; exact pf
   rw [← eQ] at l;rw [← eS] at a8;have ht:=a8;have ab:=XvC (c:=S.c) (q:=q) P R;obtain ⟨hn,ehn⟩:=Int.eq_ofNat_of_zero_le ab.1;have ac:∀ w',Chg XaX wt w'→Xan Tryz.prog 159 #[vwV S.v,.agg (Xoc q).toArray] w' (Grow (.int .i64 ((hn:Nat):Int)) w'):=fun w' p=>by
    have:=XvH S.v q w' ((ht.grow p).vw) (O.grow p) (by omega);rw [av,ehn] at this;exact this
   have ad:XvE S.c q=true:=by rw [XvF,l]; exact pv
   obtain ⟨y1,y2,y3,y4⟩:=Xji S.c s (o:Nat) size;refine ζd 11 XaX (by kernel_rfl) rfl fun d=>δl d ht.obj rfl (δl d B rfl (δl d ht.obj rfl (δl d B rfl (δv d (fun w' p=>(ac w' p)) rfl (δn d rfl fun wa f => ?_)))));have ha:=ht.grow f;have af:=f.heap' B;refine ζc rfl (XtD ha P (by rw [y3]; exact hs.bl) q 0 hn (O.grow f) n (XeJ ad (by omega) (by omega) (by omega)) R) ?_;rintro _ wb ⟨rfl,T,r⟩;refine ζa rfl ?_;have ag:=r.heap af G;have H:Xa8 wb q:=⟨((O.grow f).rd).far n r,O.len⟩;refine ζd 8 XaX (by kernel_rfl) rfl fun d=>δl d T.obj rfl (δl d ag rfl (Xaq.build hTT d rfl rfl (δn d rfl fun wc t => ?_)));have u:=T.grow t;obtain ⟨al,U⟩:=u.th;refine Xay.mapset hTT rfl (U.1) fun wd I J b9=>ζa rfl ?_;have ah:=U.put (o:=o) (size:=size) (q:=q) (qm:=Xjg S.c s (o:Nat) size) l (by show o<(Xjh S.c s (o:Nat) size).th.length; rw [y1]; exact ho) I J u.f2.2.2.2.1 (H.grow t) n (((a9.grow f).chg r n).grow t);have A:=u.setTh J ah;refine ζl A.obj rfl (ζj rfl (ζs A.obj rfl fun wf ai V ba => ?_));have a1:=A.setBy (by2:=by'+size) V ai;have aj:=(((f.mono fun _ _ h=>h.elim).trans r).trans (t.mono fun _ _ h=>h.elim)).trans ((J.mono fun z _ e=>e▸u.f2.2.2.2.1).trans (V.mono fun z _ e=>e▸A.f2.1));have eL:Xs6 S.c s (o:Nat) size={Xs9 S.c (Xjh S.c s (o:Nat) size) (Xoe q) 0 (XwU hn) with th:=(Xjh S.c s (o:Nat) size).th.set o (some ⟨size,Xjg S.c s (o:Nat) size⟩)}:=by
    unfold Xs6;rw [y1,l,Int.toNat_natCast,← l,← XvD,ehn,Int.toNat_natCast]
   rw [eL];exact ζr Tryz.func99 rfl (.trans a7 aa (.of a1 aj))
 ·obtain ⟨m,g⟩:=Option.ne_none_iff_exists'.1 g;have eS:Xjh S.c s (o:Nat) size=XeQ {s with mv:=s.mv.set (XnI S.c.classes size).toNat none,rm:=XpP s.rm (XnI S.c.classes size) m.pt m.ta (o:Nat)} 3:=by unfold Xjh; rw [g]
  have eQ:Xjg S.c s (o:Nat) size=⟨XnI S.c.classes size,m.pt,m.ta,[]⟩:=by unfold Xjg; rw [g]
  obtain ⟨hm,aw⟩:Xs8 s (XnI S.c.classes size)=some m∧XpO s.rm (XnI S.c.classes size)=0:=by
   unfold XuB at g;cases hm:Xs8 s (XnI S.c.classes size) with
   |none=>rw [hm] at g; cases g
   |some m' =>
    rw [hm] at g;simp only at g
    split at g
    ·rename_i ho; cases g; exact ⟨rfl,ho⟩
    ·cases g
  obtain ⟨k,ek,hk,bv⟩:=Xlu hm;obtain ⟨mb,hx⟩:=Xln M bv;have bg:k<mo.length:=by rw [h.mol]; exact hk
  rw [hm];refine ζy rfl (ζl M.obj rfl (ζw (Xql M.room (XnI S.c.classes size)) rfl (ζY rfl (by rw [aw]; rfl) (ζl M.obj rfl ?_))));rw [ek,Int.toNat_natCast] at eS;rw [ek] at eQ;rw [ek];refine Xay.index hTT rfl (j:=k*6) (by omega) (show (k:Int)<(s.mv.length:Nat) by omega) (by simp) rfl ?_;refine Xay.loadC hTT ([.int .i64 m.pf,.int .i64 m.fa,.int .i64 m.pt,.int .i64 m.ta]) rfl (by first | rfl | (simp; done) | (simp [*]; done) | (simp; omega)) ((fun j v hv=>by have hj:j<4:=(List.getElem?_eq_some_iff.1 hv).1; show w2.cell? ⟨S.vb,0+k*6+2+j,none⟩=_; rw [Nat.add_assoc]; exact M.mcell hx (i:=2+j) (by omega) (by rw [← hv]; show ([.pointer (some ⟨mb,0,none⟩),.int .i64 m.who,.int .i64 m.pf,.int .i64 m.fa,.int .i64 m.pt,.int .i64 m.ta]:List Value)[2+j]? = _; rw [Nat.add_comm]; rfl))) rfl ?_;refine ζn rfl fun xb w3 e3 bh bx cg=>ζs bh rfl fun w4 bi bz ch => ?_;have ay:=a3.size;have ap:=bx.since bz (fun z a e=>by omega);have aq:=N.trans ap;have h4:=h.grow aq;have c0:=ap.heap' Q;have b2:¬ F xb:=fun a=>by have:=h.low xb a; omega
  refine ζl h4.obj rfl (ζb rfl (Xay.index hTT rfl (j:=k*6) (by omega) (show (k:Int)<(s.mv.length:Nat) by omega) (by simp) rfl (ζS rfl h4.mvs (Xlx (y:=none) bg) rfl fun w5 bj ak ci => ?_)));have h5:=h4.setMv (x:=none) ak bj (fun _ _ e=>by cases e);have a2:=ak.heap bi (fun e=>b2 (e▸h.f2.2.2.2.2));have c2:=ak.heap c0 (fun e=>K (e▸h.f2.2.2.2.2));refine ζd 10 XaX (by kernel_rfl) rfl fun d=>δl d h5.obj rfl (δl d a2 rfl (δl d a2 rfl (δn d rfl fun w6 W => ?_)));have h6:=h5.grow W;refine ζc rfl (Xqm h6.room (k:Nat) m.pt m.ta (o:Nat)) ?_;rintro _ w7 ⟨rfl,⟨Fr',hr,C,am⟩⟩;refine ζa rfl ?_;have h7:=h6.roomed hr C am;have bl:=am.heap (W.heap' a2) (fun a=>b2 (h.f1 _ a));have c4:=am.heap (W.heap' c2) (fun a=>K (h.f1 _ a));have cj:w2.heap.size≤w6.heap.size:=by have:=ap.size; have:=W.size; omega
  have b3:∀ z,Fr' z→F z∨w.heap.size≤z:=fun z a=>(C z a).imp (h.f1 z) (by omega);have ar:¬ Fr' b:=fun a=>(C b a).elim (fun a=>K (h.f1 _ a)) (by have:=Xkj Q; omega);have bm:¬ Fr' xb:=fun a=>(C xb a).elim (fun a=>b2 (h.f1 _ a)) (by have:=Xkj a2; have:=W.size; have:=Xkj (W.heap' a2); omega);refine ζl h7.obj rfl (ζc rfl (XtE h7 3) ?_);rintro _ w8 ⟨h8,au⟩;refine ζa rfl ?_;have b4:=au.heap bl bm;have bb:=au.heap c4 ar;refine ζl b4 rfl (ζl b4 rfl (ζb rfl (ζs bb rfl fun wt B D b8 => ?_)));obtain ⟨q,eq⟩:∃ q:Plc,q=⟨(k:Nat),m.pt,m.ta,none,0,[]⟩:=⟨_,rfl⟩;have l:Xoe q=Xjg S.c s (o:Nat) size:=by rw [eQ,eq]; rfl
  have O:Xa8 wt q:=eq▸Xod _ _ _;have L:∀ b' off s',q.pa≠some ⟨b',off,s'⟩:=fun b' off s' e=>by rw [eq] at e; cases e
  have a9:XaD wt q.pa:=fun b' off s' e=>absurd e (L b' off s');have n:Xa0 (fun z=>(F z∨Fr' z)∨Fr' z) q.pa:=fun b' off s' e=>absurd e (L b' off s');have R:q.pages.length≤4096:=by rw [eq]; simp
  replace B:wt.heap[b]? = some (.cells (Xoc q).toArray 98 (0,0)):=by rw [eq]; exact B
  have bn:∀ al,XaL w S.tm al→XaL w8 S.tm al:=fun al I=>((((I.chg aq id).chg ak (XiU h4.kds.2.2.2.1 h4.kds.2.2.2.2.1 (by simp))).chg W id).chg am h.nr.2.2.2.1).chg au (h7.nr.2.2.2.1);have G:¬ ((F b∨Fr' b)∨Fr' b):=fun a=>a.elim (fun a=>a.elim K ar) ar;have a7:∀ z,((F z∨Fr' z)∨Fr' z)→F z∨w.heap.size≤z:=fun z a=>a.elim (fun a=>a.elim .inl (b3 z)) (b3 z);have ht:=XbC.loc h bn h8 (by omega) G (XiO bb) (by decide) D;have bo:=((aq.mono fun _ _ h=>h.elim).trans (ak.mono fun z _ e=>e▸h.f2.2.2.2.2)).trans (W.mono fun _ _ h=>h.elim);have aa:=((bo.trans (am.mono fun z _ a=>h.f1 z a)).since au (fun z a hf=>(b3 z hf).elim id (by omega))).since D (fun z a e=>by omega);have c5:=eS;replace ht:XbC (fun z=>(F z∨Fr' z)∨Fr' z) Fr' wt S (Xjh S.c s (o:Nat) size) by' (mo.set k none):=by rw [c5]; exact ht
  have ab:=XvC (c:=S.c) (q:=q) P R;obtain ⟨hn,ehn⟩:=Int.eq_ofNat_of_zero_le ab.1;have ac:∀ w',Chg XaX wt w'→Xan Tryz.prog 159 #[vwV S.v,.agg (Xoc q).toArray] w' (Grow (.int .i64 ((hn:Nat):Int)) w'):=fun w' p=>by
   have:=XvH S.v q w' ((ht.grow p).vw) (O.grow p) (by omega);rw [av,ehn] at this;exact this
  have ad:XvE S.c q=true:=by rw [XvF,l]; exact pv
  obtain ⟨y1,y2,y3,y4⟩:=Xji S.c s (o:Nat) size;refine ζd 11 XaX (by kernel_rfl) rfl fun d=>δl d ht.obj rfl (δl d B rfl (δl d ht.obj rfl (δl d B rfl (δv d (fun w' p=>(ac w' p)) rfl (δn d rfl fun wa f => ?_)))));have ha:=ht.grow f;have af:=f.heap' B;refine ζc rfl (XtD ha P (by rw [y3]; exact hs.bl) q 0 hn (O.grow f) n (XeJ ad (by omega) (by omega) (by omega)) R) ?_;rintro _ wb ⟨rfl,T,r⟩;refine ζa rfl ?_;have ag:=r.heap af G;have H:Xa8 wb q:=⟨((O.grow f).rd).far n r,O.len⟩;refine ζd 8 XaX (by kernel_rfl) rfl fun d=>δl d T.obj rfl (δl d ag rfl (Xaq.build hTT d rfl rfl (δn d rfl fun wc t => ?_)));have u:=T.grow t;obtain ⟨al,U⟩:=u.th;refine Xay.mapset hTT rfl (U.1) fun wd I J b9=>ζa rfl ?_;have ah:=U.put (o:=o) (size:=size) (q:=q) (qm:=Xjg S.c s (o:Nat) size) l (by show o<(Xjh S.c s (o:Nat) size).th.length; rw [y1]; exact ho) I J u.f2.2.2.2.1 (H.grow t) n (((a9.grow f).chg r n).grow t);have A:=u.setTh J ah;refine ζl A.obj rfl (ζj rfl (ζs A.obj rfl fun wf ai V ba => ?_));have a1:=A.setBy (by2:=by'+size) V ai;have aj:=(((f.mono fun _ _ h=>h.elim).trans r).trans (t.mono fun _ _ h=>h.elim)).trans ((J.mono fun z _ e=>e▸u.f2.2.2.2.1).trans (V.mono fun z _ e=>e▸A.f2.1));have eL:Xs6 S.c s (o:Nat) size={Xs9 S.c (Xjh S.c s (o:Nat) size) (Xoe q) 0 (XwU hn) with th:=(Xjh S.c s (o:Nat) size).th.set o (some ⟨size,Xjg S.c s (o:Nat) size⟩)}:=by
   unfold Xs6;rw [y1,l,Int.toNat_natCast,← l,← XvD,ehn,Int.toNat_natCast]
  rw [eL];exact ζr Tryz.func99 rfl (.trans a7 aa (.of a1 aj))
def szT:Option ThM→Int
 |some t=>t.size
 |none=>0
theorem XuS:∀ l:List (Option ThM),(XuR l).sum=(l.map szT).sum
 |[]=>rfl
 |none::l=>by
  have:=XuS l;unfold XuR at *;simp [szT,this]
 |some t::l=>by
  have:=XuS l;unfold XuR at *;simp [szT,this]
theorem XsX (s:StM):XsW s=(s.th.map szT).sum:=XuS s.th
theorem Xui:∀ (l:List Int) (i:Nat) (v:Int) (hi:i<l.length),(l.set i v).sum=l.sum - l[i]+v
 |a::l,0,v,_=>by simp [List.set]; omega
 |a::l,i+1,v,h=>by
  have:=Xui l i v (by simpa using h);simp [List.set,this]; omega
theorem Xea {l:List (Option ThM)} {o:Nat} {x y:Option ThM} (h:l[o]? = some x):((l.set o y).map szT).sum=(l.map szT).sum - szT x+szT y:=by
 obtain ⟨a,e⟩:=List.getElem?_eq_some_iff.1 h;rw [List.map_set,Xui _ _ _ (by simpa using a)];simp [e]
theorem Xuh {m:Int} (hm:0≤m):∀ l:List Int,(∀ x ∈ l,0≤x∧x≤m)→0≤l.sum∧l.sum≤l.length*m
 |[],_=>by simp
 |a::l,h=>by
  have c:=Xuh hm l fun x b=>h x (List.mem_cons_of_mem _ b);have d:=h a (List.mem_cons_self ..);simp only [List.sum_cons,List.length_cons,Int.natCast_add,Int.add_mul,Int.natCast_one,Int.one_mul];omega
section
variable {c:Conf} {s:StM} {pd:Option (Nat × PlcM)}
theorem XsY (h:s.OkP c pd):0≤XsW s∧XsW s≤8589934592:=by
 have hm:=XkN h.may;have e:c.slots≤4096:=by
  have:=h.may;unfold XkH at this;simp only [Bool.and_eq_true,decide_eq_true_eq,Xwe] at this;omega
 have f:=hm.most;have g:=h.tl;have:=Xuh (m:=2097152) (by omega) (s.th.map szT) fun x a=>by
  obtain ⟨y,b,rfl⟩:=List.mem_map.1 a;cases y with
  |none=>exact ⟨by decide,by decide⟩
  |some t =>
   obtain ⟨o,d⟩:=List.mem_iff_getElem?.1 b;have:=h.size o t d;show 0≤t.size∧t.size≤2097152
   omega
 rw [List.length_map] at this;rw [XsX];omega
theorem Xd7 (h:s.Ok c) (k:Nat) (n:Int):XsW (Xs3 s k n)=XsW s:=by
 unfold Xs3;cases hm:Xs8 s (k:Nat) with
 |none=>rfl
 |some m =>
  obtain ⟨j,ej,d,a⟩:=Xlu hm;obtain ⟨⟨o,t,e1,e2,e3⟩,_⟩:=h.mv j m a;simp only
  split
  ·rfl
  ·rw [XsX,XsX];have b:Xti s m.who=t.size:=by rw [e1]; exact Xtj e2
   show ((s.th.set m.who.toNat _).map szT).sum=_
   rw [show m.who.toNat=o by omega,Xea e2,b];show _ - t.size+t.size=_
   omega
theorem Xd4 (c:Conf) (s:StM) (k:Nat):XsW (XsV c s k)=XsW s:=by unfold XsW; rw [(Xdi c s k).1]
theorem Xd6 (h:s.Ok c) (κ:Int):XsW (Xs0 s κ)=XsW s:=by
 unfold Xs0;split
 ·rfl
 ·exact Xd7 h _ _
theorem Xd5 {o:Nat} {q:PlcM} (h:s.OkP c (some (o,q))):XsW (XsZ c s q)=XsW s:=by
 unfold XsZ;split
 ·rfl
 ·rw [Xd7 (StM.OkP.begin h.dropped _),Xd4]; rfl
theorem Xd9 (o:Nat) (size:Int) {x:Option ThM} (h:s.th[o]? = some x):XsW (Xs6 c s (o:Nat) size)=XsW s - szT x+size:=by
 rw [XsX,XsX];show ((s.th.set (o:Int).toNat _).map szT).sum=_
 rw [Int.toNat_natCast,Xea h];rfl
theorem Xec (o:Int) (i n:Nat):XsW (Xto s o i n)=XsW s:=by
 unfold Xto;split
 ·split
  ·rfl
  ·rfl
 ·rfl
end
theorem Xt9 {F Fr:Nat→Prop} {w:World} {S:Sto} {s:StM} {by':Int} {mo:Mo} {pd:Option (Nat × PlcM)} (h:XbC F Fr w S s by' mo) (hs:s.OkP S.c pd) (o:Int) (q:Plc) (i n:Nat) (hq:q.cls=(stQ s o).cls) (hi:∀ m,Xs8 s (stQ s o).cls=some m→i+n≤m.size):Xan Tryz.prog 129 #[XtA S,.int .i64 o,.agg (Xoc q).toArray,.int .i64 i,.int .i64 n] w (fun _ w'=>XbB F w w' S (Xto s o i n) by'):=by
 obtain ⟨f1,f2,J⟩:=OkP.few hs;have noF:∀ {S:Nat→Prop} {w w':World},Chg XaX w w'→Chg S w w':=fun h=>h.mono fun _ _ h=>h.elim;refine ζe Tryz.func129 Tryz.ntmps129 rfl (ζn rfl fun b K e1 g d I => ?_);have f:=h.grow d;refine ζd 15 XaX (by kernel_rfl) rfl fun a=>δl a g rfl ?_;rw [hq];refine δw a (fun w' x=>Xt2 (f.grow x) hs (stQ s o).cls) rfl ?_;cases hm:Xs8 s (stQ s o).cls with
 |none =>
  have e:Xto s o i n=s:=by unfold Xto; rw [hm]
  rw [e];exact Xaq.no hTT a rfl rfl rfl (δn a rfl fun D c=>ζr Tryz.func129 rfl (.of (f.grow c) (noF (d.trans c))))
 |some m =>
  obtain ⟨k,ek,L,r⟩:=Xlu hm;obtain ⟨mb,v⟩:=Xln f r;have y:=hi m hm;rw [ek] at hq;refine Xaq.yes hTT a rfl rfl rfl (δl a f.obj rfl (δl a g rfl ?_));rw [hq];refine Xaq.index hTT a rfl (j:=k*6) (by omega) (show (k:Int)<(s.mv.length:Nat) by omega) (by simp) rfl (δk a (f.mcell v (i:=1) (by decide) rfl) rfl (δn a rfl fun D c => ?_));have l:=f.grow c;have A:=c.heap' g;by_cases p:m.who=o
  ·have e:Xto s o i n=XeQ {s with bs:=Xwy s.bs m.f m.t m.gone i n} (Xwz i n m.gone):=by unfold Xto; rw [hm]; simp only; rw [if_pos p]
   rw [e];refine ζY rfl (by rw [p]; simp) (ζd 11 XaX (by kernel_rfl) rfl fun a=>δl a l.obj rfl (δl a A rfl ?_));rw [hq];refine Xaq.index hTT a rfl (j:=k*6) (by omega) (show (k:Int)<(s.mv.length:Nat) by omega) (by simp) rfl (δk a (l.mcell v (i:=0) (by decide) rfl) rfl (δn a rfl fun E t => ?_));have B:=l.grow t;refine ζc rfl (Xlb S.A (arV S s) (Xlg mb m) m.gone i n E (B.mvOk hs v) y) ?_;rintro _ M ⟨rfl,C,u⟩;refine ζa rfl ?_;rw [XwB h.amb] at C;obtain ⟨N,O,P,_⟩:=Xlp hs r;have G:(Xwy s.bs m.f m.t m.gone i n).length=s.bs.length:=by
    unfold Xwy;split
    ·rfl
    ·unfold Xwz; exact Xfw (by omega) (by omega)
   exact ζr Tryz.func129 rfl (.of (B.arena' u C.ar G) ((noF ((d.trans c).trans t)).trans (u.mono fun z _ H=>h.footF z H)))
  ·have e:Xto s o i n=s:=by unfold Xto; rw [hm]; simp only; rw [if_neg p]
   rw [e];exact ζF rfl (by simpa using p) (ζr Tryz.func129 rfl (.of l (noF (d.trans c))))
def StE (F:Nat→Prop) (w:World) (S:Sto) (s:StM) (e:Int) (v:Value) (w':World):Prop:=v = .int .i64 e∧XbB F w w' S s (XsW s)
theorem XtI {F Fr:Nat→Prop} {w:World} {S:Sto} {s:StM} {mo:Mo} (h:XbC F Fr w S s (XsW s) mo) (hs:s.Ok S.c) (o size:Int):Xan Tryz.prog 46 #[XtA S,.int .i64 o,.int .i64 size] w (StE F w S (XsT S.c s o size) (XsU S.c s o size)):=by
 have noF:∀ {S:Nat→Prop} {w w':World},Chg XaX w w'→Chg S w w':=fun h=>h.mono fun _ _ h=>h.elim;have same:∀ {w'},Chg XaX w w'→XsU S.c s o size≠0→XbB F w w' S (XsT S.c s o size) (XsW (XsT S.c s o size)):=fun g r=>by
  have e:XsT S.c s o size=s:=by unfold XsT; rw [if_neg r]
  rw [e];exact .of (h.grow g) (noF g)
 have v:=XsY hs;refine ζe Tryz.func46 Tryz.ntmps46 rfl (ζc rfl (Xt3 h (Chg.refl _ _) hs o) ?_);rintro _ B ⟨⟨q,rfl,_⟩,f⟩;refine ζa rfl (ζn rfl fun b C e2 i k x=>ζs i rfl fun D y l A => ?_);have a:=(f.trans k).since l (fun z E e=>by have:=f.size; omega);by_cases e1:XmC s o=1
 ·have e:XsU S.c s o size=1:=by unfold XsU; rw [if_pos e1]
  rw [e1];exact ζy rfl (ζr Tryz.func46 rfl ⟨by rw [e]; rfl,same a (by rw [e]; decide)⟩)
 ·refine ζF rfl (by simpa using e1) ?_;by_cases c:XmC s o=0
  ·have e:XsU S.c s o size=10:=by unfold XsU; rw [if_neg e1,if_pos c]
   rw [c];exact ζy rfl (ζr Tryz.func46 rfl ⟨by rw [e],same a (by rw [e]; decide)⟩)
  ·have e:XsU S.c s o size=Xs1 S.c s size:=by unfold XsU; rw [if_neg e1,if_neg c]
   refine ζF rfl (by simpa using c) ?_;have m:=h.grow a;refine ζv (XtL m hs size) rfl fun G d => ?_;by_cases hf:Xs1 S.c s size=0
   ·rw [hf];refine ζf rfl ?_;obtain ⟨j,rfl,t,n⟩:=XmE e1 c;have eA:XsT S.c s (j:Nat) size=Xs6 S.c s (j:Nat) size:=by unfold XsT; rw [if_pos (by rw [e]; exact hf)]
    have u:=StM.OkP.lay hs n hf (by rintro _ _ ⟨⟩);refine ζc rfl (Xt1 (m.grow d) hs t hf u (by omega)) ?_;rintro _ H p;refine ζa rfl ?_;have eb:XsW (XsT S.c s (j:Nat) size)=XsW s+size:=by rw [eA,Xd9 j size n]; show _ - 0+_=_; omega
    exact ζr Tryz.func46 rfl ⟨by rw [e,hf],by rw [eb,eA]; exact .trans (fun _ h => .inl h) (noF (a.trans d)) p⟩
   ·exact ζY rfl (by simpa using hf) (ζr Tryz.func46 rfl ⟨by rw [e],same (a.trans d) (by rw [e]; exact hf)⟩)
theorem XtM {F Fr:Nat→Prop} {w:World} {S:Sto} {s:StM} {mo:Mo} (h:XbC F Fr w S s (XsW s) mo) (hs:s.Ok S.c) (o:Int):Xan Tryz.prog 69 #[XtA S,.int .i64 o] w (StE F w S (Xs2 S.c s o) (XmC s o)):=by
 have noF:∀ {S:Nat→Prop} {w w':World},Chg XaX w w'→Chg S w w':=fun h=>h.mono fun _ _ h=>h.elim;have ak:=XsY hs;refine ζe Tryz.func69 Tryz.ntmps69 rfl (ζc rfl (Xt3 h (Chg.refl _ _) hs o) ?_);rintro _ w1 ⟨⟨q,rfl,a0,am,an,ao⟩,y⟩;refine ζa rfl ?_;have ap:=y.size;refine ζn rfl fun tb w2 e2 G a1 aq=>ζs G rfl fun w3 b a2 ar => ?_;have c:=(y.trans a1).since a2 (fun z a e=>by omega);have A:¬ F tb:=fun a=>by have:=h.low tb a; omega
 by_cases i:XmC s o=0
 ·obtain ⟨j,t,rfl,ht⟩:=XmD i;have a3:=Xtj ht;have a4:q.cls=t.q.cls:=by have:=congrArg PlcM.cls a0; rw [Xta ht] at this; exact this
  rw [a3] at b;have eF:Xs2 S.c s (j:Nat)=XsZ S.c {Xs0 s t.q.cls with th:=(Xs0 s t.q.cls).th.set j none} (stQ (Xs0 s t.q.cls) (j:Nat)):=by
   unfold Xs2; rw [if_neg (fun h=>h i),Xta ht,Int.toNat_natCast]
  obtain ⟨t',u,g2,g3,g4,g5⟩:=Xgl hs ht;have H:=(Xgk hs t.q.cls).ok;have hA:=H.away u g5;rw [Xta u] at eF;have I:XsW (Xs2 S.c s (j:Nat))=XsW s - t.size:=by
   rw [eF,Xd5 hA,XsX];show (((Xs0 s t.q.cls).th.set j none).map szT).sum=_
   rw [Xea u,← XsX,Xd6 hs];show _ - t'.size+0=_
   omega
  have au:=hs.size j t ht;have av:=(XkN hs.may).most;rw [i];refine ζf rfl (ζl b rfl ?_);rw [a4];refine ζc rfl (Xt0 (h.grow c) hs t.q.cls) ?_;rintro _ w4 ⟨F4,aw,ax,v,k,B⟩;refine ζa rfl ?_;have J:=B.heap b A;have K:¬ F4 tb:=fun a=>(k tb a).elim A (by have:=Xkj b; omega);obtain ⟨al,C⟩:=v.th;obtain ⟨l,k1,k2,k3,k4,k5⟩:=C.2.2.1 j t' u;refine ζl v.obj rfl (Xay.lookup hTT rfl (C.1) ((show Xj6 al _ (j:Nat) false = .agg (thL t'.size l).toArray from by unfold Xj6; rw [k2]; rfl)) rfl (Xay.field hTT rfl (show Value.agg ((thL t'.size l).toArray.extract 1 5) = .agg (Xoc l).toArray from rfl) rfl (ζn rfl fun pb w5 e5 L a9 ay=>ζs L rfl fun w6 M aa az => ?_)));have d:=a9.since aa (fun z a e=>by omega);have g:=v.grow d;have N:=d.heap' J;have D:¬ F4 pb:=fun a=>by have:=v.low pb a; omega
  obtain ⟨b0,m⟩:=g.th;refine ζl g.obj rfl (Xay.mapdel hTT rfl (m.1) fun w7 O f b1=>ζa rfl ?_);have ab:=m.del (o:=j) O f g.f2.2.2.2.1;have h7:=g.setTh f ab;have P:=f.heap N (fun e=>K (e▸g.f2.2.2.2.1));have Q:=f.heap M (fun e=>D (e▸g.f2.2.2.2.1));refine ζd 6 XaX (by kernel_rfl) rfl fun R=>δl R h7.obj rfl (δl R P rfl (δn R rfl fun w8 n => ?_));have x:=h7.grow n;have T:=n.heap' Q;refine ζj rfl (ζs x.obj rfl fun w9 ad p b2 => ?_);have h9:=x.setBy (by2:=XsW s - t.size) p ad;have U:=p.heap T (fun e=>D (e▸x.f2.1));have r:=((f.mono fun z _ e=>e▸g.f2.2.2.2.1).trans (noF n)).trans (p.mono fun z _ e=>e▸x.f2.1);have ae:Xa8 w9 l:=⟨((k3.grow d).rd).far k4 r,k3.len⟩;refine ζl U rfl (ζc rfl (XtZ h9 l (by rw [k1]; exact hA) ae) ?_);rintro _ b3 E;refine ζa rfl ?_;rw [k1] at E;have V:=((noF c).trans B).trans (noF d);have W:=V.since r (fun z a hf=>(k z hf).elim id (by omega));exact ζr Tryz.func69 rfl ⟨rfl,by rw [I,eF]; exact .trans (fun z a=>(k z a).imp id (by omega)) W E⟩
 ·have e:Xs2 S.c s o=s:=by unfold Xs2; rw [if_pos i]
  exact ζY rfl (by simpa using i) (ζr Tryz.func69 rfl ⟨rfl,by rw [e]; exact .of (h.grow c) (noF c)⟩)
theorem Xwh {c:Conf} {s:StM} {pd:Option (Nat × PlcM)} (hs:s.OkP c pd) {o i n:Int} (h:Xwd s o i n=0):∃ (j:Nat),∃ t,∃ i' n':Nat,o=j∧s.th[j]? = some (some t)∧i=i'∧n=n'∧(i'+n':Int)≤t.size∧XeG c t.q.plc i' n'=0∧t.q.pages.length≤4096:=by
 obtain ⟨j,t,e1,e2,e3,e4,e5⟩:=Xwg h;obtain ⟨a,d,b⟩:=Xn3 hs e2;obtain ⟨i',rfl⟩:=Int.eq_ofNat_of_zero_le e3;obtain ⟨n',rfl⟩:=Int.eq_ofNat_of_zero_le e4;exact ⟨j,t,i',n',e1,e2,rfl,rfl,e5,XeJ a (by omega) (by omega) (by omega),b⟩
theorem XeI {c:Conf} {q:Plc} {qm:PlcM} (e:Xoe q=qm) {i n:Int} (h:XeG c qm.plc i n=0):XeG c q i n=0:=by rw [XeH,e]; exact h
theorem Own.from' {base base' t size m:Nat} {w:World} {v:Value} {xs:List Value} (h:Own base t size w v m xs) (hb:base'≤base):Own base' t size w v m xs:=by
 obtain ⟨b,a⟩:=h;refine ⟨b,?_⟩;rcases a with a | ⟨g,cap,cur,e,c,r⟩
 ·exact .inl a
 ·exact .inr ⟨g,cap,cur,e,by omega,r⟩
theorem XtW {F Fr:Nat→Prop} {w:World} {S:Sto} {s:StM} {mo:Mo} (h:XbC F Fr w S s (XsW s) mo) (hs:s.Ok S.c) (o i:Int) (a:Option Addr) (cap:Nat) (l:List Int) (hi : -9223372036854775808≤i∧i≤9223372036854775807) (hr:Rd .u8 w a l) (hlc:l.length≤cap) (hl:l.length≤9223372036854775807) (hin:InB l) (hout:0<l.length→Xa0 F a) :
 Xan Tryz.prog 77 #[XtA S,.int .i64 o,.int .i64 i,.slice a l.length cap] w (StE F w S (Xtn S.c s o i l) (Xwd s o i l.length)):=by
 have noF:∀ {S:Nat→Prop} {w w':World},Chg XaX w w'→Chg S w w':=fun h=>h.mono fun _ _ h=>h.elim;refine ζe Tryz.func77 Tryz.ntmps77 rfl (ζc rfl (Xt8 h (Chg.refl _ _) hs o i l.length hi (by omega)) ?_);rintro _ W ⟨⟨q,rfl,b,C,D,R⟩,p⟩;refine ζa rfl ?_;have T:=p.size;refine ζn rfl fun tb w2 e2 x E U=>ζs x rfl fun w3 f G V => ?_;have c:=(p.trans E).since G (fun z H e=>by omega);have I:¬ F tb:=fun H=>by have:=h.low tb H; omega
 have y:=h.grow c;by_cases g:Xwd s o i l.length=0
 ·obtain ⟨j,t,i',n',rfl,ht,rfl,hn,h5,J,K⟩:=Xwh hs g;obtain rfl:l.length=n':=by omega
  have L:=Xta ht;rw [L] at b;have eW:Xtn S.c s (j:Nat) (i':Nat) l=Xto (Xs9 S.c s t.q i' l) (j:Nat) i' l.length:=by unfold Xtn; rw [if_pos g,L,Int.toNat_natCast]
  rw [g];refine ζf rfl (ζd 8 XaX (by kernel_rfl) rfl fun A=>δl A y.obj rfl (δl A f rfl (δn A rfl fun w4 n => ?_)));have Q:=y.grow n;have d:=c.trans n;refine ζc rfl (XtC Q hs.may hs.bl q i' a cap l (C.grow d) D (XeI b J) (by rw [show q.pages=t.q.pages from congrArg PlcM.pages b]; exact K) (hr.chg d) hlc hin hout) ?_;rintro _ w5 ⟨rfl,r,u⟩;refine ζa rfl ?_;rw [b] at r;have B:=u.heap (n.heap' f) I;have M:=hs.put t.q i' hin;have v:=Xta (s:=Xs9 S.c s t.q i' l) ht;refine ζl B rfl ?_;have N:∀ m,Xs8 (Xs9 S.c s t.q i' l) (stQ (Xs9 S.c s t.q i' l) (j:Nat)).cls=some m→i'+l.length≤m.size:=fun m hm=>by
   rw [v] at hm;obtain ⟨k,ek,_,O⟩:=Xlu hm;have:=Xh1 hs (k:=k) (m:=m) O ht ek;omega
  refine ζc rfl (Xt9 r M (j:Nat) q i' l.length (by rw [v,← b]; rfl) N) ?_;rintro _ w6 P;exact ζa rfl (ζr Tryz.func77 rfl ⟨rfl,by rw [eW,Xec]; exact .trans (fun _ h => .inl h) ((noF d).trans u) P⟩)
 ·have e:Xtn S.c s o i l=s:=by unfold Xtn; rw [if_neg g]
  exact ζY rfl (by simpa using g) (ζr Tryz.func77 rfl ⟨rfl,by rw [e]; exact .of y (noF c)⟩)
theorem XtQ {F Fr:Nat→Prop} {w:World} {S:Sto} {s:StM} {mo:Mo} (h:XbC F Fr w S s (XsW s) mo) (hs:s.Ok S.c) (o i n:Int) (hi : -9223372036854775808≤i∧i≤9223372036854775807) (hn : -9223372036854775808≤n∧n≤9223372036854775807) :
 Xan Tryz.prog 72 #[XtA S,.int .i64 o,.int .i64 i,.int .i64 n] w (fun v w' => ∃ u,v = .tuple #[u,.int .i64 (Xwd s o i n)]∧Own w.heap.size 5 1 w' u (Xtc S.c s o i n).length ((Xtc S.c s o i n).map (Value.int .u8)) ∧ ∃ mo',XbC F Fr w' S (Xtb S.c s o i n) (XsW (Xtb S.c s o i n)) mo'∧Chg F w w'):=by
 have noF:∀ {S:Nat→Prop} {w w':World},Chg XaX w w'→Chg S w w':=fun h=>h.mono fun _ _ h=>h.elim;refine ζe Tryz.func72 Tryz.ntmps72 rfl (ζc rfl (Xt8 h (Chg.refl _ _) hs o i n hi hn) ?_);rintro _ w1 ⟨⟨q,rfl,d,C,D,U⟩,p⟩;refine ζa rfl ?_;have V:=p.size;refine ζn rfl fun tb g e2 r E W=>ζs r rfl fun N x G a0 => ?_;have a:=(p.trans E).since G (fun z b e=>by omega);have H:¬ F tb:=fun b=>by have:=h.low tb b; omega
 have y:=h.grow a;by_cases c:Xwd s o i n=0
 ·obtain ⟨j,t,i',n',rfl,ht,rfl,rfl,h5,I,J⟩:=Xwh hs c;have A:=Xta ht;rw [A] at d;have eR:Xtb S.c s (j:Nat) (i':Nat) (n':Nat)=XeQ s (Xew S.c t.q.plc i' n'):=by unfold Xtb; rw [if_pos c,A,Int.toNat_natCast,Int.toNat_natCast]
  have eB:Xtc S.c s (j:Nat) (i':Nat) (n':Nat)=Xu9 S.c t.q.plc s.bs i' n':=by unfold Xtc; rw [if_pos c,A,Int.toNat_natCast,Int.toNat_natCast]
  have B:(Xu9 S.c t.q.plc s.bs i' n').length=n':=by unfold Xu9; rw [List.length_map,List.length_range]
  rw [c];refine ζf rfl ?_;have O:∀ w',Chg XaX N w'→Xan Tryz.prog 126 #[vwV S.v,.agg (Xoc q).toArray,.int .i64 (i':Nat),.int .i64 (n':Nat)] w' (fun v g=>Chg (XgK S.A) w' g ∧ ∃ f,v = .tuple #[f,.int .i64 0]∧XbC F Fr g S (XeQ s (Xew S.c t.q.plc i' n')) (XsW s) mo∧Own w.heap.size 5 1 g f n' ((Xu9 S.c t.q.plc s.bs i' n').map (Value.int .u8))):=fun w' k=>by
   have K:=XtB (y.grow k) hs.may hs.bl q i' n' (C.grow (a.trans k)) D (XeI d I) (by rw [show q.pages=t.q.pages from congrArg PlcM.pages d]; exact J);rw [d] at K;exact K.mono fun v g ⟨f,e,P,Q,R⟩=>⟨Q,f,e,P,R.from' (by have:=a.size; have:=k.size; omega)⟩
  have a4:¬ XgK S.A S.sb:=fun b=>b.elim (XiU h.kds.1 h.kds.2.2.1 (by decide)) (fun e=>by rw [h.amb] at e; exact XiU h.kds.1 h.kds.2.2.2.2.2 (by decide) (Option.some.inj e).symm);have a5:¬ XgK S.A tb:=fun b=>H (h.footF _ b);refine ζd 11 (XgK S.A) (by kernel_rfl) rfl fun l=>δl l y.obj rfl (δl l x rfl (Xaq.callQ l rfl rfl (O) ?_));rintro _ w4 L ⟨f,rfl,T,M⟩;refine Xaq.adv hTT l rfl (δn l rfl fun w5 m => ?_);rw [eR,eB,B];exact ζr Tryz.func72 rfl ⟨f,rfl,M.chg m (fun _ _=>id),_,T.grow m,(((noF a).trans (L.mono fun z _ b=>h.footF z b)).trans (noF m))⟩
 ·have e:Xtb S.c s o i n=s:=by unfold Xtb; rw [if_neg c]
  have eB:Xtc S.c s o i n = []:=by unfold Xtc; rw [if_neg c]
  rw [e,eB];exact ζY rfl (by simpa using c) (ζr Tryz.func72 rfl ⟨_,rfl,⟨rfl,.inl ⟨rfl,rfl⟩⟩,_,y,noF a⟩)
theorem XwD (s:StM) (o:Int) (i n:Nat):(Xto s o i n).th=s.th:=by
 unfold Xto;split
 ·split <;> rfl
 ·rfl
theorem XwC {s:StM} {o:Nat} {t:ThM} (size:Int) (i n:Nat) (ht:s.th[o]? = some (some t)):Xto (Xth s (o:Nat) ⟨size,t.q⟩) (o:Nat) i n=Xth (Xto s (o:Nat) i n) (o:Nat) ⟨size,t.q⟩:=by
 have a:=(List.getElem?_eq_some_iff.1 ht).1;have e1:stQ (Xth s (o:Nat) ⟨size,t.q⟩) (o:Nat)=t.q:=by
  refine Xta (t:=⟨size,t.q⟩) ?_;show (s.th.set (o:Int).toNat _)[o]? = _
  rw [Int.toNat_natCast,List.getElem?_set_self a]
 unfold Xto;rw [e1,Xta ht];have e2:Xs8 (Xth s (o:Nat) ⟨size,t.q⟩) t.q.cls=Xs8 s t.q.cls:=rfl;rw [e2];split
 ·split <;> rfl
 ·rfl
theorem XtR {F Fr:Nat→Prop} {w:World} {S:Sto} {s:StM} {mo:Mo} (h:XbC F Fr w S s (XsW s) mo) (hs:s.Ok S.c) (o size:Int):Xan Tryz.prog 79 #[XtA S,.int .i64 o,.int .i64 size] w (StE F w S (Xtd S.c s o size) (Xte S.c s o size)):=by
 have noF:∀ {S:Nat→Prop} {w w':World},Chg XaX w w'→Chg S w w':=fun h=>h.mono fun _ _ h=>h.elim;have same:∀ {w'},Chg XaX w w'→Xte S.c s o size≠0→XbB F w w' S (Xtd S.c s o size) (XsW (Xtd S.c s o size)):=fun hc he=>by
  have e:Xtd S.c s o size=s:=by unfold Xtd; rw [if_pos he]
  rw [e];exact .of (h.grow hc) (noF hc)
 have es:=XsY hs;have et:=(XkN hs.may).most;refine ζe Tryz.func79 Tryz.ntmps79 rfl (ζc rfl (Xt3 h (Chg.refl _ _) hs o) ?_);rintro _ w1 ⟨⟨q,rfl,A,a9,C,av⟩,c7⟩;refine ζa rfl ?_;have eu:=c7.size;refine ζn rfl fun tb w2 e2 cl d8 ew=>ζs cl rfl fun w3 af d9 ex => ?_;have D:=(c7.trans d8).since d9 (fun z a e=>by omega);have N:¬ F tb:=fun a=>by have:=h.low tb a; omega
 have h3:=h.grow D;by_cases e0:XmC s o=0
 ·obtain ⟨j,t,rfl,ht⟩:=XmD e0;have O:=Xtj ht;have hQ:=Xta ht;have ey:=hs.size j t ht;have c8:=(List.getElem?_eq_some_iff.1 ht).1;rw [O] at af;rw [hQ] at A;rw [e0];refine ζf rfl ?_;by_cases g1:size<1∨S.c.most<size
  ·have e:Xte S.c s (j:Nat) size=3:=by unfold Xte; rw [if_neg (fun h=>h e0),if_pos g1]
   by_cases g2:size<1
   ·exact ζy rfl (ζr Tryz.func79 rfl ⟨by rw [e],same D (by rw [e]; decide)⟩)
   ·exact ζf rfl (ζl h3.obj rfl (ζy rfl (ζr Tryz.func79 rfl ⟨by rw [e],same D (by rw [e]; decide)⟩)))
  ·refine ζf rfl (ζl h3.obj rfl (ζf rfl (ζl af rfl (ζv (Xt6 h3 t.size size (by omega) (by omega)) rfl fun w4 c9 => ?_))));have T:=D.trans c9;have h4:=h.grow T;have p:=c9.heap' af;cases P:Xtp S.c t.size size with
   |true =>
    have e:Xte S.c s (j:Nat) size=0:=by unfold Xte; rw [if_neg (fun h=>h e0),if_neg g1,O,if_pos P]
    rw [e];refine ζy rfl (ζl p rfl ?_);by_cases b5:size<t.size
    ·obtain ⟨i',rfl⟩:=Int.eq_ofNat_of_zero_le (show 0≤size by omega);obtain ⟨n',b6⟩:=Int.eq_ofNat_of_zero_le (show 0≤t.size - (i':Int) by omega);obtain ⟨pv,ph,pf⟩:=Xn3 hs ht;have da:q.pages=t.q.pages:=congrArg PlcM.pages A;refine Xay.yes hTT rfl (decide_eq_true b5) rfl ?_;refine Xay.drawn (q:=11) XaX hTT Xk3 (by kernel_rfl) rfl ?_;intro d;refine Xaq.loadb hTT d rfl h4.obj (by first | exact fun h=>h | (intro h; omega) | assumption) rfl rfl ?_;refine Xaq.loads hTT d rfl p (by first | exact fun h=>h | (intro h; omega) | assumption) rfl rfl ?_;refine Xaq.loadb hTT d rfl p (by first | exact fun h=>h | (intro h; omega) | assumption) rfl rfl ?_;refine Xaq.arith hTT d rfl (w64 (by omega)) rfl ?_;rw [b6];refine Xaq.nil d ?_;intro w5 Q;refine ζa rfl ?_;have l:=T.trans Q;refine ζc rfl (XtD (h4.grow Q) hs.may hs.bl q i' n' (a9.grow l) C (XeI A (XeJ pv (by omega) (by omega) (by omega))) (by rw [da]; exact pf)) ?_;rintro _ w6 ⟨rfl,ca,R⟩;refine ζa rfl ?_;rw [A] at ca;have r:=R.heap (Q.heap' p) N;have db:=hs.put t.q i' (XwV n');have cb:=Xta (s:=Xs9 S.c s t.q i' (XwU n')) ht;have dc:∀ m,Xs8 (Xs9 S.c s t.q i' (XwU n')) (stQ (Xs9 S.c s t.q i' (XwU n')) (j:Nat)).cls=some m→i'+n'≤m.size:=fun m hm=>by
      rw [cb] at hm;obtain ⟨k,ek,_,dd⟩:=Xlu hm;have:=Xh1 hs (k:=k) (m:=m) dd ht ek;omega
     refine ζl r rfl (ζl r rfl (ζj rfl ?_));rw [b6];refine ζc rfl (Xt9 ca db (j:Nat) q i' n' (by rw [cb,← A]; rfl) dc) ?_;rintro _ wx ⟨Fx,Frx,mox,hx,cc,cd⟩;refine ζa rfl ?_;obtain ⟨sx,esx⟩:∃ sx,sx=Xto (Xs9 S.c s t.q i' (XwU n')) (j:Nat) i' n':=⟨_,rfl⟩;rw [← esx] at hx;have U:sx.th=s.th:=by rw [esx,XwD]; rfl
     have eR:Xtd S.c s (j:Nat) (i':Nat)={sx with th:=sx.th.set j (some ⟨(i':Nat),t.q⟩)}:=by
      unfold Xtd;rw [if_neg (fun h=>h e),O,if_pos P,if_pos b5,hQ,Int.toNat_natCast,b6,Int.toNat_natCast,XwC (s:=Xs9 S.c s t.q i' (XwU n')) _ _ _ ht,← esx];unfold Xth;rw [Int.toNat_natCast]
     have E:XsW (Xtd S.c s (j:Nat) (i':Nat))=XsW s+((i':Int) - t.size):=by
      rw [eR,XsX];show ((sx.th.set j _).map szT).sum=_
      rw [U,Xea ht,← XsX];show _ - t.size+(i':Int)=_
      omega
     have V:=(noF l).trans R;have ab:∀ z,Fx z→F z∨w.heap.size≤z:=fun z a=>(cc z a).imp id (by have:=V.size; omega);have G:=V.trans cd;have u:=cd.heap r N;have ag:¬ Fx tb:=fun a=>(cc tb a).elim N (by have:=Xkj r; omega);have b7:Xa8 wx q:=⟨a9.rd.far C G,a9.len⟩;have ah:Xa0 Fx q.pa:=fun b' off s' e a=>(ab b' a).elim (C b' off s' e) (by have:=XiR (av b' off s' e); omega);have ai:=av.chg G C;refine ζd 9 XaX (by kernel_rfl) rfl fun d=>δl d hx.obj rfl (δl d u rfl (Xaq.build hTT d rfl rfl (δn d rfl fun wy i => ?_)));have H:=hx.grow i;have aj:=i.heap' u;obtain ⟨al,B⟩:=H.th;refine Xay.mapset hTT rfl (B.1) fun wz b8 f de=>ζa rfl ?_;have b9:=B.put (o:=j) (size:=((i':Nat):Int)) (q:=q) (qm:=t.q) A (by rw [U]; exact c8) b8 f H.f2.2.2.2.1 (b7.grow i) ah (ai.grow i);have a:=H.setTh f b9;have ak:=f.heap aj (fun e=>ag (e▸H.f2.2.2.2.1));refine ζd 8 XaX (by kernel_rfl) rfl fun d=>δl d a.obj rfl (δl d ak rfl (δj d rfl (δn d rfl fun wu I=>ζj rfl (ζs ((a.grow I).obj) rfl fun wv ba ac df => ?_))));have hv:=(a.grow I).setBy (by2:=XsW s+(((i':Nat):Int) - t.size)) ac ba;have am:=(((noF i).trans (f.mono fun z _ e=>e▸H.f2.2.2.2.1)).trans (noF I)).trans (ac.mono fun z _ e=>e▸a.f2.1);exact ζr Tryz.func79 rfl ⟨rfl,by rw [E,eR]; exact .trans ab G (.of hv am)⟩
    ·have eR:Xtd S.c s (j:Nat) size={s with th:=s.th.set j (some ⟨size,t.q⟩)}:=by
      unfold Xtd;rw [if_neg (fun h=>h e),O,if_pos P,if_neg b5,hQ];unfold Xth;rw [Int.toNat_natCast]
     have E:XsW (Xtd S.c s (j:Nat) size)=XsW s+(size - t.size):=by
      rw [eR,XsX];show ((s.th.set j _).map szT).sum=_
      rw [Xea ht,← XsX];show _ - t.size+size=_
      omega
     refine ζf rfl ?_;obtain ⟨wx,ewx⟩:∃ wx,wx=w4:=⟨_,rfl⟩;obtain ⟨Fx,eFx⟩:∃ Fx,Fx=F:=⟨_,rfl⟩;rw [← ewx];have hx:XbC Fx Fr wx S s (XsW s) mo:=by rw [eFx,ewx]; exact h4
     have u:=p;rw [← ewx] at u;have ag:¬ Fx tb:=by rw [eFx]; exact N
     have ab:∀ z,Fx z→F z∨w.heap.size≤z:=fun z a => .inl (by rw [← eFx]; exact a);have G:Chg F w wx:=by rw [ewx]; exact noF T
     have U:s.th=s.th:=rfl;have b7:Xa8 wx q:=⟨a9.rd.far C G,a9.len⟩;have ah:Xa0 Fx q.pa:=fun b' off s' e a=>(ab b' a).elim (C b' off s' e) (by have:=XiR (av b' off s' e); omega);have ai:=av.chg G C;refine ζd 9 XaX (by kernel_rfl) rfl fun d=>δl d hx.obj rfl (δl d u rfl (Xaq.build hTT d rfl rfl (δn d rfl fun wy i => ?_)));have H:=hx.grow i;have aj:=i.heap' u;obtain ⟨al,B⟩:=H.th;refine Xay.mapset hTT rfl (B.1) fun wz b8 f de=>ζa rfl ?_;have b9:=B.put (o:=j) (size:=size) (q:=q) (qm:=t.q) A (by rw [U]; exact c8) b8 f H.f2.2.2.2.1 (b7.grow i) ah (ai.grow i);have a:=H.setTh f b9;have ak:=f.heap aj (fun e=>ag (e▸H.f2.2.2.2.1));refine ζd 8 XaX (by kernel_rfl) rfl fun d=>δl d a.obj rfl (δl d ak rfl (δj d rfl (δn d rfl fun wu I=>ζj rfl (ζs ((a.grow I).obj) rfl fun wv ba ac df => ?_))));have hv:=(a.grow I).setBy (by2:=XsW s+(size - t.size)) ac ba;have am:=(((noF i).trans (f.mono fun z _ e=>e▸H.f2.2.2.2.1)).trans (noF I)).trans (ac.mono fun z _ e=>e▸a.f2.1);exact ζr Tryz.func79 rfl ⟨rfl,by rw [E,eR]; exact .trans ab G (.of hv am)⟩
   |false =>
    have e:Xte S.c s (j:Nat) size=Xs1 S.c s size:=by unfold Xte; rw [if_neg (fun h=>h e0),if_neg g1,O,if_neg (by rw [P]; decide)]
    refine ζf rfl (ζv (XtL h4 hs size) rfl fun w5 Q => ?_);have l:=T.trans Q;have bb:=Q.heap' p;by_cases hf:Xs1 S.c s size=0
    ·rw [hf];refine ζf rfl ?_;obtain ⟨t',M⟩:=Xlc hs ht P hf;have dg:q.cls=t.q.cls:=congrArg PlcM.cls A;refine Xay.loadb hTT rfl bb rfl rfl ?_;rw [dg];refine ζc rfl (Xt0 (h.grow l) hs t.q.cls) ?_;rintro _ w6 ⟨F6,dh,di,h6,bc,R⟩;refine ζa rfl ?_;have r:=R.heap bb N;have ez:=l.size;have f0:=R.size;have V:=(noF l).trans R;obtain ⟨n,bd⟩:∃ n,n=Xs0 s t.q.cls:=⟨_,rfl⟩;obtain ⟨M1,M2,M3,M4,M5,M6,M7,W⟩:=M;have be:=Xd6 hs t.q.cls;have eR:Xtd S.c s (j:Nat) size=Xs7 S.c s (j:Nat) size:=by unfold Xtd; rw [if_neg (fun h=>h (e.trans hf)),O,if_neg (by rw [P]; decide)]
     have eM:Xs7 S.c s (j:Nat) size=XsZ S.c (Xs9 S.c (Xs6 S.c (XeQ n (Xew S.c t'.q.plc 0 (min t.size size).toNat)) (j:Nat) size) (stQ (Xs6 S.c (XeQ n (Xew S.c t'.q.plc 0 (min t.size size).toNat)) (j:Nat) size) (j:Nat)) 0 (Xu9 S.c t'.q.plc n.bs 0 (min t.size size).toNat)) t'.q:=by
      unfold Xs7;simp only
      rw [Xta ht,Xtj ht,← bd,Xta (bd▸M2)]
     rw [← bd] at h6 M1 M2 M6 M7 W be;obtain ⟨m,em⟩:=Int.eq_ofNat_of_zero_le (show 0≤min t.size size by omega);rw [em,Int.toNat_natCast] at eM W;have dl:0<m:=by omega
     obtain ⟨al,B⟩:=h6.th;obtain ⟨L,k1,k2,k3,k4,k5⟩:=B.2.2.1 j t' M2;obtain ⟨pv,ph,pf⟩:=Xn3 M1 M2;have bg:=(List.getElem?_eq_some_iff.1 M2).1;refine ζl h6.obj rfl (Xay.lookup hTT rfl (B.1) ((show Xj6 al _ (j:Nat) false = .agg (thL t'.size L).toArray from by unfold Xj6; rw [k2]; rfl)) rfl (Xay.field hTT rfl (show Value.agg ((thL t'.size L).toArray.extract 1 5) = .agg (Xoc L).toArray from rfl) rfl (ζn rfl fun pb w7 e7 ct dm f1=>ζs ct rfl fun w8 bh dp f2 => ?_)));have J:=dm.since dp (fun z a e=>by omega);have h8:=h6.grow J;have bi:=J.heap' r;have aw:¬ F6 pb:=fun a=>by have:=h6.low pb a; omega
     have hd:∀ w',Chg XaX w8 w'→Xan Tryz.prog 126 #[vwV S.v,.agg (Xoc L).toArray,.int .i64 0,.int .i64 (m:Nat)] w' (fun v w2=>Chg (XgK S.A) w' w2 ∧ ∃ u1,v = .tuple #[u1,.int .i64 0]∧XbC F6 dh w2 S (XeQ n (Xew S.c t'.q.plc 0 m)) (XsW s) di∧Own w8.heap.size 5 1 w2 u1 m ((Xu9 S.c t'.q.plc n.bs 0 m).map (Value.int .u8))):=fun w' bk=>by
      have hh:=XtB (h8.grow bk) M1.may M1.bl L 0 m (k3.grow (J.trans bk)) k4 (XeI k1 (XeJ pv (by omega) (by omega) (by omega))) (by rw [show L.pages=t'.q.pages from congrArg PlcM.pages k1]; exact pf);rw [k1] at hh;exact hh.mono fun v w2 ⟨u1,e,a1,a2,a3⟩=>⟨a2,u1,e,a1,a3.from' bk.size⟩
     have f3:¬ XgK S.A S.sb:=fun a=>a.elim (XiU h.kds.1 h.kds.2.2.1 (by decide)) (fun e=>by rw [h.amb] at e; exact XiU h.kds.1 h.kds.2.2.2.2.2 (by decide) (Option.some.inj e).symm);have dr:¬ XgK S.A tb:=fun a=>N (h.footF _ a);have ds:¬ XgK S.A pb:=fun a=>aw (h6.footF _ a);have emin:(if size<t.size then size else t.size)=(m:Int):=by rw [← em]; split <;> omega
     refine ζd 14 (XgK S.A) (by kernel_rfl) rfl fun d=>δl d h8.obj rfl (δl d bh rfl (δl d bi rfl ?_));rw [emin];refine Xaq.callQ d rfl rfl (hd) ?_;rintro _ w9 bl ⟨u1,rfl,h9,dt⟩;refine Xaq.adv hTT d rfl (δn d rfl fun f4 K => ?_);have ce:=h9.grow K;have cv:=bl.heap bi dr;have cw:=bl.heap bh ds;obtain ⟨g,cap,cur,rfl,f5,du,cx,f6,ax⟩:=dt.form dl;rw [Nat.mul_one] at ax;have a0:(Xu9 S.c t'.q.plc n.bs 0 m).length=m:=by unfold Xu9; rw [List.length_map,List.length_range]
     have cy:=K.heap' du;have bm:¬ F6 g:=fun a=>by have:=h8.low g a; omega
     have bt:=K.heap' cv;have bu:=K.heap' cw;refine ζd 6 XaX (by kernel_rfl) rfl fun d=>δl d ce.obj rfl (δl d bt rfl (δn d rfl fun f7 a4 => ?_));have ad:=ce.grow a4;have bv:=a4.heap' bu;have cz:=a4.heap' cy;have dv:=XsY M6;have dw:XsW {n with th:=n.th.set j none}=XsW s - t.size:=by
      rw [XsX];show ((n.th.set j none).map szT).sum=_
      rw [Xea M2,← XsX,be];show _ - t'.size+0=_
      omega
     rw [dw] at dv;refine ζj rfl (ζs ad.obj rfl fun f8 d0 a5 ej => ?_);have cf:=ad.setBy (by2:=XsW s - t.size) a5 d0;have ay:=a5.heap bv (fun e=>aw (e▸ad.f2.1));have bn:=a5.heap cz (fun e=>bm (e▸ad.f2.1));have a6:=(((bl.mono fun z _ a=>h6.footF z a).trans (noF K)).trans (noF a4)).trans (a5.mono fun z _ e=>e▸ad.f2.1);have az:=((V.trans (noF J)).since a6 (fun z a hf=>(bc z hf).elim id (by omega)));obtain ⟨sc,esc⟩:∃ sc,sc=XeQ n (Xew S.c t'.q.plc 0 m):=⟨_,rfl⟩;have dx:=esc▸StM.OkP.tot M1 _;have aq:sc.th=n.th:=by rw [esc]; rfl
     rw [← esc] at cf W eM;have dy:Xs1 S.c sc size=0:=by rw [esc]; exact M7
     refine ζc rfl (Xt1 cf dx (by rw [aq]; exact bg) dy W (by omega)) ?_;rintro _ dz ⟨b0,el,en,ae,a7,a8⟩;refine ζa rfl ?_;have eo:=a6.size;have bw:¬ b0 pb:=fun a=>(a7 pb a).elim aw (by have:=Xkj ay; omega);have bx:¬ b0 g:=fun a=>(a7 g a).elim bm (by have:=Xkj bn; omega);have bz:=a8.heap ay aw;have d1:=a8.heap bn bm;obtain ⟨s2,bo⟩:∃ s2,s2=Xs6 S.c sc (j:Nat) size:=⟨_,rfl⟩;have ar:s2.th[j]? = some (some ⟨size,Xjg S.c sc (j:Nat) size⟩):=by
      rw [bo];show (sc.th.set (j:Int).toNat _)[j]? = _
      rw [Int.toNat_natCast,List.getElem?_set_self (by rw [aq]; exact bg)]
     have d2:XsW s2=XsW s - t.size+size:=by
      rw [bo,Xd9 j size (x:=some t') (by rw [aq]; exact M2)];have:XsW sc=XsW s:=by rw [esc,← be]; rfl
      rw [this];show _ - t'.size+size=_
      omega
     rw [← bo] at ae W eM;obtain ⟨cg,e1,ch⟩:=Xn3 W ar;simp only at cg e1 ch
     obtain ⟨d3,b1⟩:=ae.th;obtain ⟨q2,j1,j2,j3,j4,j5⟩:=b1.2.2.1 j _ ar;simp only at j1 j2
     refine ζd 12 XaX (by kernel_rfl) rfl fun d=>δl d ae.obj rfl (δl d ae.obj rfl (Xaq.lookup hTT d rfl (b1.1) (by first | (intro b h; cases h; assumption) | (intro b h hs; cases h; omega)) ((show Xj6 d3 _ (j:Nat) false = .agg (thL size q2).toArray from by unfold Xj6; rw [j2]; rfl)) rfl (Xaq.field hTT d rfl (show Value.agg ((thL size q2).toArray.extract 1 5) = .agg (Xoc q2).toArray from rfl) rfl (δn d rfl fun f9 y => ?_))));have e4:=ae.grow y;have d4:=y.heap' d1;have c2:=y.heap' bz;have d5:=Rd.of_take d4 (by rw [a0]; exact ax);have ci:=XtC e4 W.may W.bl q2 0 (some ⟨g,0,none⟩) cap (Xu9 S.c t'.q.plc n.bs 0 m) (j3.grow y) j4 (XeI j1 (by rw [a0]; exact XeJ cg (by omega) (by omega) (by omega))) (by rw [show q2.pages=(Xjg S.c sc (j:Nat) size).pages from congrArg PlcM.pages j1]; exact ch) d5 (by rw [a0]; exact cx) (Xvb M1.bi 0 m) (fun _ b' off s' e=>by cases e; exact bx);rw [a0] at ci;refine ζc rfl (ci) ?_;rintro _ e5 ⟨rfl,cj,au⟩;refine ζa rfl ?_;rw [j1] at cj;have c3:=au.heap c2 bw;have c4:Xa0 b0 L.pa:=fun b' off s' e a=>(a7 b' a).elim (k4 b' off s' e) (by have:=XiR (k5 b' off s' e); omega);have bq:Xa8 dz L:=⟨((k3.grow J).rd).far k4 (a6.trans a8),k3.len⟩;have d6:Xa8 e5 L:=⟨((bq.grow y).rd).far c4 au,bq.len⟩;refine ζl c3 rfl ?_;have e6:=Xta ar;have br:=W.put (Xjg S.c sc (j:Nat) size) 0 (Xvb (c:=S.c) (q:=t'.q.plc) M1.bi 0 m);refine ζc rfl (XtZ cj L (by rw [k1]; exact br) d6) ?_;rintro _ fa b2;refine ζa rfl ?_;rw [k1] at b2;rw [e6] at eM;have E:XsW (Xtd S.c s (j:Nat) size)=XsW s - t.size+size:=by
      rw [eR,eM,Xd5 br,← d2]; rfl
     have ck:∀ z,b0 z→F z∨w.heap.size≤z:=fun z a=>(a7 z a).elim (fun a=>(bc z a).imp id (by omega)) (by have:=az.size; omega);have c5:=az.since a8 (fun z a hf=>(bc z hf).elim id (by omega));have c6:=(c5.trans (noF y)).since au (fun z a hf=>(ck z hf).elim id (by omega));exact ζr Tryz.func79 rfl ⟨by rw [e,hf],by rw [E,eR,eM]; exact .trans ck c6 b2⟩
    ·exact ζY rfl (by simpa using hf) (ζr Tryz.func79 rfl ⟨by rw [e],same l (by rw [e]; exact hf)⟩)
 ·have e:Xte S.c s o size=XmC s o:=by unfold Xte; rw [if_pos e0]
  exact ζY rfl (by simpa using e0) (ζr Tryz.func79 rfl ⟨by rw [e]; rfl,same D (by rw [e]; exact e0)⟩)
theorem XqW {k:Nat} {l:List Int} {r:List Value} {x:Int} (hk:k<l.length):XqS (l.map (Value.int .i64)++r) (0+k) [.int .i64 x]=some ((l.set k x).map (Value.int .i64)++r):=by
 have:=XgJ (cells:=fun n:Int => [Value.int .i64 n]) (sz:=1) (fun _=>rfl) (xs:=l) (k:=k) (y:=x) (rest:=r) hk;have e:∀ l:List Int,fl (fun n:Int => [Value.int .i64 n]) l=l.map (Value.int .i64):=fun l=>by unfold fl; induction l with | nil=>rfl | cons a l ih=>simp [List.flatMap_cons,ih]
 rw [e,e,Nat.mul_one] at this;exact this
theorem XtS {F Fr:Nat→Prop} {w:World} {S:Sto} {s:StM} {mo:Mo} (h:XbC F Fr w S s (XsW s) mo) (hs:s.Ok S.c) (k keep:Int):Xan Tryz.prog 81 #[XtA S,.int .i64 k,.int .i64 keep] w (StE F w S (Xtf s k keep) (Xtg s k keep)):=by
 obtain ⟨f1,f2,p⟩:=OkP.few hs;have same:Xtg s k keep=1→StE F w S (Xtf s k keep) (Xtg s k keep) (.int .i64 1) w:=fun d=>by
  have e:Xtf s k keep=s:=by unfold Xtf; rw [if_neg (by rw [d]; decide)]
  rw [e,d];exact ⟨rfl,.of h (Chg.refl _ _)⟩
 refine ζe Tryz.func81 Tryz.ntmps81 rfl (ζw (Xt7 h hs k) rfl ?_);cases ht:XuV s k with
 |false =>
  have e:Xtg s k keep=1:=by
   unfold Xtg;rw [if_pos];unfold XuV at ht;simp only [Bool.and_eq_false_iff,decide_eq_false_iff_not] at ht;omega
  exact ζy rfl (ζr Tryz.func81 rfl (same e))
 |true =>
  obtain ⟨j,rfl,q⟩:=XuW ht;refine ζf rfl (ζg rfl (fun b => ?_) fun b => ?_)
  ·have e:Xtg s (j:Nat) keep=1:=by unfold Xtg; rw [if_pos]; have:=of_decide_eq_true b; omega
   exact ζr Tryz.func81 rfl (same e)
  ·have m:=of_decide_eq_false b;refine ζg rfl (fun c => ?_) fun c => ?_
   ·have e:Xtg s (j:Nat) keep=1:=by unfold Xtg; rw [if_pos]; have:=of_decide_eq_true c; omega
    exact ζr Tryz.func81 rfl (same e)
   ·have n:=of_decide_eq_false c;have e:Xtg s (j:Nat) keep=0:=by unfold Xtg; rw [if_neg]; omega
    have eS:Xtf s (j:Nat) keep={s with keep:=s.keep.set j keep}:=by unfold Xtf; rw [if_pos e,Int.toNat_natCast]
    have f:j<s.keep.length:=by omega
    refine ζl h.obj rfl (ζi j rfl (ζS rfl h.kee (XqW (x:=keep) f) rfl fun r g a o => ?_));have i:=h.setKeep (l:=s.keep.set j keep) (by rw [List.length_set]) a g;exact ζr Tryz.func81 rfl ⟨by rw [e],by rw [eS]; exact .of i (a.mono fun z _ e=>e▸h.f2.2.1)⟩
theorem Xu4 {c:Conf} {x:StM × Int} (h:x.2<1) (k:Nat):tickK c x k=x:=by unfold tickK; rw [if_pos h]
theorem Xu3 {c:Conf} {s:StM} {k:Nat} (h:(tickTo c s k).2<1):∀ d,tickTo c s (k+d)=tickTo c s k
 |0=>rfl
 |d+1=>by rw [← Nat.add_assoc,Xu2,Xu3 h d,Xu4 h]
theorem Xty {c:Conf} (h:XkH c=true):1≤c.step∧c.step≤65536:=by
 unfold XkH at h;simp only [Bool.and_eq_true,decide_eq_true_eq,Xwe] at h;omega
theorem Xeb {c:Conf} {s:StM} (h:s.Ok c):∀ n,XsW (tickTo c s n).1=XsW s∧(tickTo c s n).1.mv.length=s.mv.length∧0≤(tickTo c s n).2∧(tickTo c s n).2≤65536
 |0=>by
  have:=Xty h.may;exact ⟨rfl,rfl,by show 0≤c.step; omega,by show c.step≤_; omega⟩
 |n+1=>by
  obtain ⟨a,b,d,e⟩:=Xeb h n;rw [Xu2];unfold tickK;split
  ·exact ⟨a,b,d,e⟩
  ·split
   ·exact ⟨(Xd4 c _ n).trans a,(Xdi c _ n).2.2.2.trans b,d,e⟩
   ·refine ⟨(Xd7 (StM.OkP.begin (StM.OkP.tickTo h n) n) n _).trans ((Xd4 c _ n).trans a),((Xhn _ n _).2.2.1).trans ((Xdi c _ n).2.2.2.trans b),?_⟩;rename_i m hm
    have:(goN m (tickTo c s n).2:Int)≤(tickTo c s n).2:=by unfold goN Xtv; omega
    simp only
    omega
theorem XtV {F Fr:Nat→Prop} {w:World} {S:Sto} {s:StM} {mo:Mo} (h:XbC F Fr w S s (XsW s) mo) (hs:s.Ok S.c):Xan Tryz.prog 80 #[XtA S] w (StE F w S (Xtm S.c s) 0):=by
 obtain ⟨f1,f2,O⟩:=OkP.few hs;have fin:∀ {k w'},XbB F w w' S (tickTo S.c s k).1 (XsW s)→tickTo S.c s s.mv.length=tickTo S.c s k→StE F w S (Xtm S.c s) 0 (.int .i64 0) w':=fun {k w'} ht a=>by
  unfold Xtm;rw [a];exact ⟨rfl,by rw [(Xeb hs k).1]; exact ht⟩
 refine ζe Tryz.func80 Tryz.ntmps80 rfl (ζl h.obj rfl ?_);refine Xay.loop (α:=Nat) (fun k => [(0,false,XtA S),(3,false,.int .i64 (tickTo S.c s k).2),(4,false,.func (.func 132) #[XtA S] #[]),(5,false,.int .i64 k)])
  (fun k w'=>XbB F w w' S (tickTo S.c s k).1 (XsW s)∧k≤s.mv.length) (fun k=>s.mv.length - k) 0 ⟨rfl,rfl,rfl,rfl,trivial⟩ ⟨.of h (Chg.refl _ _),by omega⟩ ?_
 rintro k D ⟨⟨E,p,q,j,b,c⟩,G⟩ ih;obtain ⟨H,I,J,K⟩:=Xeb hs k;have e:=StM.OkP.tickTo hs k;have tsucc:=Xu2 S.c s k;obtain ⟨x,ex⟩:∃ x,x=tickTo S.c s k:=⟨_,rfl⟩;rw [← ex] at j H I J K e tsucc ⊢;have f:tickTo S.c s s.mv.length=tickTo S.c s k→StE F w S (Xtm S.c s) 0 (.int .i64 0) D:=fun a=>fin ⟨E,p,q,by rw [← ex]; exact j,b,c⟩ a;refine ζa rfl (ζl j.obj rfl ?_);by_cases l:k<s.mv.length
 ·refine ζy rfl ?_;by_cases P:0<x.2
  ·refine ζy rfl (ζc rfl (XtY j e k (by omega)) ?_);rintro _ Q ⟨r,t,u,o,v,y⟩;refine ζa rfl ?_;have R:=c.size;have g:∀ z,r z→F z∨w.heap.size≤z:=fun z A=>(v z A).elim (b z) (by omega);have i:=c.since y (fun z A hf=>(b z hf).elim id (by omega));have n:=StM.OkP.begin e k;refine ζw (Xt2 o n (k:Nat)) rfl ?_;cases hm:Xs8 (XsV S.c x.1 k) (k:Nat) with
   |none =>
    have et:tickTo S.c s (k+1)=(XsV S.c x.1 k,x.2):=by rw [tsucc]; unfold tickK; rw [if_neg (by omega),hm]
    refine ζf rfl (ζj rfl ?_);refine ih (k+1) _ _ ⟨⟨r,t,u,?_,g,i⟩,l⟩ (by omega) ?_
    ·rw [et]; exact o
    ·rw [et]; exact ⟨rfl,rfl,rfl,rfl,trivial⟩
   |some m =>
    obtain ⟨k',ek',M,B⟩:=Xlu hm;obtain rfl:k=k':=by omega
    have et:tickTo S.c s (k+1)=(Xs3 (XsV S.c x.1 k) k x.2,x.2 - goN m x.2):=by rw [tsucc]; unfold tickK; rw [if_neg (by omega),hm]
    have N:(goN m x.2:Int)≤x.2:=by unfold goN Xtv; omega
    refine ζy rfl ?_;refine ζc rfl (Xt4 o n B x.2) ?_;rintro _ T ⟨rfl,C⟩;refine ζa rfl ?_;refine Xay.arith hTT rfl (w64 (by omega)) rfl ?_;refine ζj rfl ?_;refine ih (k+1) _ _ ⟨?_,l⟩ (by omega) ?_
    ·rw [et]; exact .trans g i C
    ·rw [et]; exact ⟨rfl,rfl,rfl,rfl,trivial⟩
  ·refine ζf rfl ?_;have a:=f (by obtain ⟨d,L⟩:=Nat.exists_eq_add_of_le G; rw [L]; exact Xu3 (by rw [← ex]; omega) d);exact ζr Tryz.func80 rfl a
 ·refine ζf rfl ?_;have a:=f (by rw [show s.mv.length=k by omega]);exact ζr Tryz.func80 rfl a
def Rm.relap (R:Rm) (l:Int):Rm:={R with lap:=l}
def Sto.relap (S:Sto) (l:Int):Sto:={S with R:=S.R.relap l}
theorem Xbh.relap {F:Nat→Prop} {w w':World} {R:Rm} {M:RmM} (h:Xbh F w R M) {b:Nat} (hb:R.mo=some b) {t l:Int} (hm:XaO w' b t l) (hc:Chg (fun z=>z=b) w w'):Xbh F w' (R.relap l) {M with tot:=t}:=by
 obtain ⟨n,p⟩:=h.met b hb;have kb:=XiT p;have g:∀ z,z=b→F z:=fun z e=>e▸n;have kp:=h.pool.kds;have j:=XiU kp.1 kb (by decide);have m:=XiU kp.2 kb (by decide);have q:=XiU (XiQ h.lg) kb (by simp);have ht:1≠b:=fun e=>h.tf (e▸n);refine ⟨{h.ok with tot:=by have:=hm.2; show 0≤t∧t≤4611686018427387904; omega},hc.heap h.obj (fun e=>h.rf (g _ e)),h.cls.chg hc g,h.kee.chg hc g,h.may,fun b' c => ?_,fun k r=>hc.cell (h.sl k r) (fun e=>h.sf (g _ e)),h.pool.chg hc j m,h.pf,?_,h.lg.chg hc (fun z _ h => .inl (g z h)) q,h.lf,h.rf,h.sf,fun z i=>by have:=h.low z i; have:=hc.size; omega,h.tab.chg hc ht,h.tf,fun z i=>⟨by have:=(h.xl z i).1; have:=hc.size; omega,(h.xl z i).2⟩⟩
 ·replace c:R.mo=some b':=c;rw [hb] at c; cases c; exact ⟨n,hm⟩
 ·obtain ⟨G,a,d⟩:=h.sh;refine ⟨G,fun k x s => ?_,d⟩;obtain ⟨o,f,u⟩:=a k x s;have ap:=f.at'.apart kb (by decide);exact ⟨o,⟨f.ok,f.pos,f.of,f.at'.chg hc (fun z e=>e▸ap.1) (fun z e=>e▸ap.2) ht,f.pool.chg hc (by rw [o]; exact j) (by rw [o]; exact m)⟩,u⟩
theorem XbC.relap {F Fr:Nat→Prop} {w w':World} {S:Sto} {s:StM} {by':Int} {mo:Mo} (h:XbC F Fr w S s by' mo) {l:Int} (hm:XaO w' S.mb s.rm.tot l) (hc:Chg (fun z=>z=S.mb) w w'):XbC F Fr w' (S.relap l) s by' mo:=by
 obtain ⟨i,j,n,o,p,a⟩:=h.kds;obtain ⟨q,r,t,v,x,y⟩:=h.nF;have c:∀ z,z=S.mb→F z:=fun z e=>e▸h.mb.1;have f:=h.ca.chg hc c;have g:=h.ka.chg hc c;exact {h with
  obj:=hc.heap h.obj (XiU i a (by decide)),kee:=hc.heap h.kee (XiU j a (by decide)),room:=h.room.relap h.rmo hm hc,
  ar:=⟨hc.heap h.ar.obj (fun e=>q (c _ e)),hc.heap h.ar.dat (XiU n a (by decide)),hc.heap h.ar.cap (fun e=>r (c _ e)),fun b d=>by
   replace d:S.A.mb=some b:=d;rw [h.amb] at d; cases d; exact hm,h.ar.len,h.ar.rng⟩,
  vw:=⟨hc.heap h.vw.obj (fun e=>t (c _ e)),by
   show Xam w' S.v.c S.v.p
   have:=h.vw.conf;rw [h.vc,h.vp] at this ⊢;exact ⟨f.1,g.1,this.lc,this.lk,this.size⟩,h.vw.may⟩,
  th:=h.th.far hc c (XiU o a (by simp)),mvs:=hc.heap h.mvs (XiU p a (by decide)),mob:=h.objAt hc (fun k b m hm=>XiU (h.kdm hm) a (by decide)),ca:=f,ka:=g,
  low:=fun z u=>by have:=h.low z u; have:=hc.size; omega}
theorem XtU {F Fr:Nat→Prop} {w:World} {S:Sto} {s:StM} {by':Int} {mo:Mo} (h:XbC F Fr w S s by' mo) (b:Nat) (hb:XsR w b (XtA S)):Xan Tryz.prog 100 [.pointer (some ⟨b,0,none⟩)].toArray w (fun v w' => ∃ n:Int,v = .int .i64 n∧n=s.rm.tot - S.R.lap∧XbC F Fr w' (S.relap s.rm.tot) s by' mo∧Chg (fun z=>z=S.mb) w w'):=by
 refine ζe Tryz.func100 Tryz.ntmps100 rfl (ζk rfl (Xek (off:=0) hb rfl) rfl (ζl h.obj rfl (ζc rfl (XkV S.mb s.rm.tot S.R.lap w h.mb.2.2) ?_)));rintro _ c ⟨rfl,hm,a⟩;exact ζa rfl (ζr Tryz.func100 rfl ⟨_,rfl,rfl,h.relap hm a,a⟩)
theorem XtT {F Fr:Nat→Prop} {w:World} {S:Sto} {s:StM} {by':Int} {mo:Mo} (h:XbC F Fr w S s by' mo):Xan Tryz.prog 47 #[XtA S] w (fun v w'=>v = .int .i64 (s.rm.tot - S.R.lap)∧XbC F Fr w' (S.relap s.rm.tot) s by' mo∧Chg (fun z=>z=S.mb) w w'):=by
 refine ζe Tryz.func47 Tryz.ntmps47 rfl (ζn rfl fun b e e1 c a g=>ζk rfl (Xek (off:=0) c rfl) rfl (ζc rfl (XtX (S:=S) 100 [.pointer (some ⟨b,0,none⟩)] e _ (XtU (h.grow a) b c)) ?_));rintro _ i ⟨n,rfl,rfl,f,d⟩;exact ζa rfl (ζr Tryz.func47 rfl ⟨rfl,f,(a.mono fun _ _ h=>h.elim).trans d⟩)
theorem Xfa (a:Option Addr) (cap:Nat) (x:List Int) (w:World) (hr:Rd .i64 w a x) (hl:x.length≤1048576) (hn:∃ a1,a=some a1):Xan Tryz.prog 85 #[.slice a x.length cap] w
 (fun v w' => ∃ g c r,v = .slice (some ⟨g,0,none⟩) x.length c∧w.heap.size≤g∧w'.heap[g]? = some (.cells (x.map (Value.int .i64)++r).toArray 3 (0,0))∧x.length≤c∧Chg XaX w w'):=by
 have t:maxLen=9223372036854775807:=rfl;obtain ⟨a1,rfl⟩:=hn;refine Xan.enter Tryz.func85 rfl Tryz.ntmps85 rfl rfl ?_;refine ζa rfl ?_;refine Xay.no hTT rfl rfl rfl ?_;refine Xay.buildSlice hTT rfl ?_;intro b m e1 n d u;refine ζa rfl ?_;subst e1;have i:Own w.heap.size 3 1 m (.slice (some ⟨w.heap.size,0,none⟩) 0 0) 0 []:=Own.empty (Nat.le_refl _) n;refine Xay.append (base:=w.heap.size) (xs := []) (news:=x.map (Value.int .i64)) hTT rfl i (by omega) (by simp) (hr.chg d).cells Xn7 ⟨by omega,by show (0+x.length)*8≤_; omega⟩ ?_;intro v y f j k;refine ζa rfl ?_;rw [Nat.zero_add,List.nil_append] at f;have o:=i.since d (Nat.le_refl _) j;rcases f.2 with ⟨e,_⟩ | ⟨g,c,cur,rfl,p,q,s,z,_,l⟩
 ·have:=(k.1.1 e).1; cases this
 ·have h:cur=(x.map (Value.int .i64)++cur.toList.drop x.length).toArray:=by
   rw [Nat.mul_one] at l;rw [← l,List.take_append_drop]
  exact Xay.ret1 hTT rfl Tryz.func85 rfl rfl ⟨g,c,cur.toList.drop x.length,rfl,p,by rw [← h]; exact q,s,o⟩
theorem XwR:∀ n,XwJ [.pointer none,.int .i64 0,.int .i64 0,.int .i64 0,.int .i64 0,.int .i64 0] n=fl Xlv (List.replicate n none)
 |0=>rfl
 |n+1=>by rw [XwJ,XwR n,List.replicate_succ]; rfl
structure XaW (c:Conf) (w:World) (g cap:Nat) (r:List Value) (mb tm vb:Nat):Prop where
 g:w.heap[g]? = some (.cells (c.keep.map (Value.int .i64)++r).toArray 3 (0,0))
 gc:c.keep.length≤cap
 m:XaO w mb 0 0
 t:XaL w tm []
 v:w.heap[vb]? = some (.cells (fl Xlv (List.replicate c.classes.length none)).toArray 190 (0,0))
theorem XaW.grow {c:Conf} {w w':World} {g cap:Nat} {r:List Value} {mb tm vb:Nat} (h:XaW c w g cap r mb tm vb) (hc:Chg XaX w w'):XaW c w' g cap r mb tm vb:=⟨hc.heap' h.g,h.gc,h.m.chg hc,h.t.chg hc id,hc.heap' h.v⟩
def XlF (c:Conf) (p:Xal) (g cap mb tm vb:Nat) (a r v:Value):List Value:=Xfl c p ++ [.slice (some ⟨g,0,none⟩) c.keep.length cap,.pointer (some ⟨mb,0,none⟩),a,r,v,.map (some tm),.slice (some ⟨vb,0,none⟩) c.classes.length c.classes.length,.int .i64 0]
theorem XaW.note {c:Conf} {w w':World} {g cap:Nat} {r:List Value} {mb tm vb xb:Nat} (h:XaW c w g cap r mb tm vb) (hc:Chg (fun z=>z=xb) w w') (h1:g≠xb) (h2:mb≠xb) (h3:tm≠xb) (h4:vb≠xb):XaW c w' g cap r mb tm vb :=
 ⟨hc.heap h.g h1,h.gc,⟨hc.heap h.m.1 h2,h.m.2⟩,h.t.chg hc h3,hc.heap h.v h4⟩
theorem Xbh.apart {F:Nat→Prop} {w w':World} {R:Rm} {M:RmM} (h:Xbh F w R M) {w0:World} (hcf:Xam w0 R.c R.p) (ht:XbD w0) {xb t:Nat} {l:List Value} {n:Int} {fz:Nat × Nat} (hx:w.heap[xb]? = some (.cells (.int .i64 n::l).toArray t fz)) (h0:w0.heap.size≤xb) (hF:¬ F xb) (htk:t≠329∧t≠325∧t≠3∧t≠206) (hc:Chg (fun z=>z=xb) w w'):Xbh F w' R M:=by
 have hm:=XkN h.may;have a:=XiO hx;refine h.other hc fun z e=>e▸⟨hF,XiU (XiO h.obj) a (fun e=>htk.2.2.2 (Option.some.inj (Option.some.inj e)).symm),fun e => ?_,fun e => ?_,fun off s e => ?_,fun off s e => ?_,?_,?_,fun e => ?_⟩
 ·have b:=h.sl 0 (by have:=hm.n; have:=h.ok.n; omega);rw [e,Xel hx] at b;cases b
 ·have:=World.block_lt_of_cell? w0 _ (ht 0 (by decide));simp only at this
  omega
 ·have:=hcf.classes.block (by have:=hm.n; omega) e;omega
 ·have:=hcf.keep.block (by have:=hm.keep; have:=hm.n; omega) e;omega
 ·rw [a]; exact fun e=>htk.1 (Option.some.inj (Option.some.inj e))
 ·rw [a]; exact fun e=>htk.2.1 (Option.some.inj (Option.some.inj e))
 ·rw [a] at e; exact absurd (Option.some.inj (Option.some.inj e)) htk.2.2.1
theorem XtF {c:Conf} {p:Xal} {w w7 w':World} {g cap mb tm vb xb vw:Nat} {r:List Value} {A:Ar} {R:Rm} {Fr:Nat→Prop} (hc:Xam w c p) (ht:XbD w) (hcw:Chg XaX w w') (hm:XkH c=true)
 (hx:w'.heap[xb]? = some (.cells (XlF c p g cap mb tm vb (.pointer (some ⟨A.ab,0,none⟩)) (rmV R) (.pointer (some ⟨vw,0,none⟩))).toArray 135 (0,0))) (hN:XaW c w' g cap r mb tm vb)
 (hA:Xag w' A ⟨XwU (c.pages*c.size).toNat,0,0⟩) (hAm:A.mb=some mb) (hR:Xbh Fr w' R (XlH c 0)) (hRc:R.c=c) (hRp:R.p=p) (hRm:R.mo=some mb) (hRl:R.lap=0) (hRX:R.X=fun z=>z=g)
 (hV:XbS w' ⟨vw,c,p,A.ab,some mb⟩) (hFr:∀ z,Fr z→w7.heap.size≤z∨z=mb) (hFv:¬ Fr vw) (h7:w.heap.size≤w7.heap.size)
 (l1:w.heap.size≤g∧g<w7.heap.size) (l2:w.heap.size≤mb) (l3:w.heap.size≤tm∧tm<w7.heap.size) (l4:w.heap.size≤vb∧vb<w7.heap.size) (l5:w.heap.size≤xb∧xb<w7.heap.size) (l6:w.heap.size≤A.db∧A.db<w7.heap.size) (l7:A.ab<w7.heap.size∧A.mc<w7.heap.size) :
 ∃ F Fr S mo,XtA S = .pointer (some ⟨xb,0,none⟩)∧XbC F Fr w' S (XlO c) 0 mo∧(S.c=c∧S.p=p)∧S.R.lap=0 ∧ ∀ z,F z→w.heap.size≤z:=by
 have d:=XkN hm;have kx:=XiO hx;have kg:=XiO hN.g;have km:=XiT hN.m;have kt:=XiS hN.t;have kv:=XiO hN.v;have kd':=XiO hA.dat;have ka:=XiO hA.obj;have kc:=XiO hA.cap;have kw:=XiO hV.obj;have kr:=XiO hR.obj;have hz:(XwU (c.size*c.pages).toNat)=XwU (c.pages*c.size).toNat:=by rw [Int.mul_comm]
 have nfr:∀ {z:Nat},z<w7.heap.size→z≠mb → ¬ Fr z:=fun x y h=>(hFr _ h).elim (by omega) y;have i:∀ z,(Fr z∨z=xb∨z=g∨z=A.db∨z=tm∨z=vb)→w.heap.size≤z:=fun z hz=>by
  rcases hz with hz | rfl | rfl | rfl | rfl | rfl
  ·rcases hFr z hz with h | h <;> omega
  all_goals omega
 have f:=hR.sl 0 (by have:=d.n; have:=hR.ok.n; rw [hRc] at this; omega);have nsb:∀ {b t:Nat} {v:Value} {l:List Value} {fz:Nat × Nat},w'.heap[b]? = some (.cells (v::l).toArray t fz)→v≠sfV (R.S 0)→R.sb≠b:=fun E G e=>by
  rw [e,Xel E] at f;exact G (Option.some.inj f)
 have q:=d.keep;have N:=d.n;have sbt:R.sb≠tm:=fun e=>by
  obtain ⟨es,clock,B,_⟩:=hN.t;rw [e] at f;unfold World.cell? at f;simp [B] at f
 have sbg:R.sb≠g:=by
  obtain ⟨C,kl,ek⟩:∃ C kl,c.keep=C::kl:=by cases H:c.keep with | nil=>rw [H] at q; simp at q; omega | cons a b=>exact ⟨a,b,rfl⟩
  have:=hN.g;rw [ek] at this;exact nsb this (fun e=>by cases e)
 have sbv:R.sb≠vb:=by
  obtain ⟨n,en⟩:∃ n,c.classes.length=n+1:=⟨c.classes.length - 1,by omega⟩;have:=hN.v;rw [en,List.replicate_succ] at this;exact nsb this (fun e=>by cases e)
 have sbd:R.sb≠A.db:=by
  obtain ⟨n,en⟩:∃ n,(c.pages*c.size).toNat=n+1:=⟨(c.pages*c.size).toNat - 1,by
   have x:1*64≤c.pages*c.size:=Int.mul_le_mul (by have:=d.pages; omega) (by have:=d.size; omega) (by omega) (by have:=d.pages; omega);omega⟩
  have:=hA.dat;simp only [en,XwU,List.replicate_succ] at this;exact nsb this (fun e=>by cases e)
 have sbx:=nsb hx (fun e=>by cases e);have tl:1<w.heap.size:=by have:=World.block_lt_of_cell? w _ (ht 0 (by decide)); exact this
 have far:∀ {a:Option Addr} {l:List Int},Rd .i64 w a l→Far (fun z=>Fr z∨z=xb∨z=g∨z=A.db∨z=tm∨z=vb) w' a l:=fun D=>⟨D.chg hcw,fun I b off s e hz=>by have:=D.block I e; have:=i b hz; omega⟩;have nF:∀ {b:Nat},¬ Fr b→b≠xb→b≠g→b≠A.db→b≠tm→b≠vb → ¬ (Fr b∨b=xb∨b=g∨b=A.db∨b=tm∨b=vb):=fun J x y K L M hz=>by
  rcases hz with hz | hz | hz | hz | hz | hz
  ·exact J hz
  ·exact x hz
  ·exact y hz
  ·exact K hz
  ·exact L hz
  ·exact M hz
 have u:∀ (k b:Nat) m,(List.replicate c.classes.length (none:Option (Nat × MvM)))[k]?≠some (some (b,m)):=fun k b m e=>by
  have:=List.mem_of_getElem? e;rw [List.mem_replicate] at this;cases this.2
 refine ⟨fun z=>Fr z∨z=xb∨z=g∨z=A.db∨z=tm∨z=vb,Fr,⟨xb,c,p,g,cap,r,mb,A,R,⟨vw,c,p,A.ab,some mb⟩,tm,vb,c.classes.length⟩,List.replicate c.classes.length none,rfl,?_,⟨rfl,rfl⟩,hRl,i⟩;exact {
  obj:=by
   show w'.heap[xb]? = some (.cells (Xtz _ c.keep.length (List.replicate c.classes.length (none:Option MvM)).length 0).toArray _ _)
   rw [List.length_replicate]; exact hx
  kee:=hN.g,kcap:=hN.gc,room:=hR,
  ar:=by
   show Xag w' A ⟨XwU (c.size*c.pages).toNat,0,R.lap⟩
   rw [hz,hRl]; exact hA
  vw:=hV,
  th:=⟨[],hN.t,List.nodup_nil,(fun o t h=>by
   have:=List.mem_of_getElem? h;simp only [XlO,List.mem_replicate] at this;cases this.2),fun k _=>rfl⟩
  mvs:=hN.v,mvc:=by show (List.replicate _ _).length≤_; rw [List.length_replicate]; exact Nat.le_refl _
  mom:=by unfold Xk5 XlO; rw [List.map_replicate]; rfl
  mob:=fun k b m h=>absurd h (u k b m),mdj:=fun j k b m m' h _=>absurd h (u j b m)
  rc:=hRc,rp:=hRp,rmo:=hRm,rX:=hRX,amb:=hAm,vc:=rfl,vp:=rfl,vab:=rfl,vmb:=rfl
  f1:=fun z hz => .inl hz,f2:=⟨.inr (.inl rfl),.inr (.inr (.inl rfl)),.inr (.inr (.inr (.inl rfl))),.inr (.inr (.inr (.inr (.inl rfl)))),.inr (.inr (.inr (.inr (.inr rfl))))⟩
  nr:=⟨nfr l5.2 (XiU kx km (by decide)),nfr l1.2 (XiU kg km (by decide)),nfr l6.2 (XiU kd' km (by decide)),nfr l3.2 (XiU kt km (by simp)),nfr l4.2 (XiU kv km (by decide))⟩
  nF:=⟨nF (nfr l7.1 (XiU ka km (by decide))) (XiU ka kx (by decide)) (XiU ka kg (by decide)) (XiU ka kd' (by decide)) (XiU ka kt (by simp)) (XiU ka kv (by decide)),
   nF (nfr l7.2 (XiU kc km (by decide))) (XiU kc kx (by decide)) (XiU kc kg (by decide)) (XiU kc kd' (by decide)) (XiU kc kt (by simp)) (XiU kc kv (by decide)),
   nF hFv (XiU kw kx (by decide)) (XiU kw kg (by decide)) (XiU kw kd' (by decide)) (XiU kw kt (by simp)) (XiU kw kv (by decide)),
   nF hR.rf (XiU kr kx (by decide)) (XiU kr kg (by decide)) (XiU kr kd' (by decide)) (XiU kr kt (by simp)) (XiU kr kv (by decide)),
   nF hR.sf sbx sbg sbd sbt sbv,fun hz=>by have:=i _ hz; omega⟩
  ca:=far hc.classes,ka:=far hc.keep
  low:=fun z hz=>by
   rcases hz with hz | rfl | rfl | rfl | rfl | rfl
   ·exact hR.low z hz
   ·exact Xkj hx
   ·exact Xkj hN.g
   ·exact Xkj hA.dat
   ·exact XiR kt
   ·exact Xkj hN.v}
set_option maxHeartbeats 2000000 in
theorem XtP (c:Conf) (p:Xal) (w:World) (hc:Xam w c p) (ht:XbD w) (hm:XkH c=true):Xan Tryz.prog 36 #[.agg (Xfl c p).toArray] w (fun v w' => ∃ F Fr S mo,v = .tuple #[XtA S,.int .i64 0]∧XbC F Fr w' S (XlO c) 0 mo∧(S.c=c∧S.p=p)∧S.R.lap=0∧(∀ z,F z→w.heap.size≤z)∧Chg XaX w w'):=by
 have E:=XkN hm;have dp:=E.keep;have dq:=E.n;have bv:XcE c.pages c.size=true:=by
  have:=E.size; have:=E.pages;refine XcF.2 ⟨by omega,by omega,by omega,by omega,?_⟩;have h8:=hm;unfold XkH at h8;simp only [Bool.and_eq_true] at h8;exact (Xr0.1 h8.1.1.1.1.1.1.1).2.2
 refine Xan.enter Tryz.func36 rfl Tryz.ntmps36 rfl rfl ?_;refine ζa rfl ?_;refine Xay.alloc hTT rfl ?_;intro b w1 e1 hb bf dr;refine ζa rfl ?_;replace hb:w1.heap[b]? = some (.cells (Xfl c p).toArray 24 (0,0)):=hb;refine Xay.loads hTT rfl hb rfl rfl ?_;refine ζc rfl (Xfo c p w1 (hc.chg bf)) ?_;rintro _ n ⟨rfl,bg⟩;refine ζa rfl ?_;have em:XkK c=0:=by unfold XkK; rw [if_pos hm]
 rw [em];refine Xay.no hTT rfl rfl rfl ?_;have O:=bg.heap' hb;have W:=bf.trans bg;obtain ⟨ds,koff,eka,_⟩:=hc.keep 0 (by omega);have hC:∀ w',Chg XaX n w'→Xan Tryz.prog 85 #[.slice p.ka c.keep.length p.kc] w' (fun v j=>Chg XaX n j∧Chg XaX w' j ∧ ∃ g cap r,v = .slice (some ⟨g,0,none⟩) c.keep.length cap∧n.heap.size≤g∧j.heap[g]? = some (.cells (c.keep.map (Value.int .i64)++r).toArray 3 (0,0))∧c.keep.length≤cap):=fun w' f =>
  (Xfa p.ka p.kc c.keep w' (hc.keep.chg (W.trans f)) (by omega) ⟨_,eka⟩).mono fun v j ⟨g,cp,r,a1,a2,a3,a4,a5⟩=>⟨f.trans a5,a5,g,cp,r,a1,by have:=f.size; omega,a3,a4⟩
 have hM:∀ w',Chg XaX n w'→Xan Tryz.prog 86 #[] w' (fun v j=>Chg XaX n j∧Chg XaX w' j ∧ ∃ mb,v = .pointer (some ⟨mb,0,none⟩)∧n.heap.size≤mb∧XaO j mb 0 0):=fun w' f =>
  (XkX w').mono fun v j ⟨a1,a2,a3,a4⟩=>⟨f.trans a3,a3,w'.heap.size,a1,f.size,a2⟩
 refine Xay.drawn (q:=10) XaX hTT Xk3 (by kernel_rfl) rfl ?_;intro d;refine Xaq.loads hTT d rfl O (by first | exact fun h=>h | (intro h; omega) | assumption) rfl rfl ?_;refine Xaq.loadb hTT d rfl O (by first | exact fun h=>h | (intro h; omega) | assumption) rfl rfl ?_;refine Xaq.loadb hTT d rfl O (by first | exact fun h=>h | (intro h; omega) | assumption) rfl rfl ?_;refine Xaq.turn3 d rfl ?_ ?_ ?_
 all_goals
  intro wa k1
  first
  |have t:=hC _ k1;refine XbO.call rfl t.fn (fun _=>t) ?_;rintro _ wb q0 ⟨q1,g,cap,r,rfl,bh,G,al⟩;refine Xaq.adv hTT d rfl ?_
  |have a6:=(k1).size;refine XbO.mkmap hTT d rfl (fun _=>rfl) ?_;intro tm wb etm x q1 am;have an:n.heap.size≤tm:=by omega
  |have a7:=(k1).size;refine XbO.make hTT d rfl rfl rfl (Nat.le_refl _) (show 48*c.classes.length≤140737488355328 by omega) (by omega) (fun _=>rfl) ?_;intro vb wb evb i q1 ao;replace i:(wb).heap[vb]? = some (.cells (XwJ [.pointer none,.int .i64 0,.int .i64 0,.int .i64 0,.int .i64 0,.int .i64 0] c.classes.length).toArray 190 (0,0)):=i;rw [XwR] at i;have ap:n.heap.size≤vb:=by omega
 all_goals first | refine Xaq.turn3 d rfl ?_ ?_ ?_ | refine Xaq.turn2 d rfl ?_ ?_
 all_goals
  intro wc a2;have k2:=(k1.trans q1).trans a2
  first
  |have t:=hC _ k2;refine XbO.call rfl t.fn (fun _=>t) ?_;rintro _ wd q0 ⟨q2,g,cap,r,rfl,bh,G,al⟩;refine Xaq.adv hTT d rfl ?_
  |have u:=hM _ k2;refine XbO.call rfl u.fn (fun _=>u) ?_;rintro _ wd q0 ⟨q2,mb,rfl,bi,H⟩;refine Xaq.adv hTT d rfl ?_
  |have a6:=(k2).size;refine XbO.mkmap hTT d rfl (fun _=>rfl) ?_;intro tm wd etm x q2 am;have an:n.heap.size≤tm:=by omega
  |have a7:=(k2).size;refine XbO.make hTT d rfl rfl rfl (Nat.le_refl _) (show 48*c.classes.length≤140737488355328 by omega) (by omega) (fun _=>rfl) ?_;intro vb wd evb i q2 ao;replace i:(wd).heap[vb]? = some (.cells (XwJ [.pointer none,.int .i64 0,.int .i64 0,.int .i64 0,.int .i64 0,.int .i64 0] c.classes.length).toArray 190 (0,0)):=i;rw [XwR] at i;have ap:n.heap.size≤vb:=by omega
 all_goals first | refine Xaq.turn2 d rfl ?_ ?_ | refine Xaq.turn1 d rfl ?_
 all_goals
  intro we a3;have k3:=(k2.trans q2).trans a3
  first
  |have t:=hC _ k3;refine XbO.call rfl t.fn (fun _=>t) ?_;rintro _ wf q0 ⟨q3,g,cap,r,rfl,bh,G,al⟩;refine Xaq.adv hTT d rfl ?_
  |have u:=hM _ k3;refine XbO.call rfl u.fn (fun _=>u) ?_;rintro _ wf q0 ⟨q3,mb,rfl,bi,H⟩;refine Xaq.adv hTT d rfl ?_
  |have a6:=(k3).size;refine XbO.mkmap hTT d rfl (fun _=>rfl) ?_;intro tm wf etm x q3 am;have an:n.heap.size≤tm:=by omega
  |have a7:=(k3).size;refine XbO.make hTT d rfl rfl rfl (Nat.le_refl _) (show 48*c.classes.length≤140737488355328 by omega) (by omega) (fun _=>rfl) ?_;intro vb wf evb i q3 ao;replace i:(wf).heap[vb]? = some (.cells (XwJ [.pointer none,.int .i64 0,.int .i64 0,.int .i64 0,.int .i64 0,.int .i64 0] c.classes.length).toArray 190 (0,0)):=i;rw [XwR] at i;have ap:n.heap.size≤vb:=by omega
 all_goals refine Xaq.turn1 d rfl ?_
 all_goals
  intro wg a4;have k4:=(k3.trans q3).trans a4
  first
  |have u:=hM _ k4;refine XbO.call rfl u.fn (fun _=>u) ?_;rintro _ wh q0 ⟨q4,mb,rfl,bi,H⟩;refine Xaq.adv hTT d rfl ?_
  |have a6:=(k4).size;refine XbO.mkmap hTT d rfl (fun _=>rfl) ?_;intro tm wh etm x q4 am;have an:n.heap.size≤tm:=by omega
  |have a7:=(k4).size;refine XbO.make hTT d rfl rfl rfl (Nat.le_refl _) (show 48*c.classes.length≤140737488355328 by omega) (by omega) (fun _=>rfl) ?_;intro vb wh evb i q4 ao;replace i:(wh).heap[vb]? = some (.cells (XwJ [.pointer none,.int .i64 0,.int .i64 0,.int .i64 0,.int .i64 0,.int .i64 0] c.classes.length).toArray 190 (0,0)):=i;rw [XwR] at i;have ap:n.heap.size≤vb:=by omega
 all_goals
  refine Xaq.nil d ?_;intro wz a5;refine ζa rfl ?_;have c4:=a5;have c3:=(a4.trans q4).trans c4;have c2:=(a3.trans q3).trans c3;have c1:=(a2.trans q2).trans c2;have kz:=(k4.trans q4).trans a5;have hN:XaW c wz g cap r mb tm vb:=⟨by first | exact c1.heap' G | exact c2.heap' G | exact c3.heap' G | exact c4.heap' G,al,by first | exact H.chg c1 | exact H.chg c2 | exact H.chg c3 | exact H.chg c4,by first | exact x.chg c1 id | exact x.chg c2 id | exact x.chg c3 id | exact x.chg c4 id,by first | exact c1.heap' i | exact c2.heap' i | exact c3.heap' i | exact c4.heap' i⟩;refine Xay.build hTT rfl rfl ?_;refine Xay.alloc hTT rfl ?_;intro xb wy exb P ae dt;refine ζa rfl ?_;replace P:wy.heap[xb]? = some (.cells (XlF c p g cap mb tm vb (.pointer none) (.pointer none) (.pointer none)).toArray 135 (0,0)):=P;have bj:=hN.grow ae;have az:=(kz.trans ae).heap' O;have ck:∀ w',Chg XaX wy w'→Xan Tryz.prog 87 #[.int .i64 c.pages,.int .i64 c.size,.pointer (some ⟨mb,0,none⟩)] w' (fun v j=>Chg (fun z=>z=xb) w' j∧Chg XaX wy j ∧ ∃ A:Ar,v = .tuple #[.pointer (some ⟨A.ab,0,none⟩),.int .i64 0]∧A.mb=some mb∧wy.heap.size≤A.ab∧wy.heap.size≤A.db∧wy.heap.size≤A.mc∧Xag j A ⟨XwU (c.pages*c.size).toNat,0,0⟩):=fun w' f =>
   (XcJ (some mb) 0 0 c.pages c.size w' (fun b e=>by cases e; exact (bj.grow f).m) bv).mono fun v j ⟨A,x1,x2,x3,x4,x5,x6,x7⟩=>⟨x7.mono fun _ _ h=>h.elim,f.trans x7,A,x1,x2,by have:=f.size; omega,by have:=f.size; omega,by have:=f.size; omega,x6⟩
  refine Xay.drawn (q:=16) (fun z=>z=xb) hTT Xk3 (by kernel_rfl) rfl ?_;intro d;have bk:¬ b=xb:=by have:=Xkj (kz.heap' O); omega
  refine Xaq.loadb hTT d rfl az (by first | exact fun h=>h | (intro h; omega) | assumption) rfl rfl ?_;refine Xaq.loadb hTT d rfl az (by first | exact fun h=>h | (intro h; omega) | assumption) rfl rfl ?_;refine Xaq.turn1 d rfl ?_;intro j bl;refine XbO.loadb hTT d rfl (bl.heap' P) rfl rfl ?_;have c6:=fun w' (f:Chg XaX j w')=>ck w' (bl.trans f);refine Xaq.callQ d rfl rfl (c6) ?_;rintro _ w4 du ⟨Q,A,rfl,T,dv,dw,dx,cm⟩;refine Xaq.adv hTT d rfl ?_;refine Xaq.turn1 d rfl ?_;intro w5 I;refine XbO.store hTT d rfl ((Q.trans I).heap' P) (by first | (intro h; exact rfl) | (intro h; omega)) rfl rfl rfl ?_;intro w6 ab af dy;refine Xaq.nil d ?_;intro w7 J;refine ζa rfl ?_;replace ab:w6.heap[xb]? = some (.cells (XlF c p g cap mb tm vb (.pointer (some ⟨A.ab,0,none⟩)) (.pointer none) (.pointer none)).toArray 135 (0,0)):=ab;have dz:=W.size;have szz:=kz.size;have szy:=ae.size;have s4:=Q.size;have s5:=I.size;have s7:=J.size;have lg:=Xkj hN.g;have lm:=Xkj hN.m.1;have lt':=hN.t.lt;have lv:=Xkj hN.v;have lx:=Xkj P;have c7:Chg XaX w w5:=(((W.trans kz).trans ae).trans Q).trans I;have y:Chg XaX w w7:=(c7.since af (fun z K e=>by omega)).trans J;have bm:XaW c w7 g cap r mb tm vb:=((bj.grow (Q.trans I)).note af (by omega) (by omega) (by omega) (by omega)).grow J;have ag:Xag w7 A ⟨XwU (c.pages*c.size).toNat,0,0⟩:=((cm.grow I).chg af (fun b' U e=>by
   rcases U with h | h | h | h
   ·omega
   ·omega
   ·omega
   ·rw [T] at h; have:=Option.some.inj h; omega)).grow J
  have bn:=J.heap' (af.heap ((Q.trans I).heap' az) bk);have b0:=J.heap' ab;have la:=Xkj ag.obj;have ld:=Xkj ag.dat;have lc:=Xkj ag.cap;have cn:∀ w',Chg XaX w7 w'→Xan Tryz.prog 88 #[.agg (Xfl c p).toArray,.pointer (some ⟨mb,0,none⟩)] w' (fun v j=>Chg (fun z=>z=xb) w' j∧Chg XaX w7 j ∧ ∃ Fr R,v = .tuple #[rmV R,.int .i64 0]∧R.c=c∧R.p=p∧R.mo=some mb∧R.lap=0∧(R.X=fun z=>z=g)∧Xbh Fr j R (XlH c 0) ∧ ∀ z,Fr z→w7.heap.size≤z∨z=mb):=fun w' f=>by
   have co:=(bm.grow f).m;have far:∀ {a:Option Addr} {l:List Int},Rd .i64 w a l→Far (fun z=>z=mb) w' a l:=fun hr=>⟨hr.chg (y.trans f),fun hl b1 off s1 e K=>by have:=hr.block hl e; omega⟩;refine (Xqk c p (some mb) 0 0 (fun z=>z=g) w' (hc.chg (y.trans f)) (ht.grow (y.trans f)) (fun z e=>⟨by have:=f.size; omega,fun e2=>by have e3:=Option.some.inj e2; exact XiU (XiO hN.g) (XiT hN.m) (by decide) (e.symm.trans e3.symm)⟩) (fun b1 e=>by cases e; exact ⟨co,far hc.classes,far hc.keep⟩) (by decide)).mono fun v j ⟨x1,x2⟩ => ?_;rw [if_pos hm] at x2;obtain ⟨Fr,R,y1,y2,y3,y4,y5,y6,y7,y8⟩:=x2;exact ⟨x1.mono fun _ _ h=>h.elim,f.trans x1,Fr,R,y4,y1,y2,y3,y7,y8,y5,fun z K=>(y6 z K).imp (fun h=>by have:=f.size; omega) (fun h=>(Option.some.inj h).symm)⟩
  refine Xay.drawn (q:=13) (fun z=>z=xb) hTT Xk3 (by kernel_rfl) rfl ?_;intro d;refine Xaq.loads hTT d rfl bn (by first | exact fun h=>h | (intro h; omega) | assumption) rfl rfl ?_;refine Xaq.turn1 d rfl ?_;intro w8 bo;refine XbO.loadb hTT d rfl (bo.heap' b0) rfl rfl ?_;have ca:=fun w' (f:Chg XaX w8 w')=>cn w' (bo.trans f);refine Xaq.callQ d rfl rfl (ca) ?_;rintro _ w9 e0 ⟨b2,Fr,R,rfl,bp,bq,cs,ct,cu,cv,br⟩;refine Xaq.adv hTT d rfl ?_;refine Xaq.turn1 d rfl ?_;intro e4 L;refine XbO.store hTT d rfl ((b2.trans L).heap' b0) (by first | (intro h; exact rfl) | (intro h; omega)) rfl rfl rfl ?_;intro cw M B dj;refine Xaq.nil d ?_;intro V m;refine ζa rfl ?_;replace M:cw.heap[xb]? = some (.cells (XlF c p g cap mb tm vb (.pointer (some ⟨A.ab,0,none⟩)) (rmV R) (.pointer none)).toArray 135 (0,0)):=M;have s9:=b2.size;have e5:=L.size;have e6:=m.size;have bs:¬ Fr xb:=fun K=>(br xb K).elim (by omega) (by omega);have o:=b2.trans L;have bd:=y.trans o;have ah:Chg XaX w V:=(bd.since B (fun z K e=>by omega)).trans m;have e7:∀ {a r2 v2:Value},XlF c p g cap mb tm vb a r2 v2 = .int .i64 c.size::(XlF c p g cap mb tm vb a r2 v2).tail:=rfl;have bt:Xam w R.c R.p:=by rw [bp,bq]; exact hc
  have b3:Xbh Fr V R (XlH c 0):=((cv.grow L).apart bt ht (o.heap' b0) (by omega) bs (by decide) B).grow m;have cb:=((bm.grow o).note B (by omega) (by omega) (by omega) (by omega)).grow m;have b4:=((ag.grow o).chg B (fun b' U e=>by
   rcases U with h | h | h | h
   ·omega
   ·omega
   ·omega
   ·rw [T] at h; have:=Option.some.inj h; omega)).grow m
  have C:=m.heap' M;have cc:=m.heap' (B.heap (o.heap' bn) bk);have cz:((XwU (c.pages*c.size).toNat).length:Int)=c.size*c.pages:=by
   rw [XwW,Int.mul_comm];exact Int.toNat_of_nonneg (Int.mul_nonneg (by have:=E.size; omega) (by have:=E.pages; omega))
  have d0:∀ w',Chg XaX V w'→Xan Tryz.prog 89 #[.agg (Xfl c p).toArray,.pointer (some ⟨A.ab,0,none⟩),.pointer (some ⟨mb,0,none⟩)] w' (fun v j=>Chg (fun z=>z=xb) w' j∧Chg XaX V j ∧ ∃ vw,v = .tuple #[.pointer (some ⟨vw,0,none⟩),.int .i64 0]∧V.heap.size≤vw∧XbS j ⟨vw,c,p,A.ab,some mb⟩):=fun w' f=>by
   have bu:=XvI c p A ⟨XwU (c.pages*c.size).toNat,0,0⟩ w' (hc.chg (ah.trans f)) (b4.grow f);rw [T] at bu;refine bu.mono fun v j ⟨x1,x2⟩ => ?_;rw [if_pos ⟨hm,cz⟩] at x2;obtain ⟨vw,y1,y2,y3⟩:=x2;exact ⟨x1.mono fun _ _ h=>h.elim,f.trans x1,vw,y1,by have:=f.size; omega,y3⟩
  refine Xay.drawn (q:=17) (fun z=>z=xb) hTT Xk3 (by kernel_rfl) rfl ?_;intro d;refine Xaq.loads hTT d rfl cc (by first | exact fun h=>h | (intro h; omega) | assumption) rfl rfl ?_;refine Xaq.turn2 d rfl ?_ ?_
  all_goals
   intro e8 ac;refine XbO.loadb hTT d rfl (ac.heap' C) rfl rfl ?_;refine Xaq.turn1 d rfl ?_;intro d1 b5;refine XbO.loadb hTT d rfl ((ac.trans b5).heap' C) rfl rfl ?_;have cd:=fun w' (f:Chg XaX d1 w')=>d0 w' ((ac.trans b5).trans f);refine Xaq.callQ d rfl rfl (cd) ?_;rintro _ e9 dk ⟨b6,vw,rfl,ea,hV⟩;refine Xaq.adv hTT d rfl ?_;refine Xaq.turn1 d rfl ?_;intro eb ad;refine XbO.store hTT d rfl ((b6.trans ad).heap' C) (by first | (intro h; exact rfl) | (intro h; omega)) rfl rfl rfl ?_;intro ec be D dm;refine Xaq.nil d ?_;intro b7 s;refine ζa rfl ?_;have k:=b6.trans ad;have ce:=s.heap' be;have ed:=Xkj C;have d7:=k.size;have N:Chg XaX w b7:=((ah.trans k).since D (fun z K e=>by omega)).trans s;have cf:Xbh Fr b7 R (XlH c 0):=((b3.grow k).apart bt ht (k.heap' C) (by omega) bs (by decide) D).grow s;have cg:=((cb.grow k).note D (by omega) (by omega) (by omega) (by omega)).grow s;have ch:=((b4.grow k).chg D (fun b' U e=>by
    rcases U with h | h | h | h
    ·omega
    ·omega
    ·omega
    ·rw [T] at h; have:=Option.some.inj h; omega)).grow s
   have ci:XbS b7 ⟨vw,c,p,A.ab,some mb⟩:=⟨s.heap' (D.heap (ad.heap' hV.obj) (by simp only; omega)),hc.chg N,hm⟩;have d2:¬ Fr vw:=fun K=>by have:=b3.low vw K; omega
   obtain ⟨F,d3,S,mo,eS,hS,d4,d5,d6⟩:=XtF (w7:=w7) hc ht N hm ce cg ch T cf bp bq cs ct cu ci br d2 y.size (by omega) (by omega) (by omega) (by omega) (by omega) (by omega) (by omega);exact Xay.ret2 hTT rfl Tryz.func36 rfl rfl rfl ⟨F,d3,S,mo,by rw [eS],hS,d4,d5,d6,N⟩
structure Xav (n:Nat) (S:Sto):Prop where
 ab:S.A.ab<n
 mc:S.A.mc<n
 vb:S.v.vb<n
 rb:S.R.rb<n
 sb:S.R.sb<n
 tab:1<n
 ca:∀ b off s,S.p.ca=some ⟨b,off,s⟩→b<n
 ka:∀ b off s,S.p.ka=some ⟨b,off,s⟩→b<n
section
variable {F Fr:Nat→Prop} {w w':World} {S:Sto} {s:StM} {by':Int} {mo:Mo}
theorem XbC.fixed (h:XbC F Fr w S s by' mo):Xav w.heap.size S:=by
 have a:=h.room;have c:=XkN a.may;have d:=h.rc;rw [d] at c;exact ⟨Xkj h.ar.obj,Xkj h.ar.cap,Xkj h.vw.obj,Xkj a.obj,World.block_lt_of_cell? w _ (a.sl 0 (by have:=c.n; have:=a.ok.n; rw [d] at this; omega)),World.block_lt_of_cell? w _ (a.tab 0 (by decide)),
  fun b off s e=>h.ca.1.block (by have:=c.n; omega) e,fun b off s e=>h.ka.1.block (by have:=c.keep; have:=c.n; omega) e⟩
theorem XbC.one (h:XbC F Fr w S s by' mo) {b:Nat} (he:Xas F w S b) (hc:Chg (fun z=>z=b) w w'):XbC F Fr w' S s by' mo:=by
 refine h.other hc (fun z e=>e▸he) ?_;obtain ⟨t,g,ht⟩:=he.kd;intro al d k sz q c;obtain ⟨v,i,x,j,l⟩:=h.th;have:=i.uniq d;subst this;by_cases a:∀ (o:Nat) t,s.th[o]? = some (some t)→(o:Int)≠k
 ·rw [l k a] at c; cases c
 ·simp only [Classical.not_forall,Decidable.not_not] at a;obtain ⟨o,m,n,p⟩:=a;obtain ⟨y,_,f,_,_,r⟩:=j o m n;rw [p,c] at f;have e:=XuQ (Option.some.inj f);rw [e];intro b' off s' e' u;have:=r b' off s' e';rw [u,g] at this;exact ht.2.2 (Option.some.inj (Option.some.inj this))
theorem XbC.boxed (h:XbC F Fr w S s by' mo) {n b t:Nat} (hf:Xav n S) (hb:n≤b) (hF:¬ F b) (hk:kd w b=some (some t)) (ht:t≠329∧t≠325∧t≠3) (hc:Chg (fun z=>z=b) w w'):XbC F Fr w' S s by' mo:=by
 obtain ⟨f1,f2,d,f,g,i,a,c⟩:=hf;exact h.one ⟨hF,⟨by omega,by omega,by omega,by omega,by omega,by omega⟩,fun off s e=>by have:=a _ _ _ e; omega,fun off s e=>by have:=c _ _ _ e; omega,t,hk,ht⟩ hc
theorem XbC.old (h:XbC F Fr w S s by' mo) {b t:Nat} {v:Value} {l:List Value} {fz:Nat × Nat} (hb:w.heap[b]? = some (.cells (v::l).toArray t fz)) (hF:¬ F b) (ht:(t≠329∧t≠325∧t≠3)∧t≠199∧t≠127∧t≠211∧t≠206) (hv:∀ x,v≠sfV x) (htab:1≠b) (hca:∀ off s,S.p.ca≠some ⟨b,off,s⟩) (hka:∀ off s,S.p.ka≠some ⟨b,off,s⟩) (hc:Chg (fun z=>z=b) w w'):XbC F Fr w' S s by' mo:=by
 have c:=h.room;have g:=XkN c.may;have d:=XiO hb;have ne:∀ {a t':Nat},kd w a=some (some t')→t≠t'→a≠b:=fun j i=>XiU j d (fun e=>i (Option.some.inj (Option.some.inj e)).symm);have f:=c.sl 0 (by have:=g.n; have:=c.ok.n; omega);refine h.one ⟨hF,⟨ne (XiO h.ar.obj) ht.2.1,ne (XiO h.ar.cap) ht.2.2.1,ne (XiO h.vw.obj) ht.2.2.2.1,ne (XiO c.obj) ht.2.2.2.2,fun e => ?_,htab⟩,hca,hka,t,d,ht.1⟩ hc;rw [e,Xel hb] at f;exact hv _ (Option.some.inj f)
end
structure Lv (c:Conf) (n0:Nat) (w0 w:World) (F:Nat→Prop) (S:Sto) (s:StM):Prop where
 ok:∃ Fr mo,XbC F Fr w S s (XsW s) mo
 inv:s.Ok c
 sc:S.c=c
 fx:Xav n0 S
 base:∀ z,F z→w0.heap.size≤z
 chg:Chg XaX w0 w
def XaJ (c:Conf) (n0:Nat) (w0 w:World) (F:Nat→Prop) (S:Sto) (s:StM) (w':World):Prop := ∃ F',Lv c n0 w0 w' F' S s∧(∀ z,F' z→F z∨w.heap.size≤z)∧Chg F w w'
section
variable {c:Conf} {n0:Nat} {w0 w w':World} {F:Nat→Prop} {S:Sto} {s s':StM}
theorem Lv.low (h:Lv c n0 w0 w F S s):∀ z,F z→z<w.heap.size:=by obtain ⟨_,_,a⟩:=h.ok; exact a.low
theorem Lv.grow (h:Lv c n0 w0 w F S s) (hc:Chg XaX w w'):Lv c n0 w0 w' F S s:=by
 obtain ⟨Fr,mo,a⟩:=h.ok;exact {h with ok:=⟨Fr,mo,a.grow hc⟩,chg:=h.chg.trans hc}
theorem Lv.box (h:Lv c n0 w0 w F S s) {b t:Nat} (hb:n0≤b) (hF:¬ F b) (hk:kd w b=some (some t)) (ht:t≠329∧t≠325∧t≠3) (hc:Chg (fun z=>z=b) w w') (h0:w0.heap.size≤b):Lv c n0 w0 w' F S s:=by
 obtain ⟨Fr,mo,a⟩:=h.ok;exact {h with ok:=⟨Fr,mo,a.boxed h.fx hb hF hk ht hc⟩,chg:=h.chg.since hc (fun z d e=>by omega)}
theorem Lv.to (h:Lv c n0 w0 w F S s) (ht:XbB F w w' S s' (XsW s')) (hi:s'.Ok c):XaJ c n0 w0 w F S s' w':=by
 obtain ⟨F',Fr',mo',f,a,b⟩:=ht;have i:=h.chg.size;exact ⟨F',⟨⟨Fr',mo',f⟩,hi,h.sc,h.fx,fun z d=>(a z d).elim (h.base z) (fun g=>by omega),h.chg.since b (fun z d e=>by have:=h.base z e; omega)⟩,a,b⟩
theorem Lv.self (h:Lv c n0 w0 w F S s) (hc:Chg XaX w w'):XaJ c n0 w0 w F S s w':=⟨F,h.grow hc,fun _ h => .inl h,hc.mono fun _ _ h=>h.elim⟩
end
theorem Rd.keepI {w w':World} {a:Option Addr} {l:List Int} {q t:Nat} {c:Array Value} {fz:Nat × Nat} (hr:Rd .i64 w a l) (hq:w.heap[q]? = some (.cells c t fz)) (hc:∀ x ∈ c.toList,∀ z,x ≠ .int .i64 z) (hs:Chg (fun b=>b=q) w w'):Rd .i64 w' a l:=fun j f=>by
 obtain ⟨b,off,e,d⟩:=hr j f;refine ⟨b,off,e,hs.cell d (fun g => ?_)⟩;subst g;rw [Xel hq] at d;exact hc _ (Array.mem_toList_iff.2 (Array.mem_of_getElem? d)) _ rfl
theorem Xbl.keep {w w':World} {r:RP} {pl:PlM} (h:Xbl w r pl) {q t:Nat} {c:Array Value} {fz:Nat × Nat} (hq:w.heap[q]? = some (.cells c t fz)) (hc:∀ x ∈ c.toList,∀ z,x ≠ .int .i64 z) (hs:Chg (fun b=>b=q) w w'):Xbl w' r pl :=
 ⟨⟨⟨h.o.ok.rd.keepI hq hc hs,h.o.ok.len⟩,h.o.cap,h.o.lt.grow hs.size⟩,⟨⟨h.f.ok.rd.keepI hq hc hs,h.f.ok.len⟩,h.f.cap,h.f.lt.grow hs.size⟩,h.eo,h.ef⟩
structure TR where
 size:Int
 q:Plc
def trL (t:TR):List Value := .int .i64 t.size::Xoc t.q
structure VR where
 is:Bool
 who:Int
 pf:Int
 fa:Int
 pt:Int
 ta:Int
 sa:Option Addr
 sl:Nat
 sc:Nat
 st:Int
 f:Int
 t:Int
 size:Int
 gone:Int
def XvV (v:VR):List Value := [.bool v.is,.int .i64 v.who,.int .i64 v.pf,.int .i64 v.fa,.int .i64 v.pt,.int .i64 v.ta,.slice v.sa v.sl v.sc,.int .i64 v.st,.int .i64 v.f,.int .i64 v.t,.int .i64 v.size,.int .i64 v.gone]
theorem Xvi (t:TR):(trL t).length=5:=rfl
theorem XvW (t:VR):(XvV t).length=12:=rfl
abbrev tr0:TR:=⟨0,q0⟩
abbrev vr0:VR:=⟨false,0,0,0,0,0,none,0,0,0,0,0,0,0⟩
structure SR where
 c:Conf
 cp:Xal
 keep:List Int
 ka:Option Addr
 kcap:Nat
 ra:RA
 rr:RR
 ts:List TR
 ta:Option Addr
 tcap:Nat
 ms:List VR
 ma:Option Addr
 mcap:Nat
def srL (r:SR):List Value:=Xfl r.c r.cp ++ [.slice r.ka r.keep.length r.kcap]++raL r.ra++rrL r.rr ++ [.slice r.ta r.ts.length r.tcap,.slice r.ma r.ms.length r.mcap]
def Xuj (x:Option ThM) (t:TR):Prop:=t.size=szT x ∧ ∀ y,x=some y→Xoe t.q=y.q
def Xvz (x:Option MvM) (v:VR):Prop:=v.is=x.isSome ∧ ∀ m,x=some m→v.who=m.who∧v.pf=m.pf∧v.fa=m.fa∧v.pt=m.pt∧v.ta=m.ta∧v.f=m.f∧v.t=m.t∧v.size=m.size∧v.gone=m.gone
abbrev rm0 (M:RmM):RmM:={M with tot:=0}
structure Xby (w:World) (r:SR) (s:StM):Prop where
 conf:Xam w r.c r.cp
 kr:Rd .i64 w r.ka r.keep
 ke:r.keep=s.keep
 ra:Xbc w r.ra
 rb:r.ra.bs=s.bs
 rs:r.ra.steps=s.rm.tot
 la:ALt w r.ra.a
 lk:ALt w r.ka
 rr:Xbm w r.rr (rm0 s.rm)
 rc:r.rr.c=r.c
 rp:r.rr.cp=r.cp
 tr:Rows trL 5 w r.ta r.ts
 tl:ALt w r.ta
 tc:r.ts.length≤r.tcap
 tn:r.ts.length=s.th.length
 te:∀ (o:Nat) x t,s.th[o]? = some x→r.ts[o]? = some t→Xuj x t
 tq:∀ t ∈ r.ts,Xa8 w t.q∧ALt w t.q.pa
 mr:Rows XvV 12 w r.ma r.ms
 ml:ALt w r.ma
 mc:r.ms.length≤r.mcap
 mn:r.ms.length=s.mv.length
 me:∀ (k:Nat) x v,s.mv[k]? = some x→r.ms[k]? = some v→Xvz x v
structure Xbz (S:Nat→Prop) (r:SR):Prop where
 k:Xa0 S r.ka
 ra:Xa0 S r.ra.a
 rr:Xbn S r.rr
 ta:Xa0 S r.ta
 tq:∀ t ∈ r.ts,Xa0 S t.q.pa
 ma:Xa0 S r.ma
theorem Xby.grow {w w':World} {r:SR} {s:StM} (h:Xby w r s) (hc:Chg XaX w w'):Xby w' r s :=
 {h with conf:=h.conf.chg hc,kr:=h.kr.chg hc,ra:=h.ra.grow hc,la:=h.la.grow hc.size,lk:=h.lk.grow hc.size,rr:=h.rr.grow hc,tr:=h.tr.chg hc,tl:=h.tl.grow hc.size,tq:=fun t ht=>⟨(h.tq t ht).1.grow hc,(h.tq t ht).2.grow hc.size⟩,mr:=h.mr.chg hc,ml:=h.ml.grow hc.size}
theorem Xby.far {w w':World} {r:SR} {s:StM} {S:Nat→Prop} (h:Xby w r s) (ho:Xbz S r) (hcf:Xam w' r.c r.cp) (hc:Chg S w w'):Xby w' r s :=
 {h with conf:=hcf,kr:=h.kr.far ho.k hc,ra:=⟨h.ra.rd.far ho.ra hc,h.ra.len,h.ra.lc,h.ra.rng⟩,la:=h.la.grow hc.size,lk:=h.lk.grow hc.size,rr:=h.rr.far ho.rr hc,tr:=h.tr.far ho.ta hc,tl:=h.tl.grow hc.size,tq:=fun t ht=>⟨⟨(h.tq t ht).1.rd.far (ho.tq t ht) hc,(h.tq t ht).1.len⟩,(h.tq t ht).2.grow hc.size⟩,mr:=h.mr.far ho.ma hc,ml:=h.ml.grow hc.size}
def Xbr (w:World) (r r':SR):Prop:=r'.c=r.c∧r'.cp=r.cp ∧ ∀ S:Nat→Prop,(∀ z,S z→z<w.heap.size)→Xbz S r→Xbz S r'
theorem Xbr.refl (w:World) (r:SR):Xbr w r r:=⟨rfl,rfl,fun _ _ h=>h⟩
theorem Xbr.trans {w w1:World} {r r1 r2:SR} (h:Xbr w r r1) (h':Xbr w1 r1 r2) (hs:w.heap.size≤w1.heap.size):Xbr w r r2:=⟨h'.1.trans h.1,h'.2.1.trans h.2.1,fun S a b =>
 h'.2.2 S (fun z c=>by have:=a z c; omega) (h.2.2 S a b)⟩
abbrev XsS (w:World) (b:Nat) (r:SR):Prop:=w.heap[b]? = some (.cells (srL r).toArray 50 (0,0))
theorem Xby.out {w:World} {r:SR} {s:StM} {S:Nat→Prop} (h:Xby w r s) (hs:∀ z,S z→w.heap.size≤z):Xbz S r:=⟨h.lk.out hs,h.la.out hs,h.rr.out hs,h.tl.out hs,fun t ht=>(h.tq t ht).2.out hs,h.ml.out hs⟩
theorem Xby.box {w w2 w' w'':World} {r r':SR} {s s':StM} {qb:Nat} (h:Xby w r s) (hk:Xbr w2 r r') (h':Xby w' r' s') (hw:w.heap.size≤qb) (hq:qb<w2.heap.size) (hc:Chg (fun z=>z=qb) w' w'') (hcc:Chg XaX w w''):Xby w'' r' s':=by
 have a:=hk.2.2 (fun z=>z=qb) (fun z e=>e▸hq) (h.out fun z e=>e▸hw);refine h'.far a ?_ hc;have:=h.conf.chg hcc;rw [hk.1,hk.2.1];exact this
def XbA (w:World) (r:SR) (s':StM) (r':SR) (w':World):Prop:=Xby w' r' s'∧Xbr w r r'∧Chg XaX w w'
theorem XbA.self {w w':World} {r:SR} {s:StM} (h:Xby w r s) (hc:Chg XaX w w'):XbA w r s r w':=⟨h.grow hc,.refl w r,hc⟩
theorem XbA.trans {w w1 w2:World} {r r1 r2:SR} {s1 s2:StM} (h:XbA w r s1 r1 w1) (h':XbA w1 r1 s2 r2 w2):XbA w r s2 r2 w2:=⟨h'.1,h.2.1.trans h'.2.1 h.2.2.size,h.2.2.trans h'.2.2⟩
section
variable {w:World} {r:SR} {s:StM} {pd:Option (Nat × PlcM)}
end










theorem Own.rd8 {base n:Nat} {w:World} {v:Value} {l:List Int} (h:Own base 5 1 w v n (l.map (Value.int .u8))) (hn:l.length=n):∃ a cap,v = .slice a n cap∧Rd .u8 w a l ∧ ∀ b off s,a=some ⟨b,off,s⟩→base≤b∧b<w.heap.size:=by
 rcases h.2 with ⟨rfl,f⟩ | ⟨g,cap,cur,rfl,i,d,j,k,_,c⟩
 ·subst f;have:l = []:=List.length_eq_zero_iff.1 hn;subst this;exact ⟨none,0,rfl,Rd.nil _ _ _,(by intro b off s e; cases e)⟩
 ·exact ⟨_,cap,rfl,Rd.of_take d (by rw [hn]; rw [Nat.mul_one] at c; exact c),(by intro b off s e; cases e; exact ⟨i,Xkj d⟩)⟩

section
variable {c:Conf} {s:StM} {pd:Option (Nat × PlcM)}
end
structure Xaa where
 kind:Int
 own:Int
 a:Int
 b:Int
 bs:List Int
 ba:Option Addr
 bc:Nat
structure Xab (w:World) (u:Xaa):Prop where
 kind:0≤u.kind∧u.kind<256
 a : -9223372036854775808≤u.a∧u.a≤9223372036854775807
 b : -9223372036854775808≤u.b∧u.b≤9223372036854775807
 rd:Rd .u8 w u.ba u.bs
 rng:InB u.bs
 lc:u.bs.length≤u.bc
 len:u.bc≤9223372036854775807
theorem Xab.grow {w w':World} {u:Xaa} (h:Xab w u) (hc:Chg XaX w w'):Xab w' u:=⟨h.kind,h.a,h.b,h.rd.chg hc,h.rng,h.lc,h.len⟩

section
variable {c:Conf} {n0:Nat} {w0 w:World} {F:Nat→Prop} {S:Sto} {s:StM}
theorem Lv.ofE (h:Lv c n0 w0 w F S s) {s':StM} {e:Int} (hi:s'.Ok c) {P:Program} {k:FuncId} {args:Array Value} (hd:Xan P k args w (StE F w S s' e)):Xan P k args w (fun v w'=>v = .int .i64 e∧XaJ c n0 w0 w F S s' w') :=
 hd.mono fun v w' ⟨e1,ht⟩=>⟨e1,h.to ht hi⟩
theorem Xkk (h:Lv c n0 w0 w F S s) (o size:Int):Xan Tryz.prog 46 #[XtA S,.int .i64 o,.int .i64 size] w (fun v w'=>v = .int .i64 (XsU c s o size)∧XaJ c n0 w0 w F S (XsT c s o size) w'):=by
 obtain ⟨Fr,mo,b⟩:=h.ok;have a:=XtI b (by rw [h.sc]; exact h.inv) o size;rw [h.sc] at a;exact h.ofE (h.inv.alloc o size) a
theorem Xkn (h:Lv c n0 w0 w F S s) (o:Int):Xan Tryz.prog 69 #[XtA S,.int .i64 o] w (fun v w'=>v = .int .i64 (XmC s o)∧XaJ c n0 w0 w F S (Xs2 c s o) w'):=by
 obtain ⟨Fr,mo,b⟩:=h.ok;have a:=XtM b (by rw [h.sc]; exact h.inv) o;rw [h.sc] at a;exact h.ofE (h.inv.free o) a
theorem Xkr (h:Lv c n0 w0 w F S s) (o size:Int):Xan Tryz.prog 79 #[XtA S,.int .i64 o,.int .i64 size] w (fun v w'=>v = .int .i64 (Xte c s o size)∧XaJ c n0 w0 w F S (Xtd c s o size) w'):=by
 obtain ⟨Fr,mo,b⟩:=h.ok;have a:=XtR b (by rw [h.sc]; exact h.inv) o size;rw [h.sc] at a;exact h.ofE (h.inv.resize o size) a
theorem Xkv (h:Lv c n0 w0 w F S s) (o i:Int) (a:Option Addr) (cap:Nat) (l:List Int) (hi : -9223372036854775808≤i∧i≤9223372036854775807) (hr:Rd .u8 w a l) (hlc:l.length≤cap) (hl:l.length≤9223372036854775807) (hin:InB l) (hout:0<l.length→Xa0 F a):Xan Tryz.prog 77 #[XtA S,.int .i64 o,.int .i64 i,.slice a l.length cap] w (fun v w'=>v = .int .i64 (Xwd s o i l.length)∧XaJ c n0 w0 w F S (Xtn c s o i l) w'):=by
 obtain ⟨Fr,mo,d⟩:=h.ok;have b:=XtW d (by rw [h.sc]; exact h.inv) o i a cap l hi hr hlc hl hin hout;rw [h.sc] at b;exact h.ofE (h.inv.write o i hin) b
theorem Xkq (h:Lv c n0 w0 w F S s) (o i n:Int) (hi : -9223372036854775808≤i∧i≤9223372036854775807) (hn : -9223372036854775808≤n∧n≤9223372036854775807):Xan Tryz.prog 72 #[XtA S,.int .i64 o,.int .i64 i,.int .i64 n] w
 (fun v w' => ∃ a cap,v = .tuple #[.slice a (Xtc c s o i n).length cap,.int .i64 (Xwd s o i n)]∧Rd .u8 w' a (Xtc c s o i n)∧(∀ b off s',a=some ⟨b,off,s'⟩→w.heap.size≤b∧b<w'.heap.size)∧Lv c n0 w0 w' F S (Xtb c s o i n)∧Chg F w w'):=by
 obtain ⟨Fr,mo,g⟩:=h.ok;have d:=XtQ g (by rw [h.sc]; exact h.inv) o i n hi hn;rw [h.sc] at d;refine d.mono fun v w' ⟨u,e,j,mo',k,f⟩ => ?_;obtain ⟨a,cap,e2,l,m⟩:=j.rd8 rfl;exact ⟨a,cap,by rw [e,e2],l,m,⟨⟨Fr,mo',k⟩,h.inv.read o i n,h.sc,h.fx,h.base,h.chg.since f (fun z p e=>by have:=h.base z e; omega)⟩,f⟩
theorem Xku (h:Lv c n0 w0 w F S s):Xan Tryz.prog 80 #[XtA S] w (fun v w'=>v = .int .i64 0∧XaJ c n0 w0 w F S (Xtm c s) w'):=by
 obtain ⟨Fr,mo,b⟩:=h.ok;have a:=XtV b (by rw [h.sc]; exact h.inv);rw [h.sc] at a;exact h.ofE h.inv.tick a
theorem Xks (h:Lv c n0 w0 w F S s) (k keep:Int):Xan Tryz.prog 81 #[XtA S,.int .i64 k,.int .i64 keep] w (fun v w'=>v = .int .i64 (Xtg s k keep)∧XaJ c n0 w0 w F S (Xtf s k keep) w'):=by
 obtain ⟨Fr,mo,a⟩:=h.ok;exact h.ofE (h.inv.set k keep) (XtS a (by rw [h.sc]; exact h.inv) k keep)
theorem Xkt (h:Lv c n0 w0 w F S s):Xan Tryz.prog 47 #[XtA S] w (fun v w'=>v = .int .i64 (s.rm.tot - S.R.lap)∧Lv c n0 w0 w' F (S.relap s.rm.tot) s∧Chg (fun z=>z=S.mb) w w'∧F S.mb):=by
 obtain ⟨Fr,mo,a⟩:=h.ok;refine (XtT a).mono fun v w' ⟨e,d,b⟩=>⟨e,⟨⟨Fr,mo,d⟩,h.inv,h.sc,?_,h.base,h.chg.since b (fun z m e=>by have:=h.base z (e▸a.mb.1); have:=h.chg.size; omega)⟩,b,a.mb.1⟩;obtain ⟨f1,f2,f,g,i,j,k,l⟩:=h.fx;exact ⟨f1,f2,f,g,i,j,k,l⟩
theorem Xko (h:Lv c n0 w0 w F S s):Xan Tryz.prog 41 #[XtA S] w (Grow (.int .i64 (XhV s.rm.pl:Nat)) w):=by obtain ⟨Fr,mo,a⟩:=h.ok; exact XtN a
theorem Xkl (h:Lv c n0 w0 w F S s):Xan Tryz.prog 61 #[XtA S] w (Grow (.int .i64 (XsW s)) w):=by obtain ⟨Fr,mo,a⟩:=h.ok; exact XtJ a
theorem Xkm (h:Lv c n0 w0 w F S s) (size:Int):Xan Tryz.prog 43 #[XtA S,.int .i64 size] w (Grow (.int .i64 (Xs1 c s size)) w):=by
 obtain ⟨Fr,mo,a⟩:=h.ok;have:=XtL a (by rw [h.sc]; exact h.inv) size;rw [h.sc] at this;exact this
end
theorem XlQ {c:Conf} (hm:XkH c=true) (hA:Xbg c (XlH c 0)):(XlO c).Ok c:=by
 have hf:=XkN hm;have b:∀ (o:Nat) t,(XlO c).th[o]?≠some (some t):=fun o t e=>by
  have:=List.mem_of_getElem? e;simp only [XlO,List.mem_replicate] at this;cases this.2
 have g:∀ (o:Nat) t,(XlO c).mv[o]?≠some (some t):=fun o t e=>by
  have:=List.mem_of_getElem? e;simp only [XlO,List.mem_replicate] at this;cases this.2
 have f:=hm;unfold XkH at f;simp only [Bool.and_eq_true,decide_eq_true_eq,Xwe,Bool.not_eq_true'] at f;refine ⟨hm,hA,hf.keep,fun x d => ?_,?_,XwV _,?_,List.length_replicate,fun o t h=>absurd h (b o t),fun o t h=>absurd h (b o t),fun o t h=>absurd h (b o t),fun o _ t _ h=>absurd h (b o t),fun k m h=>absurd h (g k m),fun k n a h=>absurd ?_ h,(by rintro _ _ ⟨⟩),(by rintro _ _ ⟨⟩)⟩
 ·have i:=f.1.1.1.1.2.2;rw [List.any_eq_false] at i;have:=i x d;unfold XiW Xwe at this;simp at this;omega
 ·show ((XwU _).length:Int)=_
  rw [XwW];exact Int.toNat_of_nonneg (Int.mul_nonneg (by have:=hf.size; omega) (by have:=hf.pages; omega))
 ·show ((List.replicate c.slots.toNat none).length:Int)=_
  rw [List.length_replicate];exact Int.toNat_of_nonneg (by omega)
 ·unfold XpS;split
  ·rfl
  ·rename_i x d
   unfold XpC at d;split at d
   ·obtain ⟨_,e⟩:=XlL d;rw [e];rfl
   ·cases d
theorem XlP (c:Conf):XsW (XlO c)=0:=by
 rw [XsX];show ((List.replicate c.slots.toNat (none:Option ThM)).map szT).sum=0
 generalize c.slots.toNat=n
 induction n with
 |zero=>rfl
 |succ n ih=>rw [List.replicate_succ,List.map_cons,List.sum_cons,ih]; rfl
theorem Xkp (c:Conf) (p:Xal) (w:World) (hc:Xam w c p) (ht:XbD w) (hm:XkH c=true):Xan Tryz.prog 36 #[.agg (Xfl c p).toArray] w (fun v w' => ∃ F S,v = .tuple #[XtA S,.int .i64 0]∧Lv c w'.heap.size w w' F S (XlO c)∧S.R.lap=0∧S.p=p∧Chg XaX w w'):=by
 refine (XtP c p w hc ht hm).mono fun v w' ⟨F,Fr,S,mo,e,a,⟨f,h⟩,i,j,g⟩=>⟨F,S,e,?_,i,h,g⟩;have d:=a.room;have b:=d.ok;rw [a.rc,f] at b;exact ⟨⟨Fr,mo,by rw [XlP]; exact a⟩,XlQ hm ⟨b,d.mok,d.mpos⟩,f,a.fixed,j,g⟩
structure TbM where
 gen:List Int
 live:List Bool
 fl:List Nat
 most:Int
structure TbM.Ok (t:TbM) (slots gens:Int):Prop where
 n:(t.gen.length:Int)=slots
 nl:t.live.length=t.gen.length
 mg:t.most=gens
 sl:1≤slots∧slots≤4096
 gs:1≤gens∧gens≤1023
 gen:∀ (i:Nat) (g:Int),t.gen[i]? = some g→1≤g∧g≤gens+1
 lv:∀ (i:Nat) (g:Int),t.gen[i]? = some g→t.live[i]? = some true→g≤gens
 fr:∀ i ∈ t.fl,∃ g,t.gen[i]? = some g∧g≤gens∧t.live[i]? = some false
 nd:t.fl.Nodup
 many:t.fl.length+t.live.count true≤t.gen.length
def XuI (slot gen:Int):Bool:=decide (0≤slot) && decide (slot≤4095) && decide (1≤gen) && decide (gen≤1023)
def XuK (h:Int):Int:=h.tmod 4096
def XuD (h:Int):Int:=h.tdiv 4096
def tbG (t:TbM) (n:Int):Int:=t.gen[n.toNat]?.getD 0
def tbL (t:TbM) (n:Int):Bool:=t.live[n.toNat]?.getD false
def tbE (t:TbM) (h:Int):Int :=
 if XuI (XuK h) (XuD h)=false then 7
 else if (t.gen.length:Int)≤XuK h then 7
 else if XuD h<tbG t (XuK h) then 6
 else if tbG t (XuK h)<XuD h then 7
 else if tbL t (XuK h)=false then 7 else 0
def tbN (t:TbM) (h:Int):Int:=if tbE t h=0 then XuK h else 0
def XuL (t:TbM):TbM:=match t.fl with
 |[]=>t
 |n::r=>{t with live:=t.live.set n true,fl:=r}
def XuN (t:TbM):Int:=match t.fl with
 |[]=>0
 |n::_=>n
def XuM (t:TbM):Int:=match t.fl with
 |[]=>0
 |n::_=>tbG t n*4096+n
def XuE (t:TbM) (h:Int):TbM :=
 if tbE t h=0 then
  {t with
   gen:=t.gen.set (XuK h).toNat (tbG t (XuK h)+1),live:=t.live.set (XuK h).toNat false,
   fl:=if tbG t (XuK h)+1≤t.most then (XuK h).toNat::t.fl else t.fl}
 else t
def XuF (t:TbM):Nat:=t.live.count true
def XlR (slots gens:Int):TbM:=⟨List.replicate slots.toNat 1,List.replicate slots.toNat false,List.range slots.toNat,gens⟩
section
variable {t:TbM} {slots gens:Int}
theorem XlS (hs:1≤slots∧slots≤4096) (hg:1≤gens∧gens≤1023):(XlR slots gens).Ok slots gens:=by
 refine ⟨?_,?_,rfl,hs,hg,?_,?_,?_,List.nodup_range,?_⟩
 ·show ((List.replicate slots.toNat (1:Int)).length:Int)=slots
  rw [List.length_replicate]; omega
 ·show (List.replicate slots.toNat false).length=(List.replicate slots.toNat (1:Int)).length
  rw [List.length_replicate,List.length_replicate]
 ·intro i g e;have:=List.mem_of_getElem? e;simp only [XlR,List.mem_replicate] at this;omega
 ·intro i g e h;have:=List.mem_of_getElem? h;simp only [XlR,List.mem_replicate] at this;cases this.2
 ·intro i a;have a:=List.mem_range.1 a;exact ⟨1,by simp [XlR,a],hg.1,by simp [XlR,a]⟩
 ·show (List.range slots.toNat).length+(List.replicate slots.toNat false).count true≤(List.replicate slots.toNat (1:Int)).length
  rw [List.count_replicate,List.length_range,List.length_replicate];exact Nat.le_refl _
theorem XjI {l:List Bool} {i:Nat} {a b:Bool} (h:l[i]? = some a):(l.set i b).count true+(if a=true then 1 else 0)=l.count true+(if b=true then 1 else 0):=by
 obtain ⟨c,e⟩:=List.getElem?_eq_some_iff.1 h;rw [List.count_set c,e];have:a=true→1≤l.count true:=fun d=>by
  rw [d] at e;exact List.count_pos_iff.2 (e▸List.getElem_mem c)
 cases a with
 |false=>cases b <;> simp
 |true=>have:=this rfl; cases b <;> simp <;> omega
theorem TbM.Ok.tbE_ok (h:t.Ok slots gens) {k:Int} (he:tbE t k=0):0≤XuK k∧XuK k<slots∧(XuK k).toNat<t.gen.length∧1≤XuD k∧XuD k≤gens∧t.gen[(XuK k).toNat]? = some (XuD k)∧t.live[(XuK k).toNat]? = some true:=by
 unfold tbE at he;have f:=h.n;split at he
 ·omega
 rename_i b
 split at he
 ·omega
 rename_i g
 split at he
 ·omega
 rename_i i
 split at he
 ·omega
 rename_i j
 split at he
 ·omega
 rename_i d
 simp only [XuI,Bool.not_eq_false,Bool.and_eq_true,decide_eq_true_eq] at b;have a:(XuK k).toNat<t.gen.length:=by omega
 have e1:t.gen[(XuK k).toNat]? = some (XuD k):=by
  have e:tbG t (XuK k)=XuD k:=by omega
  rw [← e];unfold tbG;rw [List.getElem?_eq_getElem a];rfl
 have e2:t.live[(XuK k).toNat]? = some true:=by
  have c:(XuK k).toNat<t.live.length:=by rw [h.nl]; exact a
  have:tbL t (XuK k)=true:=by simpa using d
  unfold tbL at this;rw [List.getElem?_eq_getElem c] at this ⊢;exact congrArg some this
 exact ⟨b.1.1.1,by omega,a,b.1.2,h.lv _ _ e1 e2,e1,e2⟩
theorem TbM.Ok.take (h:t.Ok slots gens):(XuL t).Ok slots gens:=by
 unfold XuL;split
 ·exact h
 ·rename_i n r e
  have c:=h.nd;rw [e] at c;obtain ⟨p,f,j,k⟩:=h.fr n (by rw [e]; exact List.mem_cons_self);have d:∀ i ∈ r,i≠n:=fun i a e2=>(List.nodup_cons.1 c).1 (e2▸a);refine ⟨h.n,?_,h.mg,h.sl,h.gs,h.gen,?_,?_,(List.nodup_cons.1 c).2,?_⟩
  ·show (t.live.set n true).length=_
   rw [List.length_set]; exact h.nl
  ·intro i g e1 e2;by_cases a:i=n
   ·subst a;rw [f] at e1;cases e1
    exact j
   ·replace e2:(t.live.set n true)[i]? = some true:=e2;rw [List.getElem?_set_ne (Ne.symm a)] at e2;exact h.lv i g e1 e2
  ·intro i a;obtain ⟨g,l,m,o⟩:=h.fr i (by rw [e]; exact List.mem_cons_of_mem _ a);refine ⟨g,l,m,?_⟩;show (t.live.set n true)[i]? = _
   rw [List.getElem?_set_ne (Ne.symm (d i a))];exact o
  ·have hm:=h.many;have:=XjI (b:=true) k;rw [e] at hm;simp only [List.length_cons,Bool.false_eq_true,if_false,if_true] at hm this;show r.length+(t.live.set n true).count true≤t.gen.length
   omega
theorem TbM.Ok.give (h:t.Ok slots gens) (k:Int):(XuE t k).Ok slots gens:=by
 unfold XuE;split
 ·rename_i m
  obtain ⟨p,q,e,r,s,n,f⟩:=h.tbE_ok m;have eg:tbG t (XuK k)=XuD k:=by unfold tbG; rw [n]; rfl
  have j:(XuK k).toNat<t.live.length:=by rw [h.nl]; exact e
  have o:=h.mg;have c:(XuK k).toNat ∉ t.fl:=fun hm=>by
   obtain ⟨g,_,_,l⟩:=h.fr _ hm;rw [f] at l;cases l
  refine ⟨?_,?_,h.mg,h.sl,h.gs,?_,?_,?_,?_,?_⟩
  ·show ((t.gen.set _ _).length:Int)=_
   rw [List.length_set]; exact h.n
  ·show (t.live.set _ _).length=(t.gen.set _ _).length
   rw [List.length_set,List.length_set]; exact h.nl
  ·intro i g e1;by_cases a:i=(XuK k).toNat
   ·subst a;rw [List.getElem?_set_self e] at e1;cases e1
    omega
   ·rw [List.getElem?_set_ne (Ne.symm a)] at e1;exact h.gen i g e1
  ·intro i g e1 e2;by_cases a:i=(XuK k).toNat
   ·subst a;rw [List.getElem?_set_self j] at e2;cases e2
   ·rw [List.getElem?_set_ne (Ne.symm a)] at e1 e2;exact h.lv i g e1 e2
  ·intro i a;show ∃ g,(t.gen.set _ _)[i]? = some g∧g≤gens∧(t.live.set _ _)[i]? = some false
   by_cases d:i=(XuK k).toNat
   ·subst d;rw [List.getElem?_set_self e,List.getElem?_set_self j];split at a
    ·exact ⟨_,rfl,by omega,rfl⟩
    ·exact absurd a c
   ·rw [List.getElem?_set_ne (Ne.symm d),List.getElem?_set_ne (Ne.symm d)];refine h.fr i ?_;split at a
    ·exact (List.mem_cons.1 a).resolve_left d
    ·exact a
  ·show (if tbG t (XuK k)+1≤t.most then (XuK k).toNat::t.fl else t.fl).Nodup
   split
   ·exact List.nodup_cons.2 ⟨c,h.nd⟩
   ·exact h.nd
  ·have hm:=h.many;have:=XjI (b:=false) f;simp only [Bool.false_eq_true,if_false,if_true] at this;show (if tbG t (XuK k)+1≤t.most then (XuK k).toNat::t.fl else t.fl).length+(t.live.set (XuK k).toNat false).count true≤(t.gen.set _ _).length
   rw [List.length_set];split
   ·rw [List.length_cons]; omega
   ·omega
 ·exact h
end
end Go.Proofs.YtgddpaiandefgaaGreatDoor
