/-
  Texts put together: View, View2, Chain, Chain2, View3, View4, Arena3, View5, View6, View7, View8, Laws21, Ref6, Few, Ref21, Ref21b, Ref21d, Cut16, Ref21e, Ref21f, Ref21g, Ref21h, Ref21i, Laws6b, Move, Move2, Lap, Laws15, Ref6b, Ref6c, Use, Use2, Laws6d, Act, Ref15, Laws15c, Stm, StOk, StOk2, StOk3, Room7, View9, Sto0, Sto1, Plain21.
-/
import Derived.Test.YtgddpaiandefgaaGreatDoorPt2
import Derived.Test.YtgddpaiandefgaaGreatDoorQRule11
import Derived.Test.YtgddpaiandefgaaGreatDoorQPost
import Derived.Lib.SliceRun
import Derived.Test.YtgddpaiandefgaaGreatDoorQRule12
import Derived.Test.YtgddpaiandefgaaGreatDoorQRule8
import Derived.Test.YtgddpaiandefgaaGreatDoorQRule9
set_option linter.unusedVariables false
set_option maxRecDepth 100000
namespace Go.Proofs.YtgddpaiandefgaaGreatDoor
open Go.RowKit
def inT (n top:Int):Bool:=decide (0≤n) && decide (n<top)
theorem XhP {n top:Int}:inT n top=true↔0≤n∧n<top:=by unfold inT; simp
def XtQ (c:Conf) (q:Plc):Bool :=
 if q.cls = -1 then decide (0<q.pages.length) && !q.pages.any (fun n => !inT n c.pages)
 else inT q.cls c.classes.length && inT q.page c.pages && inT q.idx (XdI c q.cls)
def XeW (c:Conf) (k:Int):Int:=c.classes.getD k.toNat 0
def XtN (c:Conf) (q:Plc):Int:=if XtQ c q then (if q.cls = -1 then q.pages.length*c.size else XeW c q.cls) else 0
def XtM (c:Conf) (q:Plc):Int:=if XtQ c q=true∧q.cls ≠ -1 then q.page*c.size+q.idx*XeW c q.cls else -1
structure Vw where
 vb:Nat
 c:Conf
 p:Xal
 ab:Nat
 mb:Option Nat
def vwL (v:Vw):List Value:=Xe6 v.c v.p ++ [.pointer (some ⟨v.ab,0,none⟩),ptr v.mb]
abbrev vwV (v:Vw):Value := .pointer (some ⟨v.vb,0,none⟩)
structure XbO (w:World) (v:Vw):Prop where
 obj:w.heap[v.vb]? = some (.cells (vwL v).toArray 211 (0,0))
 conf:Xam w v.c v.p
 may:XjN v.c=true
theorem XbO.grow {w w':World} {v:Vw} (h:XbO w v) (hc:Chg XaW w w'):XbO w' v:=⟨hc.heap' h.obj,h.conf.chg hc,h.may⟩
theorem Xt6 (n top:Int) (w:World):Xan Tryz.prog 267 #[.int .i64 n,.int .i64 top] w (Xbp (.bool (inT n top)) w):=by
 refine ζe Tryz.func267 Tryz.ntmps267 rfl (ζg rfl (fun h => ?_) fun h => ?_)
 ·have g:=of_decide_eq_true h;exact ζr Tryz.func267 rfl ⟨XdM (by unfold inT; rw [decide_eq_true g]; rfl),rfl⟩
 ·have g:=of_decide_eq_false h;exact ζr Tryz.func267 rfl ⟨XdM (by unfold inT; rw [decide_eq_false g]; rfl),rfl⟩
abbrev Xnr (w:World) (b:Nat) (v:Vw):Prop:=w.heap[b]? = some (.cells ([vwV v]:List Value).toArray 133 (0,0))
theorem Xt3 (v:Vw) (b:Nat) (x:Int) (w:World) (h:XbO w v) (hb:Xnr w b v):Xan Tryz.prog 266 #[.int .i64 x,.pointer (some ⟨b,0,none⟩)] w (Xbp (.bool (!inT x v.c.pages)) w):=by
 exact ζe Tryz.func266 Tryz.ntmps266 rfl (ζl hb rfl (ζl h.obj rfl (ζw (Xt6 x v.c.pages w) rfl (ζr Tryz.func266 rfl ⟨rfl,rfl⟩))))
theorem Xt2 (v:Vw) (q:Plc) (w:World) (h:XbO w v) (hq:Xa4 w q):Xan Tryz.prog 222 #[vwV v,.agg (Xm6 q).toArray] w (Grow (.bool (XtQ v.c q)) w):=by
 have k:=hq.len;refine ζe Tryz.func222 Tryz.ntmps222 rfl (ζn rfl fun vb C e1 s t A=>ζn rfl fun qb o e2 b m B => ?_);have f:=t.trans m;have d:=h.grow f;have c:=m.heap' s;have l:=hq.grow f;obtain ⟨cls,page,idx,pa,pc,pages⟩:=q;replace b:o.heap[qb]? = some (.cells ([.int .i64 cls,.int .i64 page,.int .i64 idx,.slice pa pages.length pc]:List Value).toArray 98 (0,0)):=b;replace l:=l.rd;replace k:pages.length≤9223372036854775807:=k;refine Xay.loadb hTT rfl c rfl rfl ?_;refine Xay.loadb hTT rfl b rfl rfl ?_;refine Xay.fork hTT rfl rfl rfl (fun i => ?_) (fun i => ?_)
 ·have g:cls = -1:=by simpa using i
  refine Xay.loadb hTT rfl b rfl rfl ?_;by_cases u:0<pages.length
  ·refine Xay.yes hTT rfl (decide_eq_true (by omega)) rfl ?_;exact ζl b rfl (ζw (XqH pa pc 266 pages [.pointer (some ⟨vb,0,none⟩)] (fun n => !inT n v.c.pages) o l k (fun x _=>Xt3 v vb x o d c)) rfl (ζr Tryz.func222 rfl ⟨XdM (by unfold XtQ; simp only; rw [if_pos g,decide_eq_true u]; rfl),f⟩))
  ·exact ζf rfl (ζr Tryz.func222 rfl ⟨XdM (by unfold XtQ; simp only; rw [if_pos g,decide_eq_false u]; rfl),f⟩)
 ·have g:¬ cls = -1:=by simpa using i
  have y:XtQ v.c ⟨cls,page,idx,pa,pc,pages⟩=(inT cls v.c.classes.length && inT page v.c.pages && inT idx (XdI v.c cls)):=by unfold XtQ; simp only; rw [if_neg g]
  rw [y];refine ζd 32 XaW (by kernel_rfl) rfl fun a=>δl a b rfl (δl a c rfl (δl a d.obj rfl (δw a (fun w' j=>Xt6 cls v.c.classes.length w') rfl ?_)));refine Xaq.fork hTT a rfl rfl rfl (fun p => ?_) (fun p => ?_)
  ·rw [p];refine δl a b rfl (δl a c rfl (δl a d.obj rfl (δw a (fun w' j=>Xt6 page v.c.pages w') rfl ?_)));refine Xaq.fork hTT a rfl rfl rfl (fun r => ?_) (fun r => ?_)
   ·rw [r];exact δl a b rfl (δl a c rfl (δl a d.obj rfl (δl a b rfl (δv a (fun w' j=>Xe7 v.c v.p cls w' (d.conf.chg j)) rfl (δw a (fun w' j=>Xt6 idx (XdI v.c cls) w') rfl (δn a rfl fun z e=>ζr Tryz.func222 rfl ⟨rfl,f.trans e⟩))))))
   ·rw [r];exact δn a rfl fun z e=>ζr Tryz.func222 rfl ⟨rfl,f.trans e⟩
  ·rw [p];exact δn a rfl fun z e=>ζr Tryz.func222 rfl ⟨rfl,f.trans e⟩
theorem XjP {c:Conf} (h:XjN c=true):(64≤c.size∧c.size≤4096∧c.size % 8=0)∧(1≤c.pages∧c.pages≤1024)∧XeN c.classes c.size=true:=by
 obtain ⟨a,b,d,_⟩:=XjO.1 h;exact ⟨Xqz.1 a,b,d⟩
theorem Xh4 {c:Conf} {q:Plc} (hm:XjN c=true) (h:XtQ c q=true) (hc:q.cls ≠ -1) :
 ∃ k pg ix:Nat,q.cls=k∧q.page=pg∧q.idx=ix∧k<c.classes.length∧(pg:Int)<c.pages∧8≤XeW c k∧XeW c k≤c.size∧0≤(pg:Int)*c.size∧0≤(ix:Int)*XeW c k∧(ix:Int)*XeW c k+XeW c k≤c.size∧(pg:Int)*c.size+(ix:Int)*XeW c k+XeW c k≤c.size*c.pages:=by
 obtain ⟨r,s,j⟩:=XjP hm;unfold XtQ at h;rw [if_neg hc] at h;simp only [Bool.and_eq_true,XhP] at h;obtain ⟨⟨⟨l,t⟩,m,u⟩,n,o⟩:=h;obtain ⟨k,e⟩:=Int.eq_ofNat_of_zero_le l;obtain ⟨pg,f⟩:=Int.eq_ofNat_of_zero_le m;obtain ⟨ix,b⟩:=Int.eq_ofNat_of_zero_le n;have d:k<c.classes.length:=by omega
 obtain ⟨p,v,g⟩:=XeO j k d;have a:XeW c k=c.classes.getD k 0:=rfl;rw [← a] at p g;have i:XdI c q.cls=c.size / XeW c k:=by
  unfold XdI;rw [e,if_pos (by omega),Int.toNat_natCast,← a,Xum (by omega) (by omega)]
 rw [i,b] at o;have e1:(ix:Int)*XeW c k+XeW c k≤c.size:=by
  have:((ix:Int)+1)*XeW c k≤c.size:=by
   calc ((ix:Int)+1)*XeW c k≤(c.size / XeW c k)*XeW c k:=Int.mul_le_mul_of_nonneg_right (by omega) (by omega)
    _≤c.size:=Int.ediv_mul_le _ (by omega)
  rw [Int.add_mul,Int.one_mul] at this;exact this
 have e2:(pg:Int)*c.size+c.size≤c.size*c.pages:=by
  have:((pg:Int)+1)*c.size≤c.pages*c.size:=Int.mul_le_mul_of_nonneg_right (by omega) (by omega);rw [Int.add_mul,Int.one_mul,Int.mul_comm c.pages] at this;exact this
 refine ⟨k,pg,ix,e,f,b,d,by omega,by omega,g,Int.mul_nonneg (by omega) (by omega),Int.mul_nonneg (by omega) (by omega),e1,by omega⟩
theorem Xh3 {c:Conf} {q:Plc} (h:XtQ c q=true) (hc:q.cls = -1):0<q.pages.length ∧ ∀ n ∈ q.pages,0≤n∧n<c.pages:=by
 unfold XtQ at h;rw [if_pos hc] at h;simp only [Bool.and_eq_true,decide_eq_true_eq,Bool.not_eq_true'] at h;refine ⟨h.1,fun n a => ?_⟩;have:=List.any_eq_false.1 h.2 n a;simp at this;exact XhP.1 this
theorem XbO.cls {w:World} {v:Vw} (h:XbO w v) {k:Nat} (hk:k<v.c.classes.length):∃ b off,v.p.ca=some ⟨b,off,none⟩∧w.cell? ⟨b,off+k,none⟩=some (.int .i64 (XeW v.c k)):=h.conf.classes k hk
theorem Xqx {c:Conf} (hm:XjN c=true):64≤c.size*c.pages∧c.size*c.pages≤4194304:=by
 obtain ⟨a,b,_⟩:=XjP hm;constructor
 ·calc (64:Int)=64*1:=rfl
   _≤c.size*c.pages:=Int.mul_le_mul (by omega) (by omega) (by omega) (by omega)
 ·calc c.size*c.pages≤4096*1024:=Int.mul_le_mul (by omega) (by omega) (by omega) (by omega)
   _=4194304:=rfl
theorem XtT (v:Vw) (q:Plc) (w:World) (h:XbO w v) (hq:Xa4 w q) (hfew:q.pages.length≤1000000000):Xan Tryz.prog 159 #[vwV v,.agg (Xm6 q).toArray] w (Grow (.int .i64 (XtN v.c q)) w):=by
 obtain ⟨E,F,G⟩:=XjP h.may;refine ζe Tryz.func159 Tryz.ntmps159 rfl (ζn rfl fun qb x e1 o e z => ?_);have p:=h.grow e;refine ζl o rfl (ζv (Xt2 v q x p (hq.grow e)) rfl fun H f => ?_);have b:=f.heap' o;have i:=p.grow f;have s:=e.trans f;cases n:XtQ v.c q with
 |false =>
  exact ζy rfl (ζr Tryz.func159 rfl ⟨XhZ (by unfold XtN; rw [n]; rfl),s⟩)
 |true =>
  refine ζf rfl (ζl b rfl (ζg rfl (fun d => ?_) fun d => ?_))
  ·have g:q.cls = -1:=by simpa using d
   have A:0≤(q.pages.length:Int)*v.c.size:=Int.mul_nonneg (by omega) (by omega);have B:(q.pages.length:Int)*v.c.size≤1000000000*4096:=Int.mul_le_mul (by omega) (by omega) (by omega) (by omega);refine Xay.drawn (q:=10) XaW hTT Xj9 (by kernel_rfl) rfl ?_;intro a;refine Xaq.loadb hTT a rfl b (by first | exact fun h=>h | (intro h; omega) | assumption) rfl rfl ?_;refine Xaq.loadb hTT a rfl i.obj (by first | exact fun h=>h | (intro h; omega) | assumption) rfl rfl ?_;refine Xaq.arith hTT a rfl (w64 (by omega)) rfl ?_;exact δn a rfl fun y l=>ζr Tryz.func159 rfl ⟨XhZ (by unfold XtN; rw [if_pos n,if_pos g]),s.trans l⟩
  ·have g:¬ q.cls = -1:=by simpa using d
   obtain ⟨k,pg,ix,t,C,D,m,_,_,_,_,_,_,_⟩:=Xh4 h.may n g;obtain ⟨cb,off,r,u⟩:=i.cls m;obtain ⟨vb,c,⟨ca,cc,ka,kc⟩,ab,mb⟩:=v;simp only at r
   subst r;obtain ⟨cls,page,idx,pa,pc,pages⟩:=q;simp only at t
   subst t;replace m:k<c.classes.length:=m;refine ζd 10 XaW (by kernel_rfl) rfl fun a=>δl a i.obj rfl (δl a b rfl ?_);refine Xaq.index hTT a rfl (j:=k) (show (0:Int)≤k by omega) (show (k:Int)<c.classes.length by omega) (by simp) rfl ?_;exact δk a u rfl (δn a rfl fun y l=>ζr Tryz.func159 rfl ⟨XhZ (by unfold XtN; rw [if_pos n]; simp only; rw [if_neg g]),s.trans l⟩)
theorem XtS (v:Vw) (q:Plc) (w:World) (h:XbO w v) (hq:Xa4 w q):Xan Tryz.prog 205 #[vwV v,.agg (Xm6 q).toArray] w (Grow (.int .i64 (XtM v.c q)) w):=by
 obtain ⟨H,I,J⟩:=XjP h.may;have e:=Xqx h.may;refine ζe Tryz.func205 Tryz.ntmps205 rfl (ζn rfl fun qb E e1 n f G => ?_);have o:=h.grow f;refine ζl n rfl (ζv (Xt2 v q E o (hq.grow f)) rfl fun K i => ?_);have b:=i.heap' n;have l:=o.grow i;have t:=f.trans i;cases u:XtQ v.c q with
 |false =>
  exact ζy rfl (ζr Tryz.func205 rfl ⟨XhZ (by unfold XtM; rw [u,if_neg (by simp)]),t⟩)
 |true =>
  refine ζf rfl (ζl b rfl (ζg rfl (fun d => ?_) fun d => ?_))
  ·have g:q.cls = -1:=by simpa using d
   exact ζr Tryz.func205 rfl ⟨XhZ (by unfold XtM; rw [if_neg (fun F=>F.2 g)]),t⟩
  ·have g:¬ q.cls = -1:=by simpa using d
   obtain ⟨k,pg,ix,x,p,r,m,L,y,M,z,A,N,B⟩:=Xh4 h.may u g;obtain ⟨cb,off,s,C⟩:=l.cls m;obtain ⟨vb,c,⟨ca,cc,ka,kc⟩,ab,mb⟩:=v;simp only at s
   subst s;obtain ⟨cls,page,idx,pa,pc,pages⟩:=q;simp only at x p r
   subst x;subst p;subst r;replace m:k<c.classes.length:=m;replace e:64≤c.size*c.pages∧c.size*c.pages≤4194304:=e;replace z:0≤(pg:Int)*c.size:=z;replace A:0≤(ix:Int)*XeW c k:=A;replace B:(pg:Int)*c.size+(ix:Int)*XeW c k+XeW c k≤c.size*c.pages:=B;replace y:8≤XeW c k:=y;refine Xay.drawn (q:=22) XaW hTT Xj9 (by kernel_rfl) rfl ?_;intro a;refine Xaq.loadb hTT a rfl b (by first | exact fun h=>h | (intro h; omega) | assumption) rfl rfl ?_;refine Xaq.loadb hTT a rfl l.obj (by first | exact fun h=>h | (intro h; omega) | assumption) rfl rfl ?_;refine Xaq.arith hTT a rfl (w64 (by show _∧_; simp only; omega)) rfl ?_;refine Xaq.loadb hTT a rfl b (by first | exact fun h=>h | (intro h; omega) | assumption) rfl rfl ?_;refine Xaq.loadb hTT a rfl l.obj (by first | exact fun h=>h | (intro h; omega) | assumption) rfl rfl ?_;refine Xaq.loadb hTT a rfl b (by first | exact fun h=>h | (intro h; omega) | assumption) rfl rfl ?_;refine Xaq.index hTT a rfl (j:=k) (show (0:Int)≤k by omega) (show (k:Int)<c.classes.length by omega) (by simp) rfl ?_;exact δk a C rfl (Xaq.arith hTT a rfl (w64 (by show _∧_; simp only; omega)) rfl (Xaq.arith hTT a rfl (w64 (by show _∧_; simp only; omega)) rfl (δn a rfl fun O D=>ζr Tryz.func205 rfl ⟨XhZ (by unfold XtM; rw [if_pos ⟨u,g⟩]),t.trans D⟩)))
theorem XtU (c:Conf) (p:Xal) (A:Ar) (V:ArV) (w:World) (hc:Xam w c p) (hA:Xag w A V):Xan Tryz.prog 89 #[.agg (Xe6 c p).toArray,.pointer (some ⟨A.ab,0,none⟩),ptr A.mb] w
 (fun v w'=>Chg XaW w w'∧if XjN c=true∧(V.bs.length:Int)=c.size*c.pages then ∃ vb,v = .tuple #[.pointer (some ⟨vb,0,none⟩),.int .i64 0]∧w.heap.size≤vb∧XbO w' ⟨vb,c,p,A.ab,A.mb⟩ else v = .tuple #[.pointer none,.int .i64 1]):=by
 refine ζe Tryz.func89 Tryz.ntmps89 rfl (ζn rfl fun cb n e1 g h r => ?_);refine ζl g rfl (ζv (Xe9 c p n (hc.chg h)) rfl fun t i => ?_);have e:=h.trans i;have a:=i.heap' g;cases hm:XjN c with
 |false =>
  rw [show XjQ c=1 from by unfold XjQ; rw [hm]; rfl];exact ζy rfl (ζr Tryz.func89 rfl ⟨e,by rw [if_neg (by simp)]⟩)
 |true =>
  rw [show XjQ c=0 from by unfold XjQ; rw [hm]; rfl];have o:=Xqx hm;refine ζf rfl (ζd 8 XaW (by kernel_rfl) rfl fun d=>δw d (fun w' k=>XcB A V w' ((hA.grow e).grow k)) rfl (δl d a rfl (δl d a rfl (Xaq.arith hTT d rfl (w64 (by show _∧_; omega)) rfl (Xaq.adv hTT d rfl (δn d rfl fun u b => ?_))))));by_cases f:(V.bs.length:Int)=c.size*c.pages
  ·refine ζF rfl (show ((V.bs.length:Int) != c.size*c.pages)=false by rw [f]; exact bne_self_eq_false _) (ζl (b.heap' a) rfl (ζb rfl (ζn rfl fun vb x e4 l m s => ?_)));have j:=(e.trans b).trans m;exact ζr Tryz.func89 rfl ⟨j,by rw [if_pos ⟨rfl,f⟩]; exact ⟨vb,rfl,by have:=e.size; have:=b.size; omega,⟨l,hc.chg j,hm⟩⟩⟩
  ·exact ζY rfl (show ((V.bs.length:Int) != c.size*c.pages)=true by simpa using f) (ζr Tryz.func89 rfl ⟨e.trans b,by rw [if_neg (fun q=>f q.2)]⟩)
abbrev Span:=Nat × Nat × Nat
def Xrd (s:Span):List Value := [.int .i64 (s.1:Nat),.int .i64 (s.2.1:Nat),.int .i64 (s.2.2:Nat)]
def Xg7 (at' n page:Nat):Span:=(at' / page,at' % page,min n (page - at' % page))
def Xrh:Nat→Nat→Nat→Nat→List Span
 |0,_,_,_ => []
 |f+1,at',n,page=>if n=0 then [] else Xg7 at' n page::Xrh f (at'+min n (page - at' % page)) (n - min n (page - at' % page)) page
def Xrj (at' n page:Nat):List Span:=Xrh n at' n page
theorem Xg8 {at' n page:Nat} (hp:1≤page) (hn:0<n):0<min n (page - at' % page):=by
 have:=Nat.mod_lt at' (show 0<page by omega); omega
theorem Xri {page:Nat} (hp:1≤page):∀ (f g at' n:Nat),n≤f→n≤g→Xrh f at' n page=Xrh g at' n page
 |0,0,_,_,_,_=>rfl
 |0,g+1,at',n,h,_=>by
   obtain rfl:n=0:=by omega
   simp [Xrh]
 |f+1,0,at',n,_,h=>by
   obtain rfl:n=0:=by omega
   simp [Xrh]
 |f+1,g+1,at',n,a,b=>by
  unfold Xrh;split
  ·rfl
  ·rename_i c
   have:=Xg8 (at':=at') hp (show 0<n by omega);rw [Xri hp f g _ _ (by omega) (by omega)]
theorem Xrm (at' page:Nat):Xrj at' 0 page = []:=rfl
theorem Xrk {at' n page:Nat} (hp:1≤page) (hn:0<n):Xrj at' n page=Xg7 at' n page::Xrj (at'+min n (page - at' % page)) (n - min n (page - at' % page)) page:=by
 have:=Xg8 (at':=at') hp hn;unfold Xrj;obtain ⟨m,rfl⟩:∃ m,n=m+1:=⟨n - 1,by omega⟩;rw [show Xrh (m+1) at' (m+1) page=Xg7 at' (m+1) page::Xrh m (at'+min (m+1) (page - at' % page)) (m+1 - min (m+1) (page - at' % page)) page from by
  show (if m+1=0 then [] else _)=_
  rw [if_neg (by omega)]]
 rw [Xri hp m _ _ _ (by omega) (Nat.le_refl _)]
theorem Xrl {page:Nat} (hp:1≤page):∀ (n at':Nat),(Xrj at' n page).length≤n:=by
 intro n
 induction n using Nat.strongRecOn with
 |_ n ih =>
  intro at';by_cases a:n=0
  ·subst a; exact Nat.le_refl _
  ·have:=Xg8 (at':=at') hp (show 0<n by omega);rw [Xrk hp (by omega),List.length_cons];have:=ih (n - min n (page - at' % page)) (by omega) (at'+min n (page - at' % page));omega
abbrev XhX (w:World) (b:Nat) (x:Int):Prop:=w.heap[b]? = some (.cells ([.int .i64 x]:List Value).toArray 3 (0,0))
theorem Xee (pa pp pn at' page n:Nat) (w:World) (ha:XhX w pa at') (hp:XhX w pp page) (hn:XhX w pn n) (hb:at'+n≤16777216∧1≤page∧page≤16777216) :
 Xan Tryz.prog 328 #[.pointer (some ⟨pa,0,none⟩),.pointer (some ⟨pp,0,none⟩),.pointer (some ⟨pn,0,none⟩)] w (Grow (.agg (Xrd (Xg7 at' n page)).toArray) w):=by
 have h:0≤(at':Int) % page∧(at':Int) % page<page:=⟨Int.emod_nonneg _ (by omega),Int.emod_lt_of_pos _ (by omega)⟩;have e3:((min n (page - at' % page):Nat):Int)=if (page:Int) - (at':Int) % page<n then (page:Int) - (at':Int) % page else n:=by
  rw [show ((at':Int) % page)=((at' % page:Nat):Int) from rfl];have:=Nat.mod_lt at' (show 0<page by omega);split <;> omega
 refine ζe Tryz.func328 Tryz.ntmps328 rfl (ζn rfl fun rb l e1 d a i=>ζl (a.heap' ha) rfl (ζl (a.heap' hp) rfl (Xay.div hTT rfl (by omega) (XnS (by omega)) rfl (ζd 10 XaW (by kernel_rfl) rfl fun b=>δl b (a.heap' ha) rfl (δl b (a.heap' hp) rfl (Xaq.div hTT b rfl (by omega) (XnD (by omega) (by omega)) rfl (δl b (a.heap' hn) rfl (δl b (a.heap' hp) rfl (δj b rfl (Xaq.adv hTT b rfl (Xaq.build hTT b rfl rfl (δn b rfl fun m c=>ζs (c.heap' d) rfl fun o e f j => ?_))))))))))));have g:=(a.trans c).since f (fun x p k=>by omega);exact ζR Tryz.func328 e rfl ⟨by unfold Xrd Xg7; simp only; rw [e3]; rfl,g⟩
theorem Xeg (l pa pp pn at0 n0 page:Nat) (w:World) (Y:Nat→Prop) (I:Nat→World→Prop) (hb:at0+n0≤16777216∧1≤page∧page≤16777216) (ha:XhX w pa at0) (hp:XhX w pp page) (hn:XhX w pn n0)
 (hne:pa≠pp∧pa≠pn∧pp≠pn) (hY:¬ Y pa ∧ ¬ Y pp ∧ ¬ Y pn) (hI:∀ k w w',I k w→Chg (fun z=>z=pa∨z=pn) w w'→I k w')
 (hy:∀ k w0 w (h:k<(Xrj at0 n0 page).length),I k w0→Chg XaW w0 w→XbP Tryz.prog l [.agg (Xrd (Xrj at0 n0 page)[k]).toArray] w (fun v w'=>v = .bool true∧I (k+1) w'∧Chg (fun z=>Y z∧z<w0.heap.size) w w'))
 (h0:I 0 w) :
 Xan Tryz.prog 327 #[XuP l,.pointer (some ⟨pa,0,none⟩),.pointer (some ⟨pp,0,none⟩),.pointer (some ⟨pn,0,none⟩)] w (fun v w'=>v = .tuple #[]∧I (Xrj at0 n0 page).length w'∧Chg (fun z=>z=pa∨z=pn∨Y z) w w'):=by
 refine ζe Tryz.func327 Tryz.ntmps327 rfl ?_;refine Xay.loop (α:=Nat × Nat × Nat) (fun _ => [(0,false,XuP l),(1,false,.pointer (some ⟨pa,0,none⟩)),(3,false,.pointer (some ⟨pn,0,none⟩)),(5,false,.func (.func 328) #[] #[.pointer (some ⟨pa,0,none⟩),.pointer (some ⟨pp,0,none⟩),.pointer (some ⟨pn,0,none⟩)])])
  (fun p w' => ∃ pre,Xrj at0 n0 page=pre++Xrj p.2.1 p.2.2 page∧pre.length=p.1∧p.2.1+p.2.2=at0+n0∧I p.1 w'∧XhX w' pa p.2.1∧XhX w' pp page∧XhX w' pn p.2.2∧Chg (fun z=>z=pa∨z=pn∨Y z) w w') (fun p=>p.2.2) (0,at0,n0) ⟨rfl,rfl,rfl,rfl,trivial⟩
  ⟨[],rfl,rfl,rfl,h0,ha,hp,hn,Chg.refl _ _⟩ ?_
 rintro ⟨k,at',n⟩ D ⟨pre,a,P,K,q,i,E,j,F⟩ ih;simp only at a P K q i j
 subst P;refine ζa rfl (ζl j rfl (ζg rfl (fun L => ?_) fun L => ?_))
 ·have m:0<n:=by have:=of_decide_eq_true L; omega
  have r:=Xg8 (at':=at') hb.2.1 m;have d:=Xrk (at':=at') hb.2.1 m;refine ζv (Xee pa pp pn at' page n D i E j (by omega)) rfl fun w2 s=>ζn rfl fun sb w3 e3 Q R a8=>ζs Q rfl fun w4 t S a9 => ?_;have b:=(s.trans R).since S (fun z hz e=>by have:=s.size; omega);have T:pre.length<(Xrj at0 n0 page).length:=by rw [a,d]; simp
  have U:(Xrj at0 n0 page)[pre.length]=Xg7 at' n page:=by
   simp only [a,d]; simp
  have G:=hy pre.length D w4 T q b;rw [U] at G;refine ζl t rfl (Xay.yield rfl G ?_);rintro _ w5 ⟨rfl,V,f⟩;refine ζa rfl (ζf rfl ?_);have a7:D.heap.size≤sb:=by have:=s.size; omega
  have aa:=Xjs i;have H:=f.heap (b.heap' i) (fun h=>hY.1 h.1);have W:=f.heap (b.heap' E) (fun h=>hY.2.1 h.1);have J:=f.heap (b.heap' j) (fun h=>hY.2.2 h.1);have u:=f.heap t (fun h=>by have:=h.2; omega);refine ζd 9 (fun z=>z=pa) (by kernel_rfl) rfl fun c=>Xaq.loadbAt (4) hTT c rfl rfl rfl J (by first | exact fun h=>h | (intro h; omega) | assumption) rfl rfl (Xaq.loadbAt (2) hTT c rfl rfl rfl u (by first | exact fun h=>h | (intro h; omega) | assumption) rfl rfl (Xaq.loadbAt (6) hTT c rfl rfl rfl u (by first | exact fun h=>h | (intro h; omega) | assumption) rfl rfl (Xaq.arith hTT c rfl (w64 (by show _∧_; unfold Xg7; simp only; omega)) rfl (Xaq.turn1 c rfl fun w6 x=>XbK.loadb hTT c rfl (x.heap' H) rfl rfl (Xaq.arith hTT c rfl (w64 (by show _∧_; unfold Xg7; simp only; omega)) rfl (Xaq.turn1 c rfl fun a0 y=>XbK.store hTT c rfl (y.heap' (x.heap' H)) (by first | (intro h; exact rfl) | (intro h; omega)) rfl rfl rfl fun ab M A ac=>δn c rfl fun w7 o => ?_))))));have g:=x.trans y;have a1:=o.heap' M;refine ζs (o.heap' (A.heap (g.heap' J) (fun e=>hne.2.1 e.symm))) rfl fun w8 a3 B ad => ?_;have a4:=B.heap a1 hne.2.1;have a5:=B.heap (o.heap' (A.heap (g.heap' W) (fun e=>hne.1 e.symm))) hne.2.2;have N:Chg (fun z=>z=pa∨z=pn) a0 w8:=((A.mono fun _ _ h => .inl h).trans (o.mono fun _ _ h=>h.elim)).trans (B.mono fun _ _ h => .inr h);have C:=(g.mono fun _ _ h=>h.elim).trans N;have O:Chg (fun z=>z=pa∨z=pn∨Y z) D w8:=((b.mono fun _ _ h=>h.elim).trans (f.mono fun _ _ h => .inr (.inr h.1))).trans (C.mono fun _ _ h=>h.elim .inl (fun h => .inr (.inl h)));exact ih (pre.length+1,at'+min n (page - at' % page),n - min n (page - at' % page)) _ _ ⟨pre ++ [Xg7 at' n page],by rw [a,d]; simp,by simp,by simp only; omega,hI _ _ _ V C,by
   have e:((at':Int)+((Xg7 at' n page).2.2:Nat))=((at'+min n (page - at' % page):Nat):Int):=by unfold Xg7; simp only; omega
   simp only
   rw [← e]; exact a4,a5,by
   have e:((n:Int) - ((Xg7 at' n page).2.2:Nat))=((n - min n (page - at' % page):Nat):Int):=by unfold Xg7; simp only; omega
   simp only
   rw [← e]; exact a3,F.trans O⟩ (by simp only; omega) ⟨rfl,rfl,rfl,rfl,trivial⟩
 ·have m:n=0:=by have:=of_decide_eq_false L; omega
  subst m;have r:(Xrj at0 n0 page).length=pre.length:=by rw [a,Xrm]; simp
  exact ζr Tryz.func327 rfl ⟨rfl,by rw [r]; exact q,F⟩
theorem Xef (at' n page:Int) (w:World):Xan Tryz.prog 315 #[.int .i64 at',.int .i64 n,.int .i64 page] w (fun v w' => ∃ pa pp pn,v = .func (.func 327) #[] #[.pointer (some ⟨pa,0,none⟩),.pointer (some ⟨pp,0,none⟩),.pointer (some ⟨pn,0,none⟩)] ∧
 w.heap.size≤pa∧w.heap.size≤pp∧w.heap.size≤pn∧(pa≠pp∧pa≠pn∧pp≠pn)∧XhX w' pa at'∧XhX w' pp page∧XhX w' pn n∧Chg XaW w w'):=by
 exact ζe Tryz.func315 Tryz.ntmps315 rfl (ζn rfl fun pa j e1 d c g=>ζn rfl fun pn k e2 e b h=>ζn rfl fun pp l e3 f a i=>ζr Tryz.func315 rfl ⟨pa,pp,pn,rfl,by omega,by omega,by omega,by omega,a.heap' (b.heap' d),f,a.heap' e,(c.trans b).trans a⟩)
theorem Xph {base t:Nat} {w:World} {v:Value} {L:List Span} (h:Own base t 3 w v L.length (L.flatMap Xrd)):∃ a cap,v = .slice a L.length cap∧Rows Xrd 3 w a L ∧ ∀ b off s,a=some ⟨b,off,s⟩→base≤b:=by
 rcases h.2 with ⟨rfl,m⟩ | ⟨g,cap,cur,rfl,n,o,y,z,A,p⟩
 ·obtain rfl:L = []:=List.length_eq_zero_iff.1 m;exact ⟨none,0,rfl,fun i x c=>by simp at c,fun _ _ _ e=>by cases e⟩
 ·refine ⟨some ⟨g,0,none⟩,cap,rfl,fun i x c=>⟨g,0,rfl,fun j v f => ?_⟩,fun b off s e=>by cases e; exact n⟩;have u:=(List.getElem?_eq_some_iff.1 c).1;have q:j<3:=by have:=(List.getElem?_eq_some_iff.1 f).1; simpa [Xrd] using this
  rw [Xd7 o];have k:∀ (L:List Span) (i:Nat) (x:Span),L[i]? = some x→(L.flatMap Xrd)[i*3+j]? = (Xrd x)[j]?:=by
   intro L
   induction L with
   |nil=>intro i x c; simp at c
   |cons s r ih =>
    intro i x c;rw [List.flatMap_cons];have d:(Xrd s).length=3:=rfl;cases i with
    |zero =>
     simp at c; subst c;rw [Nat.zero_mul,Nat.zero_add,List.getElem?_append_left (by rw [d]; exact q)]
    |succ i =>
     rw [List.getElem?_append_right (by rw [d]; omega),d,show (i+1)*3+j - 3=i*3+j from by omega];exact ih i x (by simpa using c)
  have l:=k L i x c;rw [f,← p,List.getElem?_take,if_pos (by omega)] at l;rw [Nat.zero_add]
  simpa using l
theorem Xec (at' n page:Nat) (w:World) (hb:at'+n≤16777216∧1≤page∧page≤16777216):Xan Tryz.prog 291 #[.int .i64 at',.int .i64 n,.int .i64 page] w
 (fun v w' => ∃ a cap,v = .slice a (Xrj at' n page).length cap∧Rows Xrd 3 w' a (Xrj at' n page)∧(∀ b off s,a=some ⟨b,off,s⟩→w.heap.size≤b)∧Chg XaW w w'):=by
 have bq:maxLen=9223372036854775807:=rfl;have br:=Xrl (page:=page) hb.2.1 n at';refine ζe Tryz.func291 Tryz.ntmps291 rfl (ζf rfl (ζf rfl (ζf rfl (ζf rfl (ζj rfl (ζf rfl (ζn rfl fun lb w1 e1 an p bs=>ζc rfl (Xef at' n page w1) ?_)))))));rintro _ w2 ⟨pa,pp,pn,rfl,bt,bu,bv,ao,R,T,U,E⟩;refine ζa rfl ?_;have b8:=Xjs R;have ba:=Xjs T;have bb:=Xjs U;have F:=p.trans E;have a9:=E.heap' an;have bw:=E.size;refine Xay.rangeFunc rfl rfl ⟨Tryz.f327,Tryz.func327,rfl,rfl⟩ ?_;intro G B tmps w3 y hB aa ap aq q bx;have ab:=F.trans q;have ac:G.state = .ready:=by rw [y]
 have bd:({G with state := .ready,pending:=none}:Loop)=G:=by rw [y]
 have ad:G.pending=none:=by rw [y]
 refine (Xeg (B+1) pa pp pn at' n page w3 (fun z=>z=lb∨z=B+1∨B+2≤z)
  (fun k w'=>k≤(Xrj at' n page).length ∧ ∃ v,w'.heap[lb]? = some (.cells ([v]:List Value).toArray 356 (0,0))∧Own (B+2) 359 3 w' v k (((Xrj at' n page).take k).flatMap Xrd) ∧
   w'.heap[B+1]? = some (.loop G)∧w'.heap[B]? = some (.deferred (some []))∧B+2≤w'.heap.size∧Chg XaW w w')
  hb (q.heap' R) (q.heap' T) (q.heap' U) ao ⟨by omega,by omega,by omega⟩ ?_ ?_ ⟨Nat.zero_le _,_,q.heap' a9,World.ownsRow_nil _ _ _ _,aq,ap,by omega,ab⟩).mono ?_
 ·rintro k w4 L ⟨H,v,t,d,x,I,h5,J⟩ D;refine ⟨H,v,D.heap t (by omega),d.chg D (fun b hb e => ?_),D.heap x (by omega),D.heap I (by omega),Nat.le_trans h5 D.size,J.since D (fun z K e=>by have:=p.size; omega)⟩;have:=(World.ownsRow.lt d b hb.symm).1;omega
 ·rintro k w4 L H ⟨bz,v,t,d,x,I,h5,J⟩ r;have af:=Xjs x;have ag:=Xjs t;subst y;refine XbP.enter (ps := [33]) (r.heap' x) rfl rfl aa rfl (ζa rfl (ζn rfl fun sb w6 e6 au V av=>ζs au rfl fun w7 ah W c0 => ?_));have c:=(r.trans V).since W (fun z K e=>by have:=r.size; omega);have bf:=r.size;refine Xay.beginRound rfl (c.heap' x) rfl fun w8 ay f c4=>ζa rfl (ζl (f.heap (c.heap' t) (by omega)) rfl (ζl (f.heap ah (by omega)) rfl (Xay.buildSlice hTT rfl fun b9 w9 e9 az g c5=>ζa rfl ?_)));have A:=((d.chg c (fun _ _ h=>h)).chg f (fun b hb e=>by have:=(World.ownsRow.lt d b hb.symm).1; omega)).chg g (fun _ _ h=>h);have b0:((Xrj at' n page).take (k+1)).flatMap Xrd=((Xrj at' n page).take k).flatMap Xrd++Xrd (Xrj at' n page)[k]:=by
   rw [List.take_add_one,List.getElem?_eq_getElem H,List.flatMap_append]; simp
  refine Xay.append (base:=B+2) (news:=Xrd (Xrj at' n page)[k]) hTT rfl A (by have:=c.size; have:=f.size; have:=g.size; omega) rfl (fun i u M=>by rw [XbR,Xd7 az]; simpa [Xrd,XuS] using M) (fun u M=>by simp [Xrd] at M; rcases M with rfl | rfl | rfl <;> rfl) (by simp only; omega) ?_;intro c6 a0 l j bg;obtain ⟨c7,b5,b6,N,-⟩:=l.form (by omega);subst N;refine ζa rfl ?_;have O:=j.heap (g.heap' (f.heap (c.heap' t) (by omega))) (fun e=>by have:=(World.ownsRow.lt A lb e.symm).1; omega);refine ζs O rfl fun a6 P m bh => ?_;have ai:=j.heap (g.heap' ay) (fun e=>by have:=(World.ownsRow.lt A _ e.symm).1; omega);have aj:=m.heap ai (by omega);refine Xay.roundEnd rfl aj ?_;intro a7 ak o bi;have al:=o.heap (m.heap (j.heap (g.heap' (f.heap (c.heap' I) (by omega))) (fun e=>by have:=(World.ownsRow.lt A _ e.symm).1; omega)) (by omega)) (by omega);have hc:∀ S:Nat→Prop,S lb→S (B+1)→(∀ z,some z=v.ownBlock→S z)→Chg S L a7:=fun S c1 c2 c3=>by
   have a1:Chg S L w7:=(V.mono fun _ _ h=>h.elim).since W (fun z K e=>by omega);have a2:Chg S w7 w8:=f.mono fun z _ e=>by subst e; exact c2
   have a3:Chg S w8 a0:=(g.mono fun _ _ h=>h.elim).trans (j.mono fun z _ e=>c3 z e);have a4:Chg S a0 a6:=m.mono fun z _ e=>by subst e; exact c1
   have a5:Chg S a6 a7:=o.mono fun z _ e=>by subst e; exact c2
   exact (((a1.trans a2).trans a3).trans a4).trans a5
  refine ⟨_,rfl,rfl,⟨H,_,o.heap P (by omega),?_,ak,al,by have:=c.size; have:=f.size; have:=g.size; have:=j.size; omega,(J.trans r).since (hc (fun z=>z=lb∨B+1≤z) (.inl rfl) (.inr (Nat.le_refl _)) (fun z e => .inr (by have:=(World.ownsRow.lt d z e.symm).1; omega))) (fun z K e=>by have:=p.size; omega)⟩,
   hc _ ⟨.inl rfl,ag⟩ ⟨.inr (.inl rfl),af⟩ (fun z e=>⟨.inr (.inr (World.ownsRow.lt d z e.symm).1),(World.ownsRow.lt d z e.symm).2⟩)⟩
  rw [b0];exact (l.chg m (fun b hb e=>by have:=(World.ownsRow.lt l b hb.symm).1; omega)).chg o (fun b hb e=>by have:=(World.ownsRow.lt l b hb.symm).1; omega)
 ·rintro _ w4 ⟨rfl,⟨H,v,t,d,x,I,h5,J⟩,c8⟩;refine ⟨_,x,by rw [ac]; simp,?_⟩;intro L C c9;rw [ad];refine ζa rfl (ζl (C.heap t (by omega)) rfl ?_);rw [List.take_length] at d;have b3:=d.chg C (fun b hb e=>by have:=(World.ownsRow.lt d b hb.symm).1; omega);refine Xay.retM hTT rfl Tryz.func291 (C.heap I (by omega)) (vs := [v]) (fun _ _ => .tmp rfl .nil) ?_;intro w6 a8 av;have b4:=b3.chg a8 (fun b hb e=>by have:=(World.ownsRow.lt d b hb.symm).1; omega);obtain ⟨a,cap,rfl,Q,am⟩:=Xph b4;exact ⟨a,cap,rfl,Q,fun b off s e=>by have:=am b off s e; have:=F.size; omega,(J.since C (fun z K e=>by have:=p.size; omega)).since a8 (fun z K e=>by have:=p.size; omega)⟩
theorem Rd.far' {k:IntKind} {w w':World} {a:Option Addr} {zs:List Int} {S:Nat→Prop} (h:Rd k w a zs) (hs:0<zs.length→XaX S a) (hc:Chg S w w'):Rd k w' a zs:=(RdS.chg ⟨h,fun b off s e c=>hs c b off s e⟩ hc).1
theorem Xa4.far {w w':World} {q:Plc} {S:Nat→Prop} (h:Xa4 w q) (hs:0<q.pages.length→XaX S q.pa) (hc:Chg S w w'):Xa4 w' q:=⟨h.rd.far' hs hc,h.len⟩
theorem Xam.far {w w':World} {c:Conf} {p:Xal} {S:Nat→Prop} (h:Xam w c p) (h1:0<c.classes.length→XaX S p.ca) (h2:0<c.keep.length→XaX S p.ka) (hc:Chg S w w'):Xam w' c p:=⟨h.classes.far' h1 hc,h.keep.far' h2 hc,h.lc,h.lk,h.size⟩
theorem XbO.far {w w':World} {v:Vw} {S:Nat→Prop} (h:XbO w v) (h0:¬ S v.vb) (h1:0<v.c.classes.length→XaX S v.p.ca) (h2:0<v.c.keep.length→XaX S v.p.ka) (hc:Chg S w w'):XbO w' v:=⟨hc.heap h.obj h0,h.conf.far h1 h2 hc,h.may⟩
theorem Rd.outNew {k:IntKind} {w:World} {a:Option Addr} {zs:List Int} {S S':Nat→Prop} (h:Rd k w a zs) (hs:0<zs.length→XaX S a) (hS:∀ z,S' z→S z∨w.heap.size≤z):0<zs.length→XaX S' a:=fun c b off s e d=>by
 rcases hS b d with h1 | h1
 ·exact hs c b off s e h1
 ·obtain ⟨b',off',e',f⟩:=h 0 c;rw [e] at e';cases e'
  have:=World.block_lt_of_cell? w _ f;simp only at this
  omega
theorem Xrg {page:Nat} (hp:1≤page):∀ (n at':Nat),∀ s ∈ Xrj at' n page,s.1*page+s.2.1+s.2.2≤at'+n∧0<s.2.2∧s.2.1+s.2.2≤page∧at'≤s.1*page+s.2.1:=by
 intro n
 induction n using Nat.strongRecOn with
 |_ n ih =>
  intro at' s hs;by_cases b:n=0
  ·subst b; cases hs
  ·have c:=Xg8 (at':=at') hp (show 0<n by omega);have d:=Nat.mod_lt at' (show 0<page by omega);have a:=Nat.div_add_mod at' page;rw [Xrk hp (by omega)] at hs;rcases List.mem_cons.1 hs with rfl | hs
   ·unfold Xg7;simp only
    rw [Nat.mul_comm] at a;omega
   ·have:=ih _ (by omega) _ s hs;omega
def Xl1 (c:Conf) (q:Plc) (at' n:Nat):List (Int × Int) :=
 if q.cls = -1 then (Xrj at' n c.size.toNat).map fun s=>(q.pages.getD s.1 0*c.size+s.2.1,(s.2.2:Int)) else [(XtM c q+at',(n:Int))]
theorem Xej (A:Ar) (V:ArV) (n:Int) (w:World) (h:Xag w A V):Xan Tryz.prog 146 #[ptr A.mb,.int .i64 n] w (fun _ w'=>Xag w' A (V.charge A n)∧Chg (XjD A) w w'):=by
 cases a:A.mb with
 |none =>
  refine (Xj0 n w).mono fun _ w' e => ?_;subst e;exact ⟨by unfold ArV.charge; rw [a]; exact h,Chg.refl _ _⟩
 |some b =>
  refine (XjZ b V.total V.lap n w (h.met b a)).mono fun _ w' ⟨hm,c⟩ => ?_;exact ⟨by unfold ArV.charge; rw [a]; exact h.metered a hm c,c.mono fun x _ d=>by unfold XjD; rw [d]; exact a⟩
theorem Xt4 (v:Vw) (q:Plc) (at' n:Int) (w:World):Xan Tryz.prog 249 #[vwV v,.agg (Xm6 q).toArray,.int .i64 at',.int .i64 n] w (fun u w' => ∃ pb vb ab nb,u = .func (.func 290) #[] #[.pointer (some ⟨pb,0,none⟩),.pointer (some ⟨vb,0,none⟩),.pointer (some ⟨ab,0,none⟩),.pointer (some ⟨nb,0,none⟩)] ∧
 w.heap.size≤pb∧w.heap.size≤vb∧w.heap.size≤ab∧w.heap.size≤nb∧Xm5 w' pb q∧Xnr w' vb v∧XhX w' ab at'∧XhX w' nb n∧Chg XaW w w'):=by
 refine ζe Tryz.func249 Tryz.ntmps249 rfl (ζn rfl fun vb o e1 f d j=>ζn rfl fun pb p e2 g e k=>ζn rfl fun ab r e3 h c l=>ζn rfl fun nb s e4 i a m => ?_);have b:=e.trans (c.trans a);exact ζr Tryz.func249 rfl ⟨pb,vb,ab,nb,rfl,by omega,by omega,by omega,by omega,(c.trans a).heap' g,b.heap' f,a.heap' h,i,d.trans b⟩
def Xew (q:Plc) (A:Ar) (V:ArV):ArV:=if q.cls = -1 then V.charge A 1 else V
theorem Xag.mlt {w:World} {A:Ar} {V:ArV} (h:Xag w A V):∀ z,XjD A z→z<w.heap.size:=fun z a=>Xjs (h.met z a).1
theorem Xt5 (l:Nat) (v:Vw) (q:Plc) (at' n pb vb ab nb:Nat) (A:Ar) (Vs:Nat→ArV) (K:Nat→(Nat→Prop)→World→Prop) (Y0:Nat→Prop) (w:World)
 (hv:XbO w v) (hq:Xa4 w q) (hmb:v.mb=A.mb) (hin:XtQ v.c q=true) (hr:(at':Int)+n≤XtN v.c q) (hfew:q.pages.length≤4096)
 (hpb:Xm5 w pb q) (hvb:Xnr w vb v) (hab:XhX w ab at') (hnb:XhX w nb n)
 (hP1:∀ z,Y0 z∨XjD A z→z≠pb∧z≠vb∧z≠v.vb) (hPq:0<q.pages.length→XaX (fun z=>Y0 z∨XjD A z) q.pa) (hPc:0<v.c.classes.length→XaX (fun z=>Y0 z∨XjD A z) v.p.ca) (hPk:0<v.c.keep.length→XaX (fun z=>Y0 z∨XjD A z) v.p.ka)
 (hKlt:∀ k Y w,K k Y w → ∀ z,Y z→z<w.heap.size) (hK:∀ k Y w w',K k Y w→Chg (XjD A) w w'→K k Y w')
 (hy:∀ k Y w0 w (h:k<(Xl1 v.c q at' n).length),Xag w0 A (Xew q A (Vs k))→K k Y w0→Chg XaW w0 w →
  XbP Tryz.prog l [.int .i64 (Xl1 v.c q at' n)[k].1,.int .i64 (Xl1 v.c q at' n)[k].2] w (fun u w'=>u = .bool true∧Xag w' A (Vs (k+1))∧Chg Y w w' ∧ ∃ Y',K (k+1) Y' w' ∧ ∀ z,Y' z→Y z∨w.heap.size≤z))
 (h0:Xag w A (Vs 0)) (hK0:K 0 Y0 w) :
 Xan Tryz.prog 290 #[XuP l,.pointer (some ⟨pb,0,none⟩),.pointer (some ⟨vb,0,none⟩),.pointer (some ⟨ab,0,none⟩),.pointer (some ⟨nb,0,none⟩)] w
  (fun u w'=>u = .tuple #[]∧Xag w' A (Vs (Xl1 v.c q at' n).length)∧(∃ Y',K (Xl1 v.c q at' n).length Y' w' ∧ ∀ z,Y' z→Y0 z∨w.heap.size≤z)∧Chg (fun z=>Y0 z∨XjD A z) w w'):=by
 obtain ⟨m1,m2,m3⟩:=XjP hv.may;have b8:=Xqx hv.may;have a2:∀ {x y:World},Chg XaW x y→Chg (XjD A) x y:=fun h=>h.mono fun _ _ h=>h.elim;refine ζe Tryz.func290 Tryz.ntmps290 rfl (ζl hpb rfl ?_);by_cases d:q.cls = -1
 ·obtain ⟨b9,I⟩:=Xh3 hin d;have J:XtN v.c q=(q.pages.length:Int)*v.c.size:=by unfold XtN; rw [if_pos hin,if_pos d]
  rw [J] at hr;have a3:(q.pages.length:Int)*v.c.size≤4096*4096:=Int.mul_le_mul (by omega) (by omega) (by omega) (by omega);obtain ⟨sz,a4⟩:=Int.eq_ofNat_of_zero_le (show 0≤v.c.size by omega);have a9:v.c.size.toNat=sz:=by omega
  have o:Xl1 v.c q at' n=(Xrj at' n sz).map fun s=>(q.pages.getD s.1 0*v.c.size+s.2.1,(s.2.2:Int)):=by unfold Xl1; rw [if_pos d,a9]
  have B:(Xl1 v.c q at' n).length=(Xrj at' n sz).length:=by rw [o,List.length_map]
  have bg:=Xrl (page:=sz) (by omega) n at';refine Xay.no hTT rfl (show (q.cls != -1)=false by rw [d]; rfl) rfl ?_;refine Xay.drawn (q:=10) XaW hTT Xj9 (by kernel_rfl) rfl ?_;intro c;refine Xaq.loadb hTT c rfl hab (by first | exact fun h=>h | (intro h; omega) | assumption) rfl rfl ?_;refine Xaq.loadb hTT c rfl hnb (by first | exact fun h=>h | (intro h; omega) | assumption) rfl rfl ?_;refine Xaq.loadb hTT c rfl hvb (by first | exact fun h=>h | (intro h; omega) | assumption) rfl rfl ?_;refine Xaq.loadb hTT c rfl hv.obj (by first | exact fun h=>h | (intro h; omega) | assumption) rfl rfl ?_;have hd:∀ w',Chg XaW w w'→Xan Tryz.prog 291 #[.int .i64 at',.int .i64 n,.int .i64 v.c.size] w' (fun u m=>Chg XaW w' m ∧ ∃ a cap,u = .slice a (Xrj at' n sz).length cap∧Rows Xrd 3 m a (Xrj at' n sz)∧(∀ b off s,a=some ⟨b,off,s⟩→w'.heap.size≤b)):=fun w' r=>by
   rw [a4];exact (Xec at' n sz w' (by omega)).mono fun u m ⟨a,cap,L,h2,h3,h4⟩=>⟨h4,a,cap,L,h2,h3⟩
  refine Xaq.callQ c rfl rfl (fun w' r=>(hd w' r).mono fun u m ⟨L,a,cap,h2,h3,h4⟩=>(⟨L,a,cap,h2,h3,fun b off s e=>Nat.le_trans r.size (h4 b off s e)⟩:Chg XaW w' m ∧ ∃ a cap,u = .slice a (Xrj at' n sz).length cap∧Rows Xrd 3 m a (Xrj at' n sz)∧(∀ b off s,a=some ⟨b,off,s⟩→w.heap.size≤b))) ?_;rintro _ w1 al ⟨sa,scap,rfl,a1,ae⟩;refine Xaq.adv hTT c rfl (δn c rfl fun m t => ?_);have f:=al.trans t;have M:=a1.chg t;have am:XaX (fun z=>Y0 z∨XjD A z) sa:=fun b off s e hb=>by
   have:=ae b off s e;rcases hb with hb | hb
   ·have:=hKlt _ _ _ hK0 b hb; omega
   ·have:=h0.mlt b hb; omega
  refine Xay.loop (α:=Nat) (fun k => [(0,false,XuP l),(1,false,.pointer (some ⟨pb,0,none⟩)),(2,false,.pointer (some ⟨vb,0,none⟩)),(26,false,.slice sa (Xrj at' n sz).length scap),(27,false,.int .i64 (Xrj at' n sz).length),(28,false,.int .i64 k)])
   (fun k w'=>k≤(Xrj at' n sz).length∧Xag w' A (Vs k)∧(∃ Y,K k Y w' ∧ ∀ z,Y z→Y0 z∨m.heap.size≤z)∧Chg (fun z=>Y0 z∨XjD A z) m w') (fun k=>(Xrj at' n sz).length - k) 0 ⟨rfl,rfl,rfl,rfl,rfl,rfl,trivial⟩
   ⟨Nat.zero_le _,h0.grow f,⟨Y0,hK _ _ _ _ hK0 (a2 f),fun _ h => .inl h⟩,Chg.refl _ _⟩ ?_
  rintro k w3 ⟨hk,N,⟨Y,a5,O⟩,i⟩ ih;refine ζa rfl (ζg rfl (fun hc => ?_) fun hc => ?_)
  ·have C:k<(Xrj at' n sz).length:=by have:=of_decide_eq_true hc; omega
   obtain ⟨s,hs⟩:∃ s,s=(Xrj at' n sz)[k]:=⟨_,rfl⟩;obtain ⟨i1,i2,i3,i4⟩:=Xrg (page:=sz) (by omega) n at' s (hs▸List.getElem_mem C);have G:s.1<q.pages.length:=by
    have L:(s.1*sz:Nat)<q.pages.length*sz:=by
     have:((q.pages.length*sz:Nat):Int)=(q.pages.length:Int)*v.c.size:=by rw [a4]; rfl
     omega
    exact Nat.lt_of_mul_lt_mul_right L
   obtain ⟨rb,roff,an,H⟩:=(M.at C);subst an;rw [← hs] at H;have P:∀ j u,(Xrd s)[j]? = some u→w3.cell? ⟨rb,roff+k*3+j,none⟩=some u:=fun j u hu=>i.cell (H j u hu) (am rb roff none rfl);have ah:=i.heap (f.heap' hpb) (fun e=>(hP1 _ e).1 rfl);have Q:=i.heap (f.heap' hvb) (fun e=>(hP1 _ e).2.1 rfl);have a6:=(hv.grow f).far (fun e=>(hP1 _ e).2.2 rfl) hPc hPk i;have ao:=(hq.grow f).far hPq i;refine ζi (k*3) rfl (Xay.loadC hTT (Xrd s) rfl (by first | rfl | (simp; done) | (simp [*]; done) | (simp; omega)) (P) rfl (ζn rfl fun sb w4 e4 ap aq bh=>ζs ap rfl fun w5 ai ar bi => ?_));have p:=aq.since ar (fun z E e=>by omega);refine ζl (p.heap' Q) rfl (ζl (a6.grow p).obj rfl ?_);rw [hmb];refine ζc rfl (Xej A (Vs k) 1 w5 (N.grow p)) ?_;rintro _ w6 ⟨au,R⟩;refine ζa rfl ?_;have av:=hK _ _ _ _ (hK _ _ _ _ a5 (a2 p)) R;have aw:∀ {x y:World},Chg (XjD A) x y→Chg (fun z=>Y0 z∨XjD A z) x y:=fun h=>h.mono fun _ _ h => .inr h;have g:=(p.mono fun _ _ h=>h.elim).trans (aw R);have aj:=g.heap ah (fun e=>(hP1 _ e).1 rfl);have ak:=g.heap Q (fun e=>(hP1 _ e).2.1 rfl);have ax:=a6.far (fun e=>(hP1 _ e).2.2 rfl) hPc hPk g;have ay:=ao.far hPq g;have F:=R.heap ai (fun e=>by have:=N.mlt _ e; omega);obtain ⟨gb,goff,a7,az⟩:=ay.rd s.1 G;have b0:0≤q.pages.getD s.1 0∧q.pages.getD s.1 0<v.c.pages:=I _ (by rw [List.getD_eq_getElem?_getD,List.getElem?_eq_getElem G]; exact List.getElem_mem G);have S:0≤q.pages.getD s.1 0*v.c.size∧q.pages.getD s.1 0*v.c.size≤1024*4096:=⟨Int.mul_nonneg b0.1 (by omega),Int.mul_le_mul (by omega) (by omega) (by omega) (by omega)⟩;have b1:(Xl1 v.c q at' n)[k]'(by rw [B]; exact C)=(q.pages.getD s.1 0*v.c.size+s.2.1,(s.2.2:Int)):=by
    simp only [o,List.getElem_map,← hs]
   obtain ⟨cls,page,idx,pa,pc,pages⟩:=q;simp only at a7
   subst a7;refine ζd 18 XaW (by kernel_rfl) rfl fun c=>δl c aj rfl (δl c F rfl (Xaq.index hTT c rfl (j:=s.1) (show (0:Int)≤(s.1:Nat) by omega) (show ((s.1:Nat):Int)<pages.length by have:s.1<pages.length:=G; omega) (by simp) rfl (δk c az rfl (δl c ak rfl (δl c ax.obj rfl (Xaq.arith hTT c rfl (w64 (by show _∧_; simp only at S ⊢; omega)) rfl (δl c F rfl (Xaq.arith hTT c rfl (w64 (by show _∧_; simp only at S ⊢; omega)) rfl (δl c F rfl (δn c rfl fun w7 T => ?_))))))))));have D:=hy k Y w6 w7 (by rw [B]; exact C) (by unfold Xew; rw [if_pos d]; exact au) av T;rw [b1] at D;refine Xay.yield rfl D ?_;rintro _ w8 ⟨rfl,U,V,Y',W,a0⟩;refine ζa rfl (ζf rfl (ζj rfl ?_));have b6:m.heap.size≤w7.heap.size:=by have:=i.size; have:=g.size; have:=T.size; omega
   exact ih (k+1) _ _ ⟨C,U,⟨Y',W,fun z E=>(a0 z E).elim (O z) (fun h => .inr (by omega))⟩,
    ((i.trans g).trans (T.mono fun _ _ h=>h.elim)).since V (fun z E h => .inl ((O z h).elim id (fun h=>by omega)))⟩ (by omega) ⟨rfl,rfl,rfl,rfl,rfl,rfl,trivial⟩
  ·have b3:k=(Xrj at' n sz).length:=by have:=of_decide_eq_false hc; omega
   subst b3;have b7:=f.size;rw [B];exact ζr Tryz.func290 rfl ⟨rfl,N,⟨Y,a5,fun z E=>(O z E).imp id (fun h=>by omega)⟩,(f.mono fun _ _ h=>h.elim).trans i⟩
 ·have o:Xl1 v.c q at' n = [(XtM v.c q+at',(n:Int))]:=by unfold Xl1; rw [if_neg d]
  obtain ⟨kk,pg,ix,a8,I,b4,bj,g1,g2,g3,g4,g5,g6,g7⟩:=Xh4 hv.may hin d;have b5:XtM v.c q=(pg:Int)*v.c.size+(ix:Int)*XeW v.c kk:=by unfold XtM; rw [if_pos ⟨hin,d⟩,a8,I,b4]
  have J:XtN v.c q=XeW v.c kk:=by unfold XtN; rw [if_pos hin,if_neg d,a8]
  rw [J] at hr;refine ζY rfl (show (q.cls != -1)=true by simpa using d) (ζd 7 XaW (by kernel_rfl) rfl fun c=>δl c hvb rfl (δl c hpb rfl (δv c (fun w' r=>XtS v q w' (hv.grow r) (hq.grow r)) rfl (δl c hab rfl (Xaq.arith hTT c rfl (w64 (by show _∧_; rw [b5]; omega)) rfl (δl c hnb rfl (δn c rfl fun m t => ?_)))))));have D:=hy 0 Y0 w m (by rw [o]; simp) (by unfold Xew; rw [if_neg d]; exact h0) hK0 t;rw [show (Xl1 v.c q at' n)[0]'(by rw [o]; simp)=(XtM v.c q+at',(n:Int)) from by simp only [o]; rfl] at D;refine Xay.yield rfl D ?_;rintro _ w8 ⟨rfl,U,V,Y',W,a0⟩;refine ζa rfl ?_;have a3:(Xl1 v.c q at' n).length=1:=by rw [o]; rfl
  rw [a3];have:=t.size;exact ζr Tryz.func290 rfl ⟨rfl,U,⟨Y',W,fun z E=>(a0 z E).imp id (fun h=>by omega)⟩,(t.mono fun _ _ h=>h.elim).trans (V.mono fun _ _ h => .inl h)⟩
def Xer (c:Conf) (q:Plc) (at' n:Int):Int:=if XtQ c q=false then 1 else if at'<0∨n<0∨XtN c q<n∨XtN c q - n<at' then 8 else 0
theorem XtO {c:Conf} {q:Plc} (hm:XjN c=true) (hfew:q.pages.length≤4096):0≤XtN c q∧XtN c q≤16777216:=by
 obtain ⟨f,g,h⟩:=XjP hm;unfold XtN;split
 ·rename_i d
  split
  ·have i:(q.pages.length:Int)*c.size≤4096*4096:=Int.mul_le_mul (by omega) (by omega) (by omega) (by omega);exact ⟨Int.mul_nonneg (by omega) (by omega),by omega⟩
  ·rename_i a
   obtain ⟨kk,pg,ix,b,_,_,e,_,j,k,_⟩:=Xh4 hm d a;rw [b]; omega
 ·omega
theorem Xag.blt {w:World} {A:Ar} {V:ArV} (h:Xag w A V):∀ b,b=A.ab∨b=A.db∨b=A.mc∨A.mb=some b→b<w.heap.size:=fun b hb=>by
 rcases hb with rfl | rfl | rfl | hb
 ·exact Xjs h.obj
 ·exact Xjs h.dat
 ·exact Xjs h.cap
 ·exact Xjs (h.met b hb).1
theorem Xt1 (v:Vw) (q:Plc) (at' n fk:Nat) (caps:List Value) (A:Ar) (Vs:Nat→ArV) (K:Nat→(Nat→Prop)→World→Prop) (Y0:Nat→Prop) (w:World)
 (hv:XbO w v) (hq:Xa4 w q) (hmb:v.mb=A.mb) (hck:Xer v.c q at' n=0) (hfew:q.pages.length≤4096)
 (hPv:¬ (Y0 v.vb∨XjD A v.vb)) (hPq:0<q.pages.length→XaX (fun z=>Y0 z∨XjD A z) q.pa) (hPc:0<v.c.classes.length→XaX (fun z=>Y0 z∨XjD A z) v.p.ca) (hPk:0<v.c.keep.length→XaX (fun z=>Y0 z∨XjD A z) v.p.ka)
 (hKlt:∀ k Y w,K k Y w → ∀ z,Y z→z<w.heap.size) (hK:∀ k Y w1 w2 S,K k Y w1→Chg S w1 w2→(∀ z,S z→XjD A z∨(¬ Y z∧w.heap.size≤z))→K k Y w2)
 (hdo:∀ k Y w0 (h:k<(Xl1 v.c q at' n).length),Xag w0 A (Xew q A (Vs k))→K k Y w0 →
  Xan Tryz.prog fk (.int .i64 (Xl1 v.c q at' n)[k].1 :: .int .i64 (Xl1 v.c q at' n)[k].2::caps).toArray w0 (fun _ w'=>Xag w' A (Vs (k+1))∧Chg Y w0 w' ∧ ∃ Y',K (k+1) Y' w' ∧ ∀ z,Y' z→Y z∨w0.heap.size≤z))
 (h0:Xag w A (Vs 0)) (hK0:K 0 Y0 w) :
 Xan Tryz.prog 192 #[vwV v,.agg (Xm6 q).toArray,.int .i64 at',.int .i64 n,.func (.func fk) #[] caps.toArray] w
  (fun u w'=>u = .int .i64 0∧Xag w' A (Vs (Xl1 v.c q at' n).length)∧(∃ Y',K (Xl1 v.c q at' n).length Y' w' ∧ ∀ z,Y' z→Y0 z∨w.heap.size≤z)∧Chg (fun z=>Y0 z∨XjD A z) w w'):=by
 have l:=XtO (c:=v.c) (q:=q) hv.may hfew;have J:XtQ v.c q=true:=by
  cases J:XtQ v.c q with
  |true=>rfl
  |false=>unfold Xer at hck; rw [if_pos J] at hck; cases hck
 have b3:¬ ((at':Int)<0∨(n:Int)<0∨XtN v.c q<n∨XtN v.c q - n<at'):=fun h=>by
  unfold Xer at hck; rw [if_neg (by rw [J]; decide),if_pos h] at hck; cases hck
 refine ζe Tryz.func192 Tryz.ntmps192 rfl (ζn rfl fun qb w1 e1 ag ah ai=>ζn rfl fun db w2 e2 aj a1 bh => ?_);have j:=a1.heap' ag;have hw:=ah.trans a1;refine ζl j rfl (ζv (Xt2 v q w2 (hv.grow hw) (hq.grow hw)) rfl fun w3 D => ?_);have L:=hw.trans D;rw [J];refine ζf rfl (ζf rfl (ζf rfl (ζl (D.heap' j) rfl (ζv (XtT v q w3 (hv.grow L) (hq.grow L) (by omega)) rfl fun w4 M => ?_))));have N:=L.trans M;refine ζf rfl (ζl ((D.trans M).heap' j) rfl (ζv (XtT v q w4 (hv.grow N) (hq.grow N) (by omega)) rfl fun w5 a2 => ?_));have a3:=N.trans a2;refine ζj rfl (ζf rfl ?_);have O:=(D.trans M).trans a2;refine ζl (O.heap' j) rfl (ζc rfl (Xt4 v q at' n w5) ?_);rintro _ w6 ⟨pb,vb,ab,nb,rfl,bi,bj,bk,bl,bpb,bvb,bab,bnb,a4⟩;refine ζa rfl ?_;have ak:=a3.trans a4;have P:=(O.trans a4).heap' aj;have l1:=Xjs bpb;have l2:=Xjs bvb;have b8:=a3.size;have b9:=Xjs P;refine Xay.rangeFunc rfl rfl ⟨Tryz.f290,Tryz.func290,rfl,rfl⟩ ?_;intro Q B tmps w7 E hB a7 al am g bm;have m:=ak.trans g;have R:=hKlt _ _ _ hK0;have F:=h0.mlt;have bn:=Xjs hv.obj;have hN:∀ {x y:World} {k Y},K k Y x→Chg XaW x y→K k Y y:=fun hk hc=>hK _ _ _ _ _ hk hc (fun _ h=>h.elim);have a9:Q.state = .ready:=by rw [E]
 have bc:({Q with state := .ready,pending:=none}:Loop)=Q:=by rw [E]
 have aa:Q.pending=none:=by rw [E]
 refine (Xt5 (B+1) v q at' n pb vb ab nb A Vs
  (fun k T x => ∃ Y,K k Y x∧(∀ z,T z↔Y z∨z=B+1)∧x.heap[B+1]? = some (.loop Q)∧x.heap[B]? = some (.deferred (some []))∧x.heap[db]? = some (.cells ([.func (.func fk) #[] caps.toArray]:List Value).toArray 150 (0,0))∧(∀ z,Y z→z≠B∧z≠B+1∧z≠db))
  (fun z=>Y0 z∨z=B+1) w7 (hv.grow m) (hq.grow m) hmb J (by omega) hfew (g.heap' bpb) (g.heap' bvb) (g.heap' bab) (g.heap' bnb) ?_ ?_ ?_ ?_ ?_ ?_ ?_ (h0.grow m) ?_).mono ?_
 ·intro z hz;rcases hz with (hz | hz) | hz
  ·have:=R z hz;exact ⟨by omega,by omega,fun e=>hPv (.inl (e▸hz))⟩
  ·exact ⟨by omega,by omega,by omega⟩
  ·have:=F z hz;exact ⟨by omega,by omega,fun e=>hPv (.inr (e▸hz))⟩
 ·exact hq.rd.outNew hPq (fun z hz=>by rcases hz with (hz | hz) | hz; exact .inl (.inl hz); exact .inr (by omega); exact .inl (.inr hz))
 ·exact hv.conf.classes.outNew hPc (fun z hz=>by rcases hz with (hz | hz) | hz; exact .inl (.inl hz); exact .inr (by omega); exact .inl (.inr hz))
 ·exact hv.conf.keep.outNew hPk (fun z hz=>by rcases hz with (hz | hz) | hz; exact .inl (.inl hz); exact .inr (by omega); exact .inl (.inr hz))
 ·rintro k T x ⟨Y,p,d,r,I,U,f⟩ z hz;rcases (d z).1 hz with hz | rfl
  ·exact hKlt _ _ _ p z hz
  ·exact Xjs r
 ·rintro k T x y ⟨Y,p,d,r,I,U,f⟩ hs;exact ⟨Y,hK _ _ _ _ _ p hs (fun z h => .inl h),d,hs.heap r (fun e=>by have:=F _ e; omega),hs.heap I (fun e=>by have:=F _ e; omega),hs.heap U (fun e=>by have:=F _ e; omega),f⟩
 ·rintro k T x0 x hk ao ⟨Y,p,d,r,I,U,f⟩ V;have hA:=ao.grow V;have s:=V.heap' r;have ac:=V.heap' I;have t:=V.heap' U;have ap:=hN p V;subst E;refine XbP.enter (ps := [46,47]) s rfl rfl a7 rfl (ζa rfl (Xay.beginRound rfl s rfl fun x1 aq i ai=>ζa rfl ?_));have ad:=hK _ _ _ _ _ ap i (fun z e => .inr ⟨fun a=>(f z a).2.1 e,by omega⟩);have ar:=hA.chg i (fun b l e=>by have:=h0.blt b l; omega);refine ζl (i.heap t (by omega)) rfl (ζc rfl (hdo k Y x1 hk ar ad) ?_);rintro _ x2 ⟨au,G,Y',av,a5⟩;refine ζa rfl ?_;have aw:=G.heap aq (fun a=>(f _ a).2.1 rfl);refine Xay.roundEnd rfl aw ?_;intro x3 ax o bo;have bf:=Xjs t;have b4:=Xjs s;have W:∀ z,Y' z→z≠B∧z≠B+1∧z≠db:=fun z hz=>(a5 z hz).elim (f z) (fun h=>by omega);have ay:=au.chg o (fun b l e=>by have:=h0.blt b l; omega);have az:=hK _ _ _ _ _ av o (fun z e => .inr ⟨fun a=>(W z a).2.1 e,by omega⟩);refine ⟨_,rfl,rfl,ay,((i.mono fun z _ e=>(d z).2 (.inr e)).trans (G.mono fun z _ e=>(d z).2 (.inl e))).trans (o.mono fun z _ e=>(d z).2 (.inr e)),fun z=>Y' z∨z=B+1,⟨Y',az,fun z=>Iff.rfl,ax,o.heap (G.heap (i.heap ac (by omega)) (fun a=>(f _ a).1 rfl)) (by omega),o.heap (G.heap (i.heap t (by omega)) (fun a=>(f _ a).2.2 rfl)) (by omega),W⟩,fun z hz => ?_⟩;rcases hz with hz | hz
  ·exact (a5 z hz).elim (fun h => .inl ((d z).2 (.inl h))) (fun h => .inr (by omega))
  ·exact .inl ((d z).2 (.inr hz))
 ·exact ⟨Y0,hN hK0 m,fun z=>Iff.rfl,am,al,g.heap' P,fun z hz=>by have:=R z hz; omega⟩
 ·rintro _ w8 ⟨rfl,b0,⟨T,⟨Y,p,d,r,I,U,f⟩,b1⟩,b2⟩;refine ⟨_,r,by rw [a9]; simp,?_⟩;intro w9 H bp;rw [aa];refine ζa rfl (Xay.retM hTT rfl Tryz.func192 (H.heap I (by omega)) (vs := [.int .i64 0]) (fun _ _ => .tmp rfl .nil) fun bq C bg => ?_);have ae:=(b0.chg H (fun b l e=>by have:=h0.blt b l; omega)).chg C (fun b l e=>by have:=h0.blt b l; omega);have af:=hK _ _ _ _ _ (hK _ _ _ _ _ p H (fun z e => .inr ⟨fun a=>(f z a).2.1 e,by omega⟩)) C (fun z e => .inr ⟨fun a=>(f z a).1 e,by omega⟩);refine ⟨rfl,ae,⟨Y,af,fun z hz => ?_⟩,?_⟩
  ·rcases b1 z ((d z).2 (.inl hz)) with (h | h) | h
   ·exact .inl h
   ·exact .inr (by omega)
   ·exact .inr (by omega)
  ·exact ((((m.mono fun _ _ h=>h.elim).since b2 (fun z hz h=>by rcases h with (h | h) | h; exact .inl h; exact absurd hz (by omega); exact .inr h))).since H (fun z hz e=>absurd hz (by omega))).since C (fun z hz e=>absurd hz (by omega))
theorem XcI (A:Ar) (V:ArV) (i n:Nat) (w:World) (h:Xag w A V) (ht:i+n≤V.bs.length):Xan Tryz.prog 292 #[.pointer (some ⟨A.ab,0,none⟩),.int .i64 i,.int .i64 n] w
 (fun v w' => ∃ x,v = .tuple #[.slice x n (V.bs.length - i),.int .i64 0]∧(0<n→x=some ⟨A.db,i,none⟩)∧x.isSome=true∧w=w') :=
 (XcH A V i n w h ht).mono fun _ _ ⟨a,b⟩=>⟨_,a,fun c=>Xrf ht c,by unfold Xqq; split <;> rfl,b⟩
theorem Xcz (A:Ar) (V:ArV) (t f n:Nat) (w:World) (h:Xag w A V) (hf:f+n≤V.bs.length) (ht:t+n≤V.bs.length) :
 Xan Tryz.prog 259 #[.pointer (some ⟨A.ab,0,none⟩),.int .i64 t,.int .i64 f,.int .i64 n] w (fun v w'=>v = .int .i64 0∧Xag w' A {V.charge A n with bs:=wrB V.bs t (sub V.bs f n)}∧Chg (Xgh A) w w'):=by
 refine Xan.enter Tryz.func259 rfl Tryz.ntmps259 rfl rfl ?_;refine ζa rfl ?_;refine ζc rfl (XcI A V f n w h hf) ?_;rintro _ E ⟨y,rfl,u,_,rfl⟩;refine ζa rfl ?_;refine Xay.no hTT rfl rfl rfl ?_;refine ζc rfl (XcG A V t n w h ht) ?_;rintro _ z ⟨x,rfl,a,_,d,B⟩;refine ζa rfl ?_;have e:Chg (Xgh A) w z:=B.mono fun b _ m => .inr m;have e1:=V.charge_bs A n;by_cases q:n=0
 ·refine Xay.copy0 hTT rfl (by simp [q]) rfl ?_;subst q;have o:sub V.bs f 0 = []:=by simp [sub]
  exact Xay.ret1 hTT rfl Tryz.func259 rfl rfl ⟨rfl,by rw [o,XuB,← V.charge_bs A 0]; exact d,e⟩
 ·have r:=a (by omega);have s:=u (by omega);subst r s;have g:=d.sub (i:=f) (n:=n) (x:=some ⟨A.db,f,none⟩) (fun _=>rfl) (by rw [e1]; exact hf);rw [e1] at g;have j:=d.dat;rw [e1] at j;have c:=Xsy hf;refine Xay.copy hTT rfl j (cs:=(sub V.bs f n).map (Value.int .u8)) (by simp [c]) g.cells (by simp [c]; omega) Xm1 ?_;intro F k l D;refine ζa rfl ?_;have p:(V.bs.map (Value.int .u8)).take t++(sub V.bs f n).map (Value.int .u8)++(V.bs.map (Value.int .u8)).drop (t+((sub V.bs f n).map (Value.int .u8)).length)=(wrB V.bs t (sub V.bs f n)).map (Value.int .u8):=by
   unfold wrB; simp [List.map_take,List.map_drop]
  rw [p] at k;have C:=d.laid k l (by rw [Xuz (by rw [c]; exact ht),e1]) (fun x a=>(XuA a).elim (h.rng x) (fun a=>h.rng x (List.mem_of_mem_drop (List.mem_of_mem_take a))));exact Xay.ret1 hTT rfl Tryz.func259 rfl rfl ⟨rfl,C,e.trans (l.mono fun b _ m => .inl m)⟩
theorem Xuy {bs l:List Int} {i j:Nat} (h:i+l.length≤bs.length):(wrB bs i l).getD j 0=if j<i then bs.getD j 0 else if j<i+l.length then l.getD (j - i) 0 else bs.getD j 0:=by
 unfold wrB;simp only [List.getD_eq_getElem?_getD];by_cases a:j<i
 ·rw [if_pos a,List.append_assoc,List.getElem?_append_left (by simp; omega),List.getElem?_take,if_pos a]
 ·rw [if_neg a];by_cases b:j<i+l.length
  ·rw [if_pos b,List.getElem?_append_left (by simp; omega),List.getElem?_append_right (by simp; omega)];simp [show min i bs.length=i from by omega]
  ·rw [if_neg b,List.getElem?_append_right (by simp; omega)];simp only [List.length_append,List.length_take,List.getElem?_drop,show min i bs.length=i from by omega];rw [show i+l.length+(j - (i+l.length))=j from by omega]
theorem XfP {a b:List Int} (hl:a.length=b.length) (h:∀ j,j<a.length→a.getD j 0=b.getD j 0):a=b:=by
 apply List.ext_getElem hl
 intro j c d;have:=h j c
 simpa [List.getD,c,d] using this
theorem XpG {l:List Int} {i j:Nat} {x:Int} (hi:i<l.length):(l.set i x).getD j 0=if j=i then x else l.getD j 0:=by
 simp only [List.getD_eq_getElem?_getD,List.getElem?_set];by_cases h:i=j
 ·subst h; simp [hi]
 ·rw [if_neg h,if_neg (Ne.symm h)]
theorem XpA:∀ (l:List Value) (i:Nat) (v:Value),i<l.length→Xps l i [v]=some (l.set i v)
 |x::r,0,v,_=>by simp [Xps]
 |x::r,i+1,v,h=>by simp [Xps,XpA r i v (by simpa using h)]
theorem Xpt {l:List Int} {i:Nat} {x:Int} (hi:i<l.length):Xps (l.map (Value.int .u8)) i [.int .u8 x]=some ((l.set i x).map (Value.int .u8)):=by
 rw [XpA _ _ _ (by simpa using hi),List.map_set]
theorem XuE {z:Int}:IntKind.u8.wrap z=z % 256:=by
 simp only [IntKind.wrap,IntKind.signed,IntKind.bits]
 simp
def XlR (bs:List Int) (i:Nat) (l:List Int) (k:Nat):List Int:=wrB bs i (l.take k)
theorem XlV {bs l:List Int} {i k:Nat} (h:i+l.length≤bs.length) (hk:k<l.length):(XlR bs i l k).set (i+k) (l.getD k 0)=XlR bs i l (k+1):=by
 unfold XlR;have n:(l.take k).length=k:=by simp; omega
 have o:(l.take (k+1)).length=k+1:=by simp; omega
 have c:(wrB bs i (l.take k)).length=bs.length:=Xuz (by omega);have d:(wrB bs i (l.take (k+1))).length=bs.length:=Xuz (by omega);refine XfP (by simp [c,d]) fun j p => ?_;have f:∀ m,m<k→(l.take k).getD m 0=l.getD m 0:=fun m hm=>by simp [List.getD,hm]
 have a:∀ m,m<k+1→(l.take (k+1)).getD m 0=l.getD m 0:=fun m hm=>by simp [List.getD,hm]
 rw [XpG (by omega),Xuy (by omega),Xuy (by omega),n,o];by_cases e:j=i+k
 ·subst e;rw [if_pos rfl,if_neg (by omega),if_pos (by omega),show i+k - i=k from by omega,a k (by omega)]
 ·rw [if_neg e];by_cases b:j<i
  ·rw [if_pos b,if_pos b]
  ·rw [if_neg b,if_neg b];by_cases g:j<i+k
   ·rw [if_pos g,if_pos (by omega),f _ (by omega),a _ (by omega)]
   ·rw [if_neg g,if_neg (by omega)]
theorem XlW {bs l:List Int} {i:Nat}:XlR bs i l 0=bs:=by unfold XlR; simp [XuB]
theorem XlS {bs l:List Int} {i:Nat}:XlR bs i l l.length=wrB bs i l:=by unfold XlR; rw [List.take_length]
theorem XlU {bs l:List Int} {i k:Nat} (h:i+l.length≤bs.length):(XlR bs i l k).length=bs.length:=Xuz (by simp; omega)
theorem XlT {bs l:List Int} {i k:Nat} (h:InB bs) (h':InB l):InB (XlR bs i l k):=fun x a=>(XuA a).elim (h x) (fun a=>h' x (List.mem_of_mem_take a))
theorem Xln {c:Int} (h:0≤c∧c<256):Xdi .or .u8 0 c=c:=by
 obtain ⟨c,rfl⟩:=Int.eq_ofNat_of_zero_le h.1;have a:(BitVec.ofInt 8 (0:Int) ||| BitVec.ofInt 8 (c:Int)).toNat=c:=by
  rw [BitVec.toNat_or,BitVec.toNat_ofInt,BitVec.toNat_ofInt];rw [show ((c:Int) % ((2 ^ 8:Nat):Int)).toNat=c from by omega]
  simp
 change IntKind.u8.wrap ((BitVec.ofInt 8 (0:Int) ||| BitVec.ofInt 8 (c:Int)).toNat:Int)=_
 rw [a,XuE];omega
theorem Xfk {w:World} {A:Ar} {V:ArV} {j:Nat} (h:Xag w A V) (hj:j<V.bs.length):w.cell? ⟨A.db,j,none⟩=some (.int .u8 (V.bs.getD j 0)):=by
 rw [Xd7 h.dat]; simp [hj]
theorem XcA (A:Ar) (V:ArV) (i n:Nat) (c:Int) (w:World) (h:Xag w A V) (ht:i+n≤V.bs.length) (hc:0≤c∧c<256) :
 Xan Tryz.prog 200 #[.pointer (some ⟨A.ab,0,none⟩),.int .i64 i,.int .i64 n,.int .u8 c] w (fun v w'=>v = .int .i64 0∧Xag w' A {V.charge A n with bs:=wrB V.bs i (List.replicate n c)}∧Chg (Xgh A) w w'):=by
 have U:=h.len;refine Xan.enter Tryz.func200 rfl Tryz.ntmps200 rfl rfl ?_;refine ζa rfl ?_;refine ζc rfl (XcG A V i n w h ht) ?_;rintro _ W ⟨x,rfl,a,_,C,hs⟩;refine ζa rfl ?_;have p:Chg (Xgh A) w W:=hs.mono fun b _ f => .inr f;have e1:=V.charge_bs A n;by_cases J:n=0
 ·refine Xay.clear0 hTT rfl J rfl ?_;refine Xay.unroll hTT rfl ?_;refine Xay.no hTT rfl (decide_eq_false (by omega)) rfl ?_;subst J;exact Xay.ret1 hTT rfl Tryz.func200 rfl rfl ⟨rfl,by rw [List.replicate_zero,XuB,← V.charge_bs A 0]; exact C,p⟩
 ·have K:=a (by omega);subst K;have q:=C.dat;rw [e1] at q;have L:(List.replicate n (0:Int)).length=n:=List.length_replicate;have M:(List.replicate n c).length=n:=List.length_replicate;refine Xay.clear hTT rfl q rfl rfl (by omega) (by simp; omega) ?_;intro w2 r s a6;refine ζa rfl ?_;have D:(V.bs.map (Value.int .u8)).take i++List.replicate n (Value.int .u8 0)++(V.bs.map (Value.int .u8)).drop (i+n)=(wrB V.bs i (List.replicate n 0)).map (Value.int .u8):=by
   unfold wrB; simp [List.map_take,List.map_drop]
  rw [D] at r;have t:InB (List.replicate n (0:Int)):=fun x a=>by rw [List.eq_of_mem_replicate a]; omega
  have N:InB (List.replicate n c):=fun x a=>by rw [List.eq_of_mem_replicate a]; exact hc
  have O:=C.laid r s (by rw [Xuz (by omega),e1]) (fun x a=>(XuA a).elim (h.rng x) (t x));have E:Chg (Xgh A) w w2:=p.trans (s.mono fun b _ f => .inl f);obtain ⟨d,e⟩:∃ d,d=wrB V.bs i (List.replicate n 0):=⟨_,rfl⟩;rw [← e] at O;have g:d.length=V.bs.length:=by rw [e,Xuz (by omega)]
  have F:InB d:=fun x a=>by rw [e] at a; exact (XuA a).elim (h.rng x) (t x)
  refine Xay.loop (α:=Nat) (fun k => [(3,false,.int .u8 c),(9,false,.slice (some ⟨A.db,i,none⟩) n (V.bs.length - i)),(10,false,.int .i64 0),(21,false,.int .i64 n),(22,false,.int .i64 k)])
   (fun k w'=>Xag w' A {V.charge A n with bs:=XlR d i (List.replicate n c) k}∧Chg (Xgh A) w w'∧k≤n) (fun k=>n - k) 0 ⟨rfl,rfl,rfl,rfl,rfl,trivial⟩ ⟨by rw [XlW]; exact O,E,by omega⟩ ?_
  rintro k w3 ⟨m,u,hk⟩ ih;refine ζa rfl ?_;refine Xay.fork hTT rfl rfl rfl (fun G => ?_) (fun G => ?_)
  ·have y:k<n:=by have:=of_decide_eq_true G; omega
   have z:(XlR d i (List.replicate n c) k).length=V.bs.length:=by rw [XlU (by omega),g]
   have P:(XlR d i (List.replicate n c) k).getD (i+k) 0=0:=by
    unfold XlR;rw [Xuy (by simp; omega),if_neg (by omega),if_neg (by simp; omega),e,Xuy (by omega),if_neg (by omega),if_pos (by omega)];simp [List.getD,y]
   have o:w3.cell? ⟨A.db,i+k,none⟩=some (.int .u8 0):=by rw [← P]; exact Xfk (j:=i+k) m (by simp only [z]; omega)
   refine Xay.index hTT rfl (j:=k) (by omega) (by omega) (by first | rfl | omega | (simp; done) | (simp; omega)) rfl ?_;refine ζk rfl o rfl ?_;refine Xay.bits hTT rfl (Xln hc) rfl ?_;refine Xay.index hTT rfl (j:=k) (by omega) (by omega) (by first | rfl | omega | (simp; done) | (simp; omega)) rfl ?_;refine Xay.store hTT rfl m.dat (Xpt (by simp only [z]; omega)) rfl ?_;intro w4 Q B a7;refine ζa rfl ?_;have H:w4.heap[A.db]? = some (.cells ((XlR d i (List.replicate n c) (k+1)).map (Value.int .u8)).toArray 5 (0,0)):=by
    rw [← XlV (l:=List.replicate n c) (i:=i) (bs:=d) (k:=k) (by omega) (by omega),show (List.replicate n c).getD k 0=c from by simp [List.getD,y]]; exact Q
   have h4:=m.laid H B (by simp only; rw [XlU (by omega),XlU (by omega)]) (XlT F N);refine Xay.arith hTT rfl (w64 (by omega)) rfl ?_;exact ih (k+1) _ _ ⟨h4,u.trans (B.mono fun b _ f => .inl f),by omega⟩ (by omega) ⟨rfl,rfl,rfl,rfl,rfl,trivial⟩
  ·have R:k=n:=by have:=of_decide_eq_false G; omega
   subst R;have I:XlR d i (List.replicate k c) k=wrB V.bs i (List.replicate k c):=by
    refine XfP (by rw [XlU (by omega),Xuz (by omega),g]) fun j hj => ?_;have a8:=hj;unfold XlR;rw [show (List.replicate k c).take k=List.replicate k c from by simp,Xuy (by omega),Xuy (by omega),e,Xuy (by omega)];by_cases S:j<i
    ·simp only [if_pos S]
    ·simp only [if_neg S,M,L];by_cases T:j<i+k
     ·simp only [if_pos T]
     ·simp only [if_neg T]
   rw [I] at m;exact Xay.ret1 hTT rfl Tryz.func200 rfl rfl ⟨rfl,m,u⟩
theorem Xl3 {c:Conf} {q:Plc} {at' n:Nat} (hm:XjN c=true) (hck:Xer c q at' n=0) (hfew:q.pages.length≤4096) :
 ∀ p ∈ Xl1 c q at' n,∃ i m:Nat,p=((i:Int),(m:Int))∧((i+m:Nat):Int)≤c.size*c.pages:=by
 obtain ⟨C,D,E⟩:=XjP hm;have d:XtQ c q=true:=by
  cases d:XtQ c q with
  |true=>rfl
  |false=>unfold Xer at hck; rw [if_pos d] at hck; cases hck
 have v:¬ ((at':Int)<0∨(n:Int)<0∨XtN c q<n∨XtN c q - n<at'):=fun h=>by
  unfold Xer at hck; rw [if_neg (by rw [d]; decide),if_pos h] at hck; cases hck
 intro p e;unfold Xl1 at e;split at e
 ·rename_i b
  obtain ⟨s,o,rfl⟩:=List.mem_map.1 e;obtain ⟨w,f⟩:=Xh3 d b;have r:XtN c q=(q.pages.length:Int)*c.size:=by unfold XtN; rw [if_pos d,if_pos b]
  obtain ⟨sz,j⟩:=Int.eq_ofNat_of_zero_le (show 0≤c.size by omega);rw [show c.size.toNat=sz from by omega] at o;obtain ⟨F,G,H,I⟩:=Xrg (page:=sz) (by omega) n at' s o;have k:s.1<q.pages.length:=by
   have x:(s.1*sz:Nat)<q.pages.length*sz:=by
    have:((q.pages.length*sz:Nat):Int)=(q.pages.length:Int)*c.size:=by rw [j]; rfl
    omega
   exact Nat.lt_of_mul_lt_mul_right x
  have t:=f _ (show q.pages.getD s.1 0 ∈ q.pages by rw [List.getD_eq_getElem?_getD,List.getElem?_eq_getElem k]; exact List.getElem_mem k);obtain ⟨g,y⟩:=Int.eq_ofNat_of_zero_le t.1;refine ⟨g*sz+s.2.1,s.2.2,?_,?_⟩
  ·rw [y,j]; rfl
  ·have e2:(g:Int)*c.size+c.size≤c.size*c.pages:=by
    have:((g:Int)+1)*c.size≤c.pages*c.size:=Int.mul_le_mul_of_nonneg_right (by omega) (by omega);rw [Int.add_mul,Int.one_mul,Int.mul_comm c.pages] at this;exact this
   have e3:((g*sz:Nat):Int)=(g:Int)*c.size:=by rw [j]; rfl
   omega
 ·rename_i b
  simp at e;subst e;obtain ⟨kk,pg,ix,l,f,u,A,J,K,L,M,N,O,P⟩:=Xh4 hm d b;have B:XtM c q=(pg:Int)*c.size+(ix:Int)*XeW c kk:=by unfold XtM; rw [if_pos ⟨d,b⟩,l,f,u]
  have r:XtN c q=XeW c kk:=by unfold XtN; rw [if_pos d,if_neg b,l]
  obtain ⟨a,z⟩:=Int.eq_ofNat_of_zero_le (show 0≤XtM c q by omega);exact ⟨a+at',n,by rw [z]; rfl,by omega⟩
def vsT (q:Plc) (A:Ar) (V:ArV) (ps:List (Int × Int)):Nat→ArV
 |0=>V
 |k+1=>(Xew q A (vsT q A V ps k)).charge A (ps.getD k (0,0)).2
theorem Xex (q:Plc) (A:Ar) (V:ArV):(Xew q A V).bs=V.bs:=by unfold Xew; split; exact V.charge_bs A 1; rfl
theorem Xt8 (q:Plc) (A:Ar) (V:ArV) (ps:List (Int × Int)):∀ k,(vsT q A V ps k).bs=V.bs
 |0=>rfl
 |k+1=>by unfold vsT; rw [ArV.charge_bs,Xex,Xt8 q A V ps k]
def XnI (bs:List Int) (ps:List (Int × Int)):List Int:=ps.flatMap fun p=>sub bs p.1.toNat p.2.toNat
theorem XtW (v:Vw) (vb ob:Nat) (A:Ar) (V:ArV) (i m base j:Nat) (u:Value) (xs:List Int) (w:World) (hvb:Xnr w vb v) (hv:w.heap[v.vb]? = some (.cells (vwL v).toArray 211 (0,0))) (hab:v.ab=A.ab)
 (hob:w.heap[ob]? = some (.cells ([u]:List Value).toArray 32 (0,0))) (hown:Own base 5 1 w u j (xs.map (Value.int .u8))) (hbase:base≤w.heap.size) (hobb:ob<base) (hA:Xag w A V) (him:i+m≤V.bs.length) (hj:j+m≤16777216)
 (hmo:∀ z,XjD A z→z≠ob∧z<base) (hArow:∀ b,b=A.ab∨b=A.db∨b=A.mc∨A.mb=some b→some b=u.ownBlock→False) (hAob:∀ b,b=A.ab∨b=A.db∨b=A.mc∨A.mb=some b→b=ob→False) :
 Xan Tryz.prog 193 #[.int .i64 i,.int .i64 m,.pointer (some ⟨vb,0,none⟩),.pointer (some ⟨ob,0,none⟩)] w (fun _ w'=>Xag w' A (V.charge A m)∧Chg (fun z=>z=ob∨some z=u.ownBlock∨XjD A z) w w' ∧
  ∃ u',w'.heap[ob]? = some (.cells ([u']:List Value).toArray 32 (0,0))∧Own base 5 1 w' u' (j+m) ((xs++sub V.bs i m).map (Value.int .u8)) ∧ ∀ z,some z=u'.ownBlock→some z=u.ownBlock∨w.heap.size≤z):=by
 have R:maxLen=9223372036854775807:=rfl;refine ζe Tryz.func193 Tryz.ntmps193 rfl (ζl hvb rfl (ζl hv rfl ?_));rw [hab];refine ζc rfl (XcD A V i m w hA him) ?_;rintro _ M ⟨T,rfl,⟨g,cap,cur,rfl,U,J,K,D⟩,E,f⟩;refine ζa rfl ?_;have s:=Xsy him;have n:=f.heap hob (fun e=>(hmo _ e).1 rfl);have t:=hown.chg f (fun b a e=>by have:=(World.ownsRow.lt hown b a.symm).1; have:=(hmo _ e).2; omega);rw [s] at K D ⊢;have N:=f.size;refine ζl n rfl ?_;have C:∀ k x,((sub V.bs i m).map (Value.int .u8))[k]? = some x→M.cell? ((⟨g,0,none⟩:Addr).add k)=some x:=fun k x G=>by
  rw [XbR,Xd7 J];have O:k<m:=by have:=(List.getElem?_eq_some_iff.1 G).1; simpa [s] using this
  rw [← D,List.getElem?_take,if_pos O] at G
  simpa using G
 refine Xay.append (base:=base) (news:=(sub V.bs i m).map (Value.int .u8)) hTT rfl t (by omega) (by simp [s]) C Xm1 (by simp only; omega) ?_;intro W w2 l d F;rcases l.2 with ⟨o,S⟩ | ⟨g2,P,Q,o,_⟩
 ·subst o;refine ζa rfl ?_;have p:=d.heap n (fun e=>by have:=(World.ownsRow.lt t _ e.symm).1; omega);refine ζs p rfl fun H q c L => ?_;have y:=l.chg c (fun b a e=>by have:=(World.ownsRow.lt l b a.symm).1; omega);have B:=(E.chg d (fun b a e=>hArow b a e)).chg c (fun b a e=>hAob b a e);have I:Chg (fun z=>z=ob∨some z=u.ownBlock∨XjD A z) w H:=((f.mono fun z _ h => .inr (.inr h)).trans (d.mono fun z _ h => .inr (.inl h))).trans (c.mono fun z _ h => .inl h);exact ζr Tryz.func193 rfl ⟨B,I,_,q,by rw [List.map_append]; exact y,fun z r=>by rcases F.2 with h | h; exact .inl (r.trans h); exact .inr (by rw [h] at r; cases r; omega)⟩
 ·subst o;refine ζa rfl ?_;have p:=d.heap n (fun e=>by have:=(World.ownsRow.lt t _ e.symm).1; omega);refine ζs p rfl fun H q c L => ?_;have y:=l.chg c (fun b a e=>by have:=(World.ownsRow.lt l b a.symm).1; omega);have B:=(E.chg d (fun b a e=>hArow b a e)).chg c (fun b a e=>hAob b a e);have I:Chg (fun z=>z=ob∨some z=u.ownBlock∨XjD A z) w H:=((f.mono fun z _ h => .inr (.inr h)).trans (d.mono fun z _ h => .inr (.inl h))).trans (c.mono fun z _ h => .inl h);exact ζr Tryz.func193 rfl ⟨B,I,_,q,by rw [List.map_append]; exact y,fun z r=>by rcases F.2 with h | h; exact .inl (r.trans h); exact .inr (by rw [h] at r; cases r; omega)⟩
theorem Xrn {page:Nat} (hp:1≤page):∀ (n at':Nat),((Xrj at' n page).map fun s=>s.2.2).sum=n:=by
 intro n
 induction n using Nat.strongRecOn with
 |_ n ih =>
  intro at';by_cases a:n=0
  ·subst a; rfl
  ·have b:=Xg8 (at':=at') hp (show 0<n by omega);rw [Xrk hp (by omega),List.map_cons,List.sum_cons,ih _ (by omega)];unfold Xg7;simp only
   omega
def Xtr (ps:List (Int × Int)):Nat:=(ps.map fun p=>p.2.toNat).sum
theorem Xtt (p:Int × Int) (ps:List (Int × Int)):Xtr (p::ps)=p.2.toNat+Xtr ps:=by simp [Xtr]
theorem Xts (a b:List (Int × Int)):Xtr (a++b)=Xtr a+Xtr b:=by simp [Xtr]
theorem Xl5 {c:Conf} {q:Plc} {at' n:Nat} (hm:XjN c=true):Xtr (Xl1 c q at' n)=n:=by
 obtain ⟨a,b,d⟩:=XjP hm;unfold Xl1;split
 ·unfold Xtr;rw [List.map_map];have:=Xrn (page:=c.size.toNat) (by omega) n at';exact this
 ·simp [Xtr]
theorem Xtv {ps:List (Int × Int)} {k:Nat} (h:k<ps.length):Xtr (ps.take k)+ps[k].2.toNat≤Xtr ps:=by
 have e:ps=ps.take k++ps[k]::ps.drop (k+1):=by rw [← List.drop_eq_getElem_cons h,List.take_append_drop]
 have e2:Xtr ps=Xtr (ps.take k)+(ps[k].2.toNat+Xtr (ps.drop (k+1))):=by
  conv=>lhs; rw [e]
  rw [Xts,Xtt]
 omega
theorem XnJ {bs:List Int} {N:Nat} (hN:bs.length=N):∀ {ps:List (Int × Int)},(∀ p ∈ ps,∃ i m:Nat,p=((i:Int),(m:Int))∧i+m≤N)→(XnI bs ps).length=Xtr ps
 |[],_=>rfl
 |p::r,h=>by
  obtain ⟨i,m,rfl,b⟩:=h p List.mem_cons_self;rw [Xtt];unfold XnI;rw [List.flatMap_cons,List.length_append];have:=XnJ hN (ps:=r) (fun p a=>h p (List.mem_cons_of_mem _ a));unfold XnI at this;rw [this];simp only [Int.toNat_natCast];rw [Xsy (by omega)]
theorem Xua {q:Plc} {A:Ar} {V:ArV} {ps:List (Int × Int)} {k:Nat} (h:k<ps.length):vsT q A V ps (k+1)=(Xew q A (vsT q A V ps k)).charge A ps[k].2:=by
 show (Xew q A (vsT q A V ps k)).charge A (ps.getD k (0,0)).2=_
 rw [List.getD_eq_getElem?_getD,List.getElem?_eq_getElem h]; rfl
theorem XtV (v:Vw) (q:Plc) (at' n:Nat) (A:Ar) (V:ArV) (w:World) (hv:XbO w v) (hq:Xa4 w q) (hmb:v.mb=A.mb) (hab:v.ab=A.ab) (hck:Xer v.c q at' n=0) (hfew:q.pages.length≤4096)
 (hPv:¬ XjD A v.vb) (hPq:0<q.pages.length→XaX (XjD A) q.pa) (hPc:0<v.c.classes.length→XaX (XjD A) v.p.ca) (hPk:0<v.c.keep.length→XaX (XjD A) v.p.ka) (hA:Xag w A V) (hlen:(V.bs.length:Int)=v.c.size*v.c.pages) :
 Xan Tryz.prog 126 #[vwV v,.agg (Xm6 q).toArray,.int .i64 at',.int .i64 n] w (fun u w' => ∃ u1,u = .tuple #[u1,.int .i64 0]∧Xag w' A (vsT q A V (Xl1 v.c q at' n) (Xl1 v.c q at' n).length)∧Chg (XjD A) w w' ∧
  Own w.heap.size 5 1 w' u1 (XnI V.bs (Xl1 v.c q at' n)).length ((XnI V.bs (Xl1 v.c q at' n)).map (Value.int .u8))):=by
 obtain ⟨ps,l⟩:∃ ps,ps=Xl1 v.c q at' n:=⟨_,rfl⟩;have E:∀ p ∈ ps,∃ i m:Nat,p=((i:Int),(m:Int))∧i+m≤V.bs.length:=fun p r=>by
  obtain ⟨i,m,o,d⟩:=Xl3 hv.may hck hfew p (l▸r);exact ⟨i,m,o,by omega⟩
 have af:Xtr ps=n:=by rw [l]; exact Xl5 hv.may
 have ak:=XtO (c:=v.c) (q:=q) hv.may hfew;have hn:n≤16777216:=by
  unfold Xer at hck;split at hck
  ·cases hck
  ·split at hck
   ·cases hck
   ·omega
 rw [← l];refine Xan.enter Tryz.func126 rfl Tryz.ntmps126 rfl rfl ?_;refine ζa rfl ?_;refine Xay.alloc hTT rfl ?_;intro vb w1 e1 W a0 al;refine ζa rfl ?_;refine Xay.alloc hTT rfl ?_;intro qb w2 e2 F N am;refine ζa rfl ?_;refine Xay.alloc hTT rfl ?_;intro ob s e3 a6 G an;refine ζa rfl ?_;replace F:Xm5 w2 qb q:=F;have H:=(a0.trans N).trans G;have I:Xnr s vb v:=(N.trans G).heap' W;refine Xay.loadb hTT rfl I rfl rfl ?_;refine Xay.loads hTT rfl (G.heap' F) rfl rfl ?_;have f:=hA.mlt;have ao:=Xjs hv.obj;have hE:=Xt1 v q at' n 193 [.pointer (some ⟨vb,0,none⟩),.pointer (some ⟨ob,0,none⟩)] A (vsT q A V ps)
  (fun k Y x => ∃ u,x.heap[ob]? = some (.cells ([u]:List Value).toArray 32 (0,0))∧Own s.heap.size 5 1 x u (XnI V.bs (ps.take k)).length ((XnI V.bs (ps.take k)).map (Value.int .u8)) ∧
   (∀ z,Y z↔z=ob∨some z=u.ownBlock∨XjD A z)∧Xnr x vb v∧x.heap[v.vb]? = some (.cells (vwL v).toArray 211 (0,0))∧s.heap.size≤x.heap.size)
  (fun z=>z=ob∨XjD A z) s (hv.grow H) (hq.grow H) hmb hck hfew
  (by rintro ((h | h) | h); omega; exact hPv h; exact hPv h)
  (hq.rd.outNew hPq (fun z a=>by rcases a with (h | h) | h; exact .inr (by omega); exact .inl h; exact .inl h))
  (hv.conf.classes.outNew hPc (fun z a=>by rcases a with (h | h) | h; exact .inr (by omega); exact .inl h; exact .inl h))
  (hv.conf.keep.outNew hPk (fun z a=>by rcases a with (h | h) | h; exact .inr (by omega); exact .inl h; exact .inl h))
  (by
   rintro k Y x ⟨u,o,d,j,t,B,C⟩ z a;rcases (j z).1 a with rfl | h | h
   ·exact Xjs o
   ·exact (World.ownsRow.lt d z h.symm).2
   ·have:=f z h; omega)
  (by
   rintro k Y x y S ⟨u,o,d,j,t,B,C⟩ J hS;have no:∀ z,z<s.heap.size → ¬ XjD A z → ¬ S z:=fun z a hm h=>(hS z h).elim hm (fun h=>by omega);exact ⟨u,J.heap o (no _ (by omega) (fun h=>by have:=f _ h; omega)),d.chg J (fun b D h=>by
    have ap:=World.ownsRow.lt d b D.symm;rcases hS b h with hm | hm
    ·have:=f b hm; omega
    ·exact hm.1 ((j b).2 (.inr (.inl D)))),j,J.heap t (no _ (by omega) (fun h=>by have:=f _ h; omega)),J.heap B (no _ (by omega) hPv),Nat.le_trans C J.size⟩)
  (by
   rintro k Y x K a9 ⟨u,o,d,j,t,B,C⟩;rw [← l] at K;obtain ⟨i,m,r,O⟩:=E ps[k] (List.getElem_mem K);have P:(Xew q A (vsT q A V ps k)).bs=V.bs:=by rw [Xex,Xt8]
   have aq:(XnI V.bs (ps.take k)).length=Xtr (ps.take k):=XnJ rfl (fun p r=>E p (List.mem_of_mem_take r));have Q:=Xtv K;rw [r] at Q;simp only [Int.toNat_natCast] at Q;have R:∀ b,b=A.ab∨b=A.db∨b=A.mc∨A.mb=some b→b<w.heap.size:=hA.blt;have hR:=XtW v vb ob A (Xew q A (vsT q A V ps k)) i m s.heap.size (XnI V.bs (ps.take k)).length u (XnI V.bs (ps.take k)) x t B hab o d C (by omega) a9 (by rw [P]; exact O) (by omega)
    (fun z a=>by have:=f z a; omega) (fun b D e=>by have:=R b D; have:=(World.ownsRow.lt d b e.symm).1; omega) (fun b D e=>by have:=R b D; omega)
   simp only [← l];rw [r];refine hR.mono fun _ y ⟨T,L,u',U,a4,a5⟩ => ?_;rw [P] at a4;have M:XnI V.bs (ps.take (k+1))=XnI V.bs (ps.take k)++sub V.bs i m:=by
    rw [List.take_add_one,List.getElem?_eq_getElem K,r];unfold XnI;rw [List.flatMap_append]
    simp
   refine ⟨by rw [Xua K,r]; exact T,L.mono fun z _ a=>(j z).2 a,fun z=>z=ob∨some z=u'.ownBlock∨XjD A z,⟨u',U,?_,fun z=>Iff.rfl,?_,?_,Nat.le_trans C L.size⟩,fun z a => ?_⟩
   ·rw [M,List.length_append,Xsy O];exact a4
   ·exact L.heap t (fun h=>by rcases h with h | h | h; omega; have:=(World.ownsRow.lt d _ h.symm).1; omega; have:=f _ h; omega)
   ·exact L.heap B (fun h=>by rcases h with h | h | h; omega; have:=(World.ownsRow.lt d _ h.symm).1; omega; exact hPv h)
   ·rcases a with h | h | h
    ·exact .inl ((j z).2 (.inl h))
    ·rcases a5 z h with h | h
     ·exact .inl ((j z).2 (.inr (.inl h)))
     ·exact .inr h
    ·exact .inl ((j z).2 (.inr (.inr h))))
  (hA.grow H) ⟨.slice none 0 0,a6,World.ownsRow_nil _ _ _ _,fun z=>⟨fun h=>h.elim .inl (fun h => .inr (.inr h)),fun h=>by rcases h with h | h | h; exact .inl h; cases h; exact .inr h⟩,I,H.heap' hv.obj,Nat.le_refl _⟩
 rw [← l] at hE;refine ζc rfl (hE) ?_;rintro _ w4 ⟨rfl,ac,⟨Y',⟨u,o,d,j,t,B,C⟩,ar⟩,ad⟩;refine ζa rfl ?_;rw [List.take_length] at d;have ae:Chg (XjD A) w w4:=(H.mono fun _ _ h=>h.elim).since ad (fun z a h=>by rcases h with (h | h) | h; omega; exact h; exact h);have ho:Own w.heap.size 5 1 w4 u (XnI V.bs ps).length ((XnI V.bs ps).map (Value.int .u8)):=by
  refine ⟨d.1,?_⟩;rcases d.2 with h | ⟨g,cap,cur,T,L,U⟩
  ·exact .inl h
  ·exact .inr ⟨g,cap,cur,T,by omega,U⟩
 refine Xay.loadb hTT rfl o rfl rfl ?_;exact Xay.ret2 hTT rfl Tryz.func126 rfl rfl rfl ⟨u,rfl,ac,ae,ho⟩
def vsW (q:Plc) (A:Ar) (V:ArV) (ps:List (Int × Int)) (l:List Int):Nat→ArV
 |0=>V
 |k+1=>{(Xew q A (vsW q A V ps l k)).charge A (ps.getD k (0,0)).2 with bs:=wrB (vsW q A V ps l k).bs (ps.getD k (0,0)).1.toNat (sub l (Xtr (ps.take k)) (ps.getD k (0,0)).2.toNat)}
theorem Xud {q:Plc} {A:Ar} {V:ArV} {ps:List (Int × Int)} {l:List Int} {k i m:Nat} (h:k<ps.length) (hp:ps[k]=((i:Int),(m:Int))) :
 vsW q A V ps l (k+1)={(Xew q A (vsW q A V ps l k)).charge A m with bs:=wrB (vsW q A V ps l k).bs i (sub l (Xtr (ps.take k)) m)}:=by
 have a:ps.getD k (0,0)=((i:Int),(m:Int)):=by rw [List.getD_eq_getElem?_getD,List.getElem?_eq_getElem h,hp]; rfl
 show ({(Xew q A (vsW q A V ps l k)).charge A (ps.getD k (0,0)).2 with bs:=wrB (vsW q A V ps l k).bs (ps.getD k (0,0)).1.toNat (sub l (Xtr (ps.take k)) (ps.getD k (0,0)).2.toNat)}:ArV)=_
 rw [a];rfl
theorem Xuc {q:Plc} {A:Ar} {V:ArV} {ps:List (Int × Int)} {l:List Int} (hpin:∀ p ∈ ps,∃ i m:Nat,p=((i:Int),(m:Int))∧i+m≤V.bs.length) (htot:Xtr ps=l.length):∀ {k:Nat},k≤ps.length→(vsW q A V ps l k).bs.length=V.bs.length
 |0,_=>rfl
 |k+1,h=>by
  obtain ⟨i,m,b,c⟩:=hpin ps[k] (List.getElem_mem h);have ih:=Xuc (q:=q) (A:=A) hpin htot (k:=k) (by omega);have a:=Xtv h;rw [b] at a;simp only [Int.toNat_natCast] at a;rw [Xud h b];show (wrB _ _ _).length=_
  rw [Xuz (by rw [Xsy (by omega),ih]; exact c),ih]
theorem Xqt {S:Nat→Prop} {a:Option Addr} {cap l sz:Nat} (h:XaX S a):XaX S (Xqq a cap l sz):=by
 intro b off s e;unfold Xqq at e;by_cases c:cap=l
 ·rw [if_pos c] at e; exact h b off s e
 ·rw [if_neg c] at e;cases a with
  |none=>cases e
  |some x =>
   obtain ⟨xb,xo,xs⟩:=x;have d:=h xb xo xs rfl;simp only [Option.map_some,Option.some.injEq] at e;unfold Addr.add at e;have f:xb=b:=by
    split at e <;> (cases e; rfl)
   rw [← f]; exact d
theorem XtY (v:Vw) (vb bb:Nat) (A:Ar) (V:ArV) (i m:Nat) (a:Option Addr) (cap:Nat) (l:List Int) (w:World) (hvb:Xnr w vb v) (hv:w.heap[v.vb]? = some (.cells (vwL v).toArray 211 (0,0))) (hab:v.ab=A.ab)
 (hbb:w.heap[bb]? = some (.cells ([.slice a l.length cap]:List Value).toArray 32 (0,0))) (hr:Rd .u8 w a l) (hlc:l.length≤cap) (hin:InB l) (hm:m≤l.length) (hA:Xag w A V) (him:i+m≤V.bs.length)
 (hfo:∀ z,Xgh A z→z≠bb) (hAb:∀ b,b=A.ab∨b=A.db∨b=A.mc∨A.mb=some b→b≠bb) (S:Nat→Prop) (hS:∀ z,z=bb∨Xgh A z→S z) (hout:0<l.length→XaX S a) :
 Xan Tryz.prog 195 #[.int .i64 i,.int .i64 m,.pointer (some ⟨vb,0,none⟩),.pointer (some ⟨bb,0,none⟩)] w (fun _ w'=>Xag w' A {V.charge A m with bs:=wrB V.bs i (l.take m)}∧Chg (fun z=>z=bb∨Xgh A z) w w' ∧
  ∃ a' cap',w'.heap[bb]? = some (.cells ([.slice a' (l.drop m).length cap']:List Value).toArray 32 (0,0))∧Rd .u8 w' a' (l.drop m)∧(l.drop m).length≤cap'∧(0<(l.drop m).length→XaX S a')):=by
 have j:(l.take m).length=m:=by simp; omega
 refine Xan.enter Tryz.func195 rfl Tryz.ntmps195 rfl rfl ?_;refine ζa rfl ?_;refine Xay.drawn (q:=8) XaW hTT Xj9 (by kernel_rfl) rfl ?_;intro d;refine Xaq.loadb hTT d rfl hvb (by first | exact fun h=>h | (intro h; omega) | assumption) rfl rfl ?_;refine Xaq.loadb hTT d rfl hv (by first | exact fun h=>h | (intro h; omega) | assumption) rfl rfl ?_;refine Xaq.loadb hTT d rfl hbb (by first | exact fun h=>h | (intro h; omega) | assumption) rfl rfl ?_;refine Xaq.slice hTT d rfl (l:=0) (h:=m) (by first | rfl | omega | simp [loV]) (by first | rfl | omega | simp [hiV]) (by omega) (by omega) rfl ?_;refine Xaq.nil d ?_;intro D c;refine ζa rfl ?_;rw [hab];have s:=hr.chg c;have k:=s.shift (l:=0) (m:=m) (by omega) hlc;rw [List.drop_zero] at k;have t:=XcE A V i (Xqq a cap 0 1) (cap - 0) (l.take m) D (hA.grow c) k (fun x E=>hin x (List.mem_of_mem_take E)) (by rw [j]; exact him);rw [j] at t;refine ζc rfl t ?_;rintro _ H ⟨rfl,u,n⟩;refine ζa rfl ?_;have f:=n.heap (c.heap' hbb) (fun e=>hfo _ e rfl);refine Xay.loadb hTT rfl f rfl rfl ?_;refine Xay.slice hTT rfl (l:=m) (h:=l.length) (by first | rfl | omega | simp [loV]) (by first | rfl | omega | simp [hiV]) (by omega) (by omega) rfl ?_;refine Xay.store hTT rfl f rfl rfl ?_;intro y r o G;refine ζa rfl ?_;have g:(l.drop m).length=l.length - m:=by simp
 have B:Chg (fun z=>z=bb∨Xgh A z) w y:=((c.mono fun _ _ h=>h.elim).trans (n.mono fun _ _ h => .inr h)).trans (o.mono fun _ _ h => .inl h);have C:Rd .u8 y a l:=hr.far' hout (B.mono fun z _ h=>hS z h);have p:=C.shift (l:=m) (m:=l.length - m) (by omega) hlc;rw [List.take_of_length_le (by rw [g]; exact Nat.le_refl _)] at p;exact Xay.ret0 hTT rfl Tryz.func195 rfl ⟨u.chg o (fun b F e=>hAb b F e),B,_,_,by rw [g]; exact r,p,by rw [g]; omega,fun h=>Xqt (hout (by omega))⟩
theorem foot_lt {w:World} {A:Ar} {V:ArV} (h:Xag w A V):∀ z,Xgh A z→z<w.heap.size:=fun z a=>h.blt z (a.elim (fun e => .inr (.inl e)) (fun e => .inr (.inr (.inr e))))
theorem XtX (v:Vw) (q:Plc) (at':Nat) (a:Option Addr) (cap:Nat) (l:List Int) (A:Ar) (V:ArV) (w:World) (hv:XbO w v) (hq:Xa4 w q) (hmb:v.mb=A.mb) (hab:v.ab=A.ab) (hck:Xer v.c q at' l.length=0) (hfew:q.pages.length≤4096)
 (hPv:¬ Xgh A v.vb) (hPq:0<q.pages.length→XaX (Xgh A) q.pa) (hPc:0<v.c.classes.length→XaX (Xgh A) v.p.ca) (hPk:0<v.c.keep.length→XaX (Xgh A) v.p.ka) (hA:Xag w A V) (hlen:(V.bs.length:Int)=v.c.size*v.c.pages)
 (hr:Rd .u8 w a l) (hlc:l.length≤cap) (hin:InB l) (hout:0<l.length→XaX (Xgh A) a) :
 Xan Tryz.prog 128 #[vwV v,.agg (Xm6 q).toArray,.int .i64 at',.slice a l.length cap] w (fun u w'=>u = .int .i64 0∧Xag w' A (vsW q A V (Xl1 v.c q at' l.length) l (Xl1 v.c q at' l.length).length)∧Chg (Xgh A) w w'):=by
 obtain ⟨ps,g⟩:∃ ps,ps=Xl1 v.c q at' l.length:=⟨_,rfl⟩;have C:∀ p ∈ ps,∃ i m:Nat,p=((i:Int),(m:Int))∧i+m≤V.bs.length:=fun p t=>by
  obtain ⟨i,m,n,D⟩:=Xl3 hv.may hck hfew p (g▸t);exact ⟨i,m,n,by omega⟩
 have T:Xtr ps=l.length:=by rw [g]; exact Xl5 hv.may
 rw [← g];refine Xan.enter Tryz.func128 rfl Tryz.ntmps128 rfl rfl ?_;refine ζa rfl ?_;refine Xay.alloc hTT rfl ?_;intro vb w1 e1 a4 a5 ar;refine ζa rfl ?_;refine Xay.alloc hTT rfl ?_;intro qb w2 e2 E P au;refine ζa rfl ?_;refine Xay.alloc hTT rfl ?_;intro bb j e3 r F av;refine ζa rfl ?_;replace E:Xm5 w2 qb q:=E;replace r:j.heap[bb]? = some (.cells ([.slice a l.length cap]:List Value).toArray 32 (0,0)):=r;have o:=(a5.trans P).trans F;have G:Xnr j vb v:=(P.trans F).heap' a4;refine Xay.loadb hTT rfl G rfl rfl ?_;refine Xay.loads hTT rfl (F.heap' E) rfl rfl ?_;refine Xay.loadb hTT rfl r rfl rfl ?_;have f:=foot_lt hA;have d:∀ z,XjD A z→Xgh A z:=fun z h => .inr h;have aw:=Xjs hv.obj;have a6:=hA.blt;have hE:=Xt1 v q at' l.length 195 [.pointer (some ⟨vb,0,none⟩),.pointer (some ⟨bb,0,none⟩)] A (vsW q A V ps l)
  (fun k Y x => ∃ a' cap',x.heap[bb]? = some (.cells ([.slice a' (l.drop (Xtr (ps.take k))).length cap']:List Value).toArray 32 (0,0))∧Rd .u8 x a' (l.drop (Xtr (ps.take k)))∧(l.drop (Xtr (ps.take k))).length≤cap' ∧
   (0<(l.drop (Xtr (ps.take k))).length→XaX (fun z=>z=bb∨Xgh A z∨j.heap.size≤z) a')∧(∀ z,Y z↔z=bb∨Xgh A z)∧Xnr x vb v∧x.heap[v.vb]? = some (.cells (vwL v).toArray 211 (0,0))∧j.heap.size≤x.heap.size)
  (fun z=>z=bb∨Xgh A z) j (hv.grow o) (hq.grow o) hmb hck hfew
  (by rintro ((h | h) | h); omega; exact hPv h; exact hPv (d _ h))
  (hq.rd.outNew hPq (fun z c=>by rcases c with (h | h) | h; exact .inr (by omega); exact .inl h; exact .inl (d _ h)))
  (hv.conf.classes.outNew hPc (fun z c=>by rcases c with (h | h) | h; exact .inr (by omega); exact .inl h; exact .inl (d _ h)))
  (hv.conf.keep.outNew hPk (fun z c=>by rcases c with (h | h) | h; exact .inr (by omega); exact .inl h; exact .inl (d _ h)))
  (by
   rintro k Y x ⟨a',cap',n,D,M,H,B,I,J,N⟩ z c;rcases (B z).1 c with rfl | h
   ·exact Xjs n
   ·have:=f z h; omega)
  (by
   rintro k Y x y S ⟨a',cap',n,D,M,H,B,I,J,N⟩ K hS;have no:∀ z,z<j.heap.size → ¬ XjD A z → ¬ S z:=fun z c hm h=>(hS z h).elim hm (fun h=>by omega);refine ⟨a',cap',K.heap n (no _ (by omega) (fun h=>by have:=f _ (d _ h); omega)),D.far' (fun hl b off s e U=>H hl b off s e ((hS b U).elim (fun h => .inr (.inl (d _ h))) (fun h => .inr (.inr h.2)))) K,M,H,B,K.heap I (no _ (by omega) (fun h=>by have:=f _ (d _ h); omega)),K.heap J (no _ (by omega) (fun h=>hPv (d _ h))),Nat.le_trans N K.size⟩)
  (by
   rintro k Y x L a9 ⟨a',cap',n,D,M,H,B,I,J,N⟩;rw [← g] at L;obtain ⟨i,m,t,aa⟩:=C ps[k] (List.getElem_mem L);have Q:(Xew q A (vsW q A V ps l k)).bs=(vsW q A V ps l k).bs:=Xex _ _ _;have W:(vsW q A V ps l k).bs.length=V.bs.length:=Xuc C T (by omega);have R:=Xtv L;rw [t] at R;simp only [Int.toNat_natCast] at R;have ax:(l.drop (Xtr (ps.take k))).length=l.length - Xtr (ps.take k):=by simp
   have hR:=XtY v vb bb A (Xew q A (vsW q A V ps l k)) i m a' cap' (l.drop (Xtr (ps.take k))) x I J hab n D M (fun y hy=>hin y (List.mem_of_mem_drop hy)) (by omega) a9 (by rw [Q,W]; exact aa)
    (fun z c=>by have:=f z c; omega) (fun b U=>by have:=a6 b U; omega) (fun z=>z=bb∨Xgh A z∨j.heap.size≤z) (fun z h=>h.imp id .inl) H
   simp only [← g];rw [t];refine hR.mono fun _ y ⟨a1,O,a3,c3,b1,b2,b3,b4⟩ => ?_;rw [Q] at a1;have a0:Xtr (ps.take (k+1))=Xtr (ps.take k)+m:=by
    rw [List.take_add_one,List.getElem?_eq_getElem L,t,Xts]; simp [Xtr]
   have ag:(l.drop (Xtr (ps.take k))).drop m=l.drop (Xtr (ps.take (k+1))):=by rw [List.drop_drop,a0]
   rw [ag] at b1 b2 b3 b4;refine ⟨by rw [Xud L t]; exact a1,O.mono fun z _ c=>(B z).2 c,fun z=>z=bb∨Xgh A z,⟨a3,c3,b1,b2,b3,b4,fun z=>Iff.rfl,?_,?_,Nat.le_trans N O.size⟩,fun z c => .inl ((B z).2 c)⟩
   ·exact O.heap I (fun h=>by rcases h with h | h; omega; have:=f _ h; omega)
   ·exact O.heap J (fun h=>by rcases h with h | h; omega; exact hPv h))
  (hA.grow o) ⟨a,cap,by simpa [Xtr] using r,by simpa [Xtr] using hr.chg o,by simpa [Xtr] using hlc,fun h=>by
   have:=hr.outNew hout (S':=fun z=>z=bb∨Xgh A z∨j.heap.size≤z) (fun z c=>by rcases c with h | h | h; exact .inr (by omega); exact .inl h; exact .inr (by have:=o.size; omega));exact this (by simpa [Xtr] using h),fun z=>Iff.rfl,G,o.heap' hv.obj,Nat.le_refl _⟩
 rw [← g] at hE;refine ζc rfl (hE) ?_;rintro _ w4 ⟨rfl,ah,_,ai⟩;refine ζa rfl ?_;have aj:Chg (Xgh A) w w4:=(o.mono fun _ _ h=>h.elim).since ai (fun z c h=>by rcases h with (h | h) | h; omega; exact h; exact d _ h);exact Xay.ret1 hTT rfl Tryz.func128 rfl rfl ⟨rfl,ah,aj⟩

structure RA where
 a:Option Addr
 cap:Nat
 bs:List Int
 steps:Int
structure Xa8 (w:World) (r:RA):Prop where
 rd:Rd .u8 w r.a r.bs
 len:r.bs.length≤4194304
 lc:r.bs.length≤r.cap
 rng:InB r.bs
theorem Xa8.grow {w w':World} {r:RA} (h:Xa8 w r) (hc:Chg XaW w w'):Xa8 w' r:=⟨h.rd.chg hc,h.len,h.lc,h.rng⟩
theorem RdU.of {w:World} {b:Nat} {c:Array Value} {t:TypeId} {fz:Nat × Nat} {zs:List Int} (h:w.heap[b]? = some (.cells c t fz)) (hc:c=(zs.map (Value.int .u8)).toArray):Rd .u8 w (some ⟨b,0,none⟩) zs:=fun i a =>
 ⟨b,0,rfl,by rw [Xd7 h,hc]; simp [a]⟩



def Xug (c:Conf) (q:Plc) (i:Nat):Int:=if q.cls = -1 then q.pages.getD (i / c.size.toNat) 0*c.size+((i % c.size.toNat:Nat):Int) else XtM c q+i

def Xeh (c:Conf) (q:Plc) (at' n:Nat):Int:=n+(if q.cls = -1 then ((Xrj at' n c.size.toNat).length:Int) else 0)
theorem Xui {c:Conf} {q:Plc} {i:Nat} (hm:XjN c=true) (hin:XtQ c q=true) (hi:(i:Int)<XtN c q):0≤Xug c q i∧Xug c q i<c.size*c.pages:=by
 obtain ⟨t,u,v⟩:=XjP hm;unfold Xug;by_cases a:q.cls = -1
 ·rw [if_pos a];obtain ⟨n,b⟩:=Xh3 hin a;have e:XtN c q=(q.pages.length:Int)*c.size:=by unfold XtN; rw [if_pos hin,if_pos a]
  rw [e] at hi;obtain ⟨sz,h⟩:=Int.eq_ofNat_of_zero_le (show 0≤c.size by omega);have f:c.size.toNat=sz:=by omega
  rw [f];have d:i / sz<q.pages.length:=by
   apply Nat.div_lt_of_lt_mul
   have:((sz*q.pages.length:Nat):Int)=(q.pages.length:Int)*c.size:=by rw [h,Int.mul_comm]; rfl
   omega
  have g:=Nat.mod_lt i (show 0<sz by omega);obtain ⟨D,o⟩:∃ D,D=i / sz:=⟨_,rfl⟩;obtain ⟨M,p⟩:∃ M,M=i % sz:=⟨_,rfl⟩;rw [← o] at d ⊢;rw [← p] at g ⊢;have j:0≤q.pages.getD D 0∧q.pages.getD D 0<c.pages:=b _ (by rw [List.getD_eq_getElem?_getD,List.getElem?_eq_getElem d]; exact List.getElem_mem d);have w:0≤q.pages.getD D 0*c.size:=Int.mul_nonneg j.1 (by omega);have e2:q.pages.getD D 0*c.size+c.size≤c.size*c.pages:=by
   have:(q.pages.getD D 0+1)*c.size≤c.pages*c.size:=Int.mul_le_mul_of_nonneg_right (by omega) (by omega);rw [Int.add_mul,Int.one_mul,Int.mul_comm c.pages] at this;exact this
  omega
 ·rw [if_neg a];obtain ⟨k,pg,ix,l,b,m,r,x,y,z,A,B,C,E⟩:=Xh4 hm hin a;have s:XtM c q=(pg:Int)*c.size+(ix:Int)*XeW c k:=by unfold XtM; rw [if_pos ⟨hin,a⟩,l,b,m]
  have e:XtN c q=XeW c k:=by unfold XtN; rw [if_pos hin,if_neg a,l]
  omega
def Xto (c:Conf) (q:Plc) (bs:List Int) (at' n:Nat):List Int:=(List.range n).map fun i=>bs.getD (Xug c q (at'+i)).toNat 0
theorem Xev {c:Conf} {q:Plc} {at' n:Int} (h:Xer c q at' n=0):XtQ c q=true∧0≤at'∧0≤n∧at'+n≤XtN c q:=by
 have a:XtQ c q=true:=by
  cases a:XtQ c q with
  |true=>rfl
  |false=>unfold Xer at h; rw [if_pos a] at h; cases h
 have b:¬ (at'<0∨n<0∨XtN c q<n∨XtN c q - n<at'):=fun d=>by
  unfold Xer at h; rw [if_neg (by rw [a]; decide),if_pos d] at h; cases h
 exact ⟨a,by omega,by omega,by omega⟩

def Xir (c:Conf) (q:Plc) (bs:List Int) (at':Nat) (l:List Int):Nat→List Int
 |0=>bs
 |k+1=>(Xir c q bs at' l k).set (Xug c q (at'+k)).toNat (l.getD k 0)
theorem Xit (c:Conf) (q:Plc) (bs:List Int) (at':Nat) (l:List Int):∀ k,(Xir c q bs at' l k).length=bs.length
 |0=>rfl
 |k+1=>by show (List.set _ _ _).length=_; rw [List.length_set,Xit c q bs at' l k]

theorem XaY.rd {base:Nat} {w:World} {v:Value} {l:List Int} (h:XaY base w v l):∃ g cap cur,v = .slice (some ⟨g,0,none⟩) l.length cap∧base≤g∧w.heap[g]? = some (.cells cur 5 (0,0))∧l.length≤cap∧cur.toList.take l.length=l.map (Value.int .u8)∧Rd .u8 w (some ⟨g,0,none⟩) l:=by
 obtain ⟨g,cap,cur,c,d,a,e,b⟩:=h;exact ⟨g,cap,cur,c,d,a,e,b,Rd.of_take a b⟩
theorem Rd.at {k:IntKind} {w:World} {a:Option Addr} {l:List Int} (h:Rd k w a l) (hl:0<l.length):∃ b off,a=some ⟨b,off,none⟩ ∧ ∀ j,j<l.length→w.cell? ⟨b,off+j,none⟩=some (.int k (l.getD j 0)):=by
 obtain ⟨b,off,e,_⟩:=h 0 hl;refine ⟨b,off,e,fun j c => ?_⟩;obtain ⟨b',off',e',d⟩:=h j c;rw [e] at e'; cases e'; exact d
structure Mv where
 mv:Nat
 f:Nat
 t:Nat
 size:Nat
def Xkm (A:Ar) (M:Mv) (gone:Nat):List Value := [.func (.func 259) #[.pointer (some ⟨A.ab,0,none⟩)] #[],.int .i64 M.f,.int .i64 M.t,.int .i64 M.size,.int .i64 gone]
structure XaT (w:World) (A:Ar) (V:ArV) (M:Mv) (gone:Nat):Prop where
 ar:Xag w A V
 obj:w.heap[M.mv]? = some (.cells (Xkm A M gone).toArray 258 (0,0))
 pos:1≤M.size
 gone:gone≤M.size
 f:M.f+M.size≤V.bs.length
 t:M.t+M.size≤V.bs.length
theorem XaT.nfoot {w:World} {A:Ar} {V:ArV} {M:Mv} {g:Nat} (h:XaT w A V M g):¬ Xgh A M.mv:=by
 rintro (e | e)
 ·exact XdF h.obj h.ar.dat (by decide) e
 ·exact XdF h.obj (h.ar.met _ e).1 (by decide) rfl
theorem XaT.grow {w w':World} {A:Ar} {V:ArV} {M:Mv} {g:Nat} (h:XaT w A V M g) (hc:Chg XaW w w'):XaT w' A V M g:=⟨h.ar.grow hc,hc.heap' h.obj,h.pos,h.gone,h.f,h.t⟩
def XjC (A:Ar) (M:Mv):Nat→Prop:=fun b=>b=A.ab∨b=A.db∨b=A.mc∨A.mb=some b∨b=M.mv
theorem XaT.lt {w:World} {A:Ar} {V:ArV} {M:Mv} {g:Nat} (h:XaT w A V M g):∀ x,XjC A M x→x<w.heap.size:=fun x hx=>by
 rcases hx with rfl | rfl | rfl | hx | rfl
 ·exact Xjs h.ar.obj
 ·exact Xjs h.ar.dat
 ·exact Xjs h.ar.cap
 ·exact Xjs (h.ar.met _ hx).1
 ·exact Xjs h.obj
theorem XaT.far {w w':World} {A:Ar} {V:ArV} {M:Mv} {g:Nat} {S:Nat→Prop} (h:XaT w A V M g) (hc:Chg S w w') (hs:∀ x,XjC A M x → ¬ S x):XaT w' A V M g :=
 ⟨h.ar.chg hc (fun b a=>hs b (by rcases a with h | h | h | h; exact .inl h; exact .inr (.inl h); exact .inr (.inr (.inl h)); exact .inr (.inr (.inr (.inl h))))),hc.heap h.obj (hs _ (.inr (.inr (.inr (.inr rfl))))),h.pos,h.gone,h.f,h.t⟩
theorem XaT.laid {w w':World} {A:Ar} {V V':ArV} {M:Mv} {g:Nat} (h:XaT w A V M g) (hA:Xag w' A V') (hc:Chg (Xgh A) w w') (hl:V'.bs.length=V.bs.length):XaT w' A V' M g :=
 ⟨hA,hc.heap h.obj h.nfoot,h.pos,h.gone,by rw [hl]; exact h.f,by rw [hl]; exact h.t⟩
def cpB (bs:List Int) (t f n:Nat):List Int:=wrB bs t (sub bs f n)
theorem Xfg {bs:List Int} {t f n:Nat} (h:f+n≤bs.length) (h':t+n≤bs.length):(cpB bs t f n).length=bs.length:=Xuz (by rw [Xsy h]; exact h')
def mFt (A:Ar) (M:Mv):Nat→Prop:=fun b=>Xgh A b∨b=M.mv
theorem Xke (A:Ar) (V:ArV) (M:Mv) (g:Nat) (w:World) (h:XaT w A V M g):Xan Tryz.prog 137 #[.pointer (some ⟨M.mv,0,none⟩)] w (Grow (.int .i64 (M.size - g:Nat)) w):=by
 have b:=h.ar.len;have c:=h.gone;have d:=h.t;exact ζe Tryz.func137 Tryz.ntmps137 rfl (Xay.quiet rfl Xj9 (by kernel_rfl) (Xa6.adv hTT rfl (Xa6.loadb hTT rfl h.obj rfl rfl (Xa6.loadb hTT rfl h.obj rfl rfl (Xa6.arith hTT rfl (w64 (by omega)) rfl (Xa6.nil fun e a=>ζa rfl (ζr Tryz.func137 rfl ⟨XhZ (by omega),a⟩)))))))
theorem Xkj (A:Ar) (V:ArV) (M:Mv) (g i n:Nat) (w:World) (h:XaT w A V M g) (hi:i+n≤M.size) (hn:0<n):Xan Tryz.prog 252 #[.pointer (some ⟨M.mv,0,none⟩),.int .i64 i,.int .i64 n] w
 (fun _ w'=>XaT w' A {V.charge A n with bs:=cpB V.bs (M.t+i) (M.f+i) n} M g∧Chg (Xgh A) w w'):=by
 have s:=h.ar.len;have p:=h.t;have q:=h.f;have l:=h.nfoot;have e1:((M.t:Int)+i)=((M.t+i:Nat):Int):=by omega
 have e2:((M.f:Int)+i)=((M.f+i:Nat):Int):=by omega
 refine ζe Tryz.func252 Tryz.ntmps252 rfl (ζy rfl (ζd 18 (Xgh A) (by kernel_rfl) rfl fun a=>δl a h.obj rfl (δl a h.obj rfl (δj a rfl (δl a h.obj rfl (δj a rfl ?_))))));rw [e1,e2];refine Xaq.turn1 a rfl ?_;intro j e;have k:=h.grow e;refine XbK.call rfl (Xcz A V (M.t+i) (M.f+i) n j k.ar (by omega) (by omega)).fn (Post:=fun v d=>v = .int .i64 0∧Xag d A {V.charge A n with bs:=cpB V.bs (M.t+i) (M.f+i) n}∧Chg (Xgh A) j d)
  (fun r=>(Xcz A V (M.t+i) (M.f+i) n j k.ar (by omega) (by omega)).mono fun v d m=>⟨r.trans m.2.2,m⟩) ?_
 rintro _ d _ ⟨rfl,o,f⟩;refine δn a rfl fun t b => ?_;have c:(cpB V.bs (M.t+i) (M.f+i) n).length=V.bs.length:=Xfg (by omega) (by omega);exact ζr Tryz.func252 rfl ⟨⟨o.grow b,b.heap' (f.heap k.obj l),h.pos,h.gone,by simp only [c]; exact q,by simp only [c]; exact p⟩,(e.mono fun _ _ h=>h.elim).trans (f.trans (b.mono fun _ _ h=>h.elim))⟩
theorem Xkk (M:Mv) (i n:Int) (w:World) (hn:n≤0):Xan Tryz.prog 252 #[.pointer (some ⟨M.mv,0,none⟩),.int .i64 i,.int .i64 n] w (fun _ w'=>w=w'):=by
 exact ζe Tryz.func252 Tryz.ntmps252 rfl (ζf rfl (ζr Tryz.func252 rfl rfl))
def XrU (n:Int) (left:Nat):Nat:=(min n left).toNat
def XrV (A:Ar) (V:ArV) (M:Mv) (g k:Nat):ArV:=if k=0 then V else {V.charge A k with bs:=cpB V.bs (M.t+g) (M.f+g) k}
theorem Xkg (A:Ar) (V:ArV) (M:Mv) (g:Nat) (n:Int) (w:World) (h:XaT w A V M g):Xan Tryz.prog 207 #[.pointer (some ⟨M.mv,0,none⟩),.int .i64 n] w
 (fun v w'=>v = .int .i64 (XrU n (M.size - g))∧XaT w' A (XrV A V M g (XrU n (M.size - g))) M (g+XrU n (M.size - g))∧Chg (mFt A M) w w'):=by
 have z:=h.ar.len;have B:=h.gone;have C:=h.t;obtain ⟨k,j⟩:∃ k,k=XrU n (M.size - g):=⟨_,rfl⟩;rw [← j];unfold XrU at j;have x:k≤M.size - g:=by omega
 have m:(if (0:Int) > (if ((M.size - g:Nat):Int)<n then ((M.size - g:Nat):Int) else n) then 0 else (if ((M.size - g:Nat):Int)<n then ((M.size - g:Nat):Int) else n))=(k:Int):=by
  subst j;split <;> split <;> omega
 refine ζe Tryz.func207 Tryz.ntmps207 rfl (ζv (Xke A V M g w h) rfl fun r c => ?_);rw [m];have l:=h.grow c;by_cases f:k=0
 ·refine ζf rfl ?_;subst f;exact ζr Tryz.func207 rfl ⟨rfl,by unfold XrV; rw [if_pos rfl]; exact l,c.mono fun _ _ h=>h.elim⟩
 ·refine ζy rfl (ζl l.obj rfl (ζc rfl (Xkj A V M g g k r l (by omega) (by omega)) ?_));rintro _ D ⟨a,o⟩;refine ζa rfl (ζl a.obj rfl (ζj rfl ?_));rw [show ((g:Int)+k)=((g+k:Nat):Int) from by omega];refine ζs a.obj rfl fun s p i y => ?_;have q:=a.ar.chg i (fun b d e=>by
   subst e;rcases d with e | e | e | e
   ·exact XdF a.obj a.ar.obj (by decide) e
   ·exact XdF a.obj a.ar.dat (by decide) e
   ·exact XdF a.obj a.ar.cap (by decide) e
   ·exact XdF a.obj (a.ar.met _ e).1 (by decide) rfl)
  have t:Chg (mFt A M) w s:=(c.mono fun _ _ h=>h.elim).trans ((o.mono fun b _ d => .inl d).trans (i.mono fun b _ d => .inr d));have u:XrV A V M g k={V.charge A k with bs:=cpB V.bs (M.t+g) (M.f+g) k}:=by unfold XrV; rw [if_neg f]
  exact ζr Tryz.func207 rfl ⟨rfl,by rw [u]; exact ⟨q,p,h.pos,by omega,a.f,a.t⟩,t⟩
def XuJ (i n g:Nat):Nat:=min (i+n) g - i
def XuK (A:Ar) (V:ArV) (M:Mv) (g i n:Nat):ArV:=if XuJ i n g=0 then V else {V.charge A (XuJ i n g) with bs:=cpB V.bs (M.t+i) (M.f+i) (XuJ i n g)}
theorem Xkh (A:Ar) (V:ArV) (M:Mv) (g i n:Nat) (w:World) (h:XaT w A V M g) (hi:i+n≤M.size):Xan Tryz.prog 197 #[.pointer (some ⟨M.mv,0,none⟩),.int .i64 i,.int .i64 n] w
 (fun v w'=>v = .int .i64 0∧XaT w' A (XuK A V M g i n) M g∧Chg (Xgh A) w w'):=by
 have j:=h.ar.len;have k:=h.gone;have l:=h.t;refine ζe Tryz.func197 Tryz.ntmps197 rfl (ζf rfl (ζf rfl (ζl h.obj rfl (ζf rfl (ζl h.obj rfl (ζj rfl (ζf rfl (ζj rfl (ζl h.obj rfl (ζJ rfl (by split <;> omega) ?_))))))))));by_cases a:XuJ i n g=0
 ·refine ζc rfl (Xkk M i _ w (by unfold XuJ at a; split <;> omega)) ?_;rintro _ d rfl;refine ζa rfl ?_;have b:XuK A V M g i n=V:=by unfold XuK; rw [if_pos a]
  exact ζr Tryz.func197 rfl ⟨rfl,by rw [b]; exact h,Chg.refl _ _⟩
 ·have e:(if (g:Int)<(i:Int)+n then (g:Int) else (i:Int)+n) - i=((XuJ i n g:Nat):Int):=by unfold XuJ at a ⊢; split <;> omega
  rw [e];refine ζc rfl (Xkj A V M g i (XuJ i n g) w h (by unfold XuJ; omega) (by omega)) ?_;rintro _ d ⟨f,c⟩;refine ζa rfl ?_;have b:XuK A V M g i n={V.charge A (XuJ i n g) with bs:=cpB V.bs (M.t+i) (M.f+i) (XuJ i n g)}:=by unfold XuK; rw [if_neg a]
  exact ζr Tryz.func197 rfl ⟨rfl,by rw [b]; exact f,c⟩
def Xkn (N:Nat) (f t size:Int):Bool:=decide (1≤size) && (decide (0≤f) && decide (size≤N) && decide (f≤N - size)) && (decide (0≤t) && decide (size≤N) && decide (t≤N - size)) && (decide (f+size≤t) || decide (t+size≤f))
theorem Xko {N:Nat} {f t size:Int}:Xkn N f t size=true↔1≤size∧(0≤f∧size≤N∧f≤N - size)∧(0≤t∧t≤N - size)∧(f+size≤t∨t+size≤f):=by
 unfold Xkn;simp only [Bool.and_eq_true,Bool.or_eq_true,decide_eq_true_eq];constructor
 ·rintro ⟨⟨⟨b,⟨c,a⟩,d⟩,⟨e,_⟩,g⟩,h⟩; exact ⟨b,⟨c,a,d⟩,⟨e,g⟩,h⟩
 ·rintro ⟨b,⟨c,a,d⟩,⟨e,g⟩,h⟩; exact ⟨⟨⟨b,⟨c,a⟩,d⟩,⟨e,a⟩,g⟩,h⟩
def inB (N:Nat) (size at':Int):Bool:=decide (0≤at') && decide (size≤N) && decide (at'≤N - size)
theorem Xki (A:Ar) (V:ArV) (x size:Int) (sb pb:Nat) (w:World) (hA:Xag w A V) (hs:w.heap[sb]? = some (.cells #[.int .i64 size] 3 (0,0))) (hp:w.heap[pb]? = some (.cells #[.pointer (some ⟨A.ab,0,none⟩)] 131 (0,0))) (hsz:1≤size) :
 Xan Tryz.prog 258 #[.int .i64 x,.pointer (some ⟨sb,0,none⟩),.pointer (some ⟨pb,0,none⟩)] w (Grow (.bool (inB V.bs.length size x)) w):=by
 have f:=hA.len;refine ζe Tryz.func258 Tryz.ntmps258 rfl (Xay.quiet rfl Xj9 (by kernel_rfl) (Xa6.adv hTT rfl ?_));refine Xa6.fork hTT rfl rfl rfl (fun c => ?_) (fun c => ?_)
 ·refine Xa6.loadb hTT rfl hs rfl rfl (Xa6.loadb hTT rfl hp rfl rfl (Xa6.call hTT rfl (fun w' b=>(XcB A V w' (hA.grow b)).grow) rfl ?_));refine Xa6.fork hTT rfl rfl rfl (fun d => ?_) (fun d => ?_)
  ·have g:=of_decide_eq_true d;exact Xa6.loadb hTT rfl hp rfl rfl (Xa6.call hTT rfl (fun w' b=>(XcB A V w' (hA.grow b)).grow) rfl (Xa6.loadb hTT rfl hs rfl rfl (Xa6.arith hTT rfl (w64 (by omega)) rfl (Xa6.nil fun e a=>ζa rfl (ζr Tryz.func258 rfl ⟨XdM (by unfold inB; rw [show decide (0≤x)=true from c,show decide (size≤(V.bs.length:Int))=true from d]; rfl),a⟩)))))
  ·exact Xa6.nil fun e a=>ζa rfl (ζr Tryz.func258 rfl ⟨XdM (by unfold inB; rw [show decide (0≤x)=true from c,show decide (size≤(V.bs.length:Int))=false from d]; rfl),a⟩)
 ·exact Xa6.nil fun e a=>ζa rfl (ζr Tryz.func258 rfl ⟨XdM (by unfold inB; rw [show decide (0≤x)=false from c]; rfl),a⟩)
theorem XhO {N:Nat} {size x:Int}:inB N size x=true↔0≤x∧size≤N∧x≤N - size:=by unfold inB; simp [and_assoc]
theorem Xkf (A:Ar) (V:ArV) (f t size:Nat) (w:World) (hA:Xag w A V) (hm:Xkn V.bs.length f t size=true):Xan Tryz.prog 206 #[.pointer (some ⟨A.ab,0,none⟩),.int .i64 f,.int .i64 t,.int .i64 size] w
 (fun v w' => ∃ M:Mv,v = .tuple #[.pointer (some ⟨M.mv,0,none⟩),.int .i64 0]∧M.f=f∧M.t=t∧M.size=size∧w.heap.size≤M.mv∧XaT w' A V M 0∧Chg XaW w w'):=by
 have z:=hA.len;have g:=Xko.1 hm;have l:inB V.bs.length size f=true:=XhO.2 (by omega);have m:inB V.bs.length size t=true:=XhO.2 (by omega);refine ζe Tryz.func206 Tryz.ntmps206 rfl (ζn rfl fun pb B e1 n h u=>ζn rfl fun sb r e2 c d x => ?_);have j:=(hA.grow h).grow d;have b:=d.heap' n;refine ζl b rfl (ζl c rfl (ζf rfl (ζv (Xki A V f size sb pb r j c b (by omega)) rfl fun s a=>ζF rfl (by rw [l]; rfl) (ζv (Xki A V t size sb pb s (j.grow a) (a.heap' c) (a.heap' b) (by omega)) rfl fun C e=>ζF rfl (by rw [m]; rfl) (ζJ rfl (by split <;> split <;> omega) ?_)))));have i:=e.heap' (a.heap' c);have k:=e.heap' (a.heap' b);refine ζl i rfl (ζF rfl (decide_eq_false (by split <;> split <;> omega)) (ζl k rfl (ζl i rfl (ζb rfl (ζn rfl fun mv D e5 o p y => ?_)))));have q:=(((h.trans d).trans a).trans e).trans p;exact ζr Tryz.func206 rfl ⟨⟨mv,f,t,size⟩,rfl,rfl,rfl,rfl,by have:=((h.trans d).trans a).trans e; have:=this.size; simp only; omega,⟨hA.grow q,o,by simp only; omega,Nat.zero_le _,by simp only; omega,by simp only; omega⟩,q⟩
theorem Xj2 (b cb:Nat) (total lap:Int) (w:World) (h:XaO w b total lap) (hc:w.heap[cb]? = some (.cells #[.pointer (some ⟨b,0,none⟩)] 127 (0,0))) :
 Xao Tryz.prog 160 #[.pointer (some ⟨cb,0,none⟩)] w (fun _ w'=>XaO w' b total total∧Chg (fun x=>x=b) w w'):=by
 obtain ⟨d,j,k,g⟩:=h;exact Xao.enter Tryz.func160 rfl Tryz.ntmps160 rfl rfl (ζa rfl (ζd 5 XaW (by kernel_rfl) rfl fun a=>δk a (Xd6 (off:=0) hc rfl) rfl (δk a (Xd6 (off:=0) hc rfl) rfl (δl a d rfl (δn a rfl fun l c=>ζs (c.heap' d) rfl fun m e f i=>ζr Tryz.func160 rfl ⟨⟨e,by omega,by omega,g⟩,(c.mono fun _ _ h=>h.elim).trans f⟩)))))
theorem Xj1 (b:Nat) (total lap:Int) (w:World) (h:XaO w b total lap):Xan Tryz.prog 101 #[.pointer (some ⟨b,0,none⟩)] w (fun v w'=>v = .int .i64 (total - lap)∧XaO w' b total total∧Chg (fun x=>x=b) w w'):=by
 have k:=h;obtain ⟨i,s,t,u⟩:=h;refine ζe Tryz.func101 Tryz.ntmps101 rfl (ζn rfl fun cb y e1 a d r=>ζl a rfl (Xay.defer rfl rfl (ζa rfl (Xay.quiet rfl Xj9 (by kernel_rfl) (Xa6.adv hTT rfl (Xa6.loadb hTT rfl a rfl rfl (Xa6.loadb hTT rfl (d.heap' i) rfl rfl (Xa6.loadb hTT rfl a rfl rfl (Xa6.loadb hTT rfl (d.heap' i) rfl rfl (Xa6.arith hTT rfl (w64 (by omega)) rfl (Xa6.nil fun l e=>ζa rfl ?_)))))))))));have g:=Xj2 b cb total lap l ((k.chg d).chg e) (e.heap' a);refine Xay.ret1D hTT rfl Tryz.func101 rfl rfl rfl (Xh1 (args := []) (captured := [.pointer (some ⟨cb,0,none⟩)]) g.fn) ⟨g.fn,?_⟩;have m:=g.calls;intro c cs n;obtain ⟨en,u',w',fr,⟨o,v,p,q,j⟩,f⟩:=m c cs n;exact ⟨en,u',w',fr,⟨o,v,p,rfl,q,((d.trans e).mono fun _ _ h=>h.elim).trans j⟩,f⟩

theorem Rd.keepU {w w':World} {a:Option Addr} {l:List Int} {q t:Nat} {c:Array Value} {fz:Nat × Nat} (hr:Rd .u8 w a l) (hq:w.heap[q]? = some (.cells c t fz)) (hc:∀ x ∈ c.toList,∀ z,x ≠ .int .u8 z) (hs:Chg (fun b=>b=q) w w'):Rd .u8 w' a l:=fun j f=>by
 obtain ⟨b,off,e,d⟩:=hr j f;refine ⟨b,off,e,hs.cell d (fun g => ?_)⟩;subst g;rw [Xd7 hq] at d;exact hc _ (Array.mem_toList_iff.2 (Array.mem_of_getElem? d)) _ rfl
def XaU (w:World) (r:RA):Prop := ∃ g,r.a=some ⟨g,0,none⟩∧w.heap.size≤g

structure Use where
 kind:Int
 at':Int
 frm:Int
 n:Int
 w:Int
 a:Option Addr
 cap:Nat
 bs:List Int
structure XbM (w:World) (u:Use):Prop where
 kind:0≤u.kind∧u.kind<256
 w64:0≤u.w∧u.w<18446744073709551616
 rd:Rd .u8 w u.a u.bs
 rng:InB u.bs
 len:u.bs.length≤9223372036854775807
theorem XbM.chg {w w':World} {u:Use} (h:XbM w u) (hc:Chg XaW w w'):XbM w' u:=⟨h.kind,h.w64,h.rd.chg hc,h.rng,h.len⟩
structure Out where
 err:Int
 bs:List Int
 n:Nat
 told:List Int
 word:Int
def Xlo (bs:List Int) (e:Int):Out:=⟨e,bs,0,[],0⟩
theorem ArV.charge_zero {V:ArV} {A:Ar}:{V.charge A 0 with bs:=V.bs}=V:=by
 unfold ArV.charge;split
 ·rfl
 ·simp [Xel]
theorem ArV.charge_zero' {V:ArV} {A:Ar}:{V.charge A ((0:Nat):Int) with bs:=V.bs}=V:=ArV.charge_zero
theorem XaY.rdS {base:Nat} {w:World} {v:Value} {l:List Int} {S:Nat→Prop} (h:XaY base w v l) (hS:∀ b,S b→b<base):∃ a cap,v = .slice a l.length cap∧RdS S .u8 w a l:=by
 obtain ⟨g,cap,cur,c,i,j,k,m,d⟩:=h.rd;exact ⟨_,cap,c,d,fun b off s e _ f=>by cases e; have:=hS _ f; omega⟩
theorem Xag.foot_lt {w:World} {A:Ar} {V:ArV} (h:Xag w A V):∀ b,Xgh A b→b<w.heap.size:=fun b hb=>by
 rcases hb with rfl | hb
 ·exact Xjs h.dat
 ·exact Xjs (h.met b hb).1
theorem RdS.nil {S:Nat→Prop} {k:IntKind} {w:World} {a:Option Addr}:RdS S k w a []:=⟨Rd.nil _ _ _,fun _ _ _ _ h=>absurd h (by simp)⟩
def XbN (A:Ar) (V:ArV) (w:World) (o:Out):Value→World→Prop:=fun v w' =>
 ∃ a cap,v = .tuple #[.slice a o.told.length cap,.int .u64 o.word,.int .i64 o.err]∧RdS (Xgh A) .u8 w' a o.told∧Xag w' A {V.charge A o.n with bs:=o.bs}∧Chg (Xgh A) w w'
theorem XbN.no {A:Ar} {V:ArV} {w:World} {e:Int} {a:Option Addr} {cap:Nat} (h:Xag w A V):XbN A V w (Xlo V.bs e) (.tuple #[.slice a 0 cap,.int .u64 0,.int .i64 e]) w :=
 ⟨a,cap,rfl,RdS.nil,by show Xag w A {V.charge A ((0:Nat):Int) with bs:=V.bs}; rw [ArV.charge_zero']; exact h,Chg.refl _ _⟩
theorem Xa8.keep {w w':World} {r:RA} {q t:Nat} {c:Array Value} {fz:Nat × Nat} (h:Xa8 w r) (hq:w.heap[q]? = some (.cells c t fz)) (hc:∀ x ∈ c.toList,∀ z,x ≠ .int .u8 z) (hs:Chg (fun b=>b=q) w w'):Xa8 w' r :=
 ⟨h.rd.keepU hq hc hs,h.len,h.lc,h.rng⟩
theorem Xa8.rdS {w:World} {r:RA} {S:Nat→Prop} (h:Xa8 w r) (hs:∀ b off s,r.a=some ⟨b,off,s⟩ → ¬ S b):RdS S .u8 w r.a r.bs:=⟨h.rd,fun b off s e _=>hs b off s e⟩
theorem Xa8.far {w w':World} {r:RA} {S:Nat→Prop} (h:Xa8 w r) (hs:∀ b off s,r.a=some ⟨b,off,s⟩ → ¬ S b) (hc:Chg S w w'):Xa8 w' r :=
 ⟨((h.rdS hs).chg hc).1,h.len,h.lc,h.rng⟩
structure Act where
 step:Bool
 at':Int
 n:Int
 a:Option Addr
 cap:Nat
 bs:List Int
structure Xac (w:World) (x:Act):Prop where
 rd:Rd .u8 w x.a x.bs
 rng:InB x.bs
 len:x.bs.length≤9223372036854775807
theorem Xac.chg {w w':World} {x:Act} (h:Xac w x) (hc:Chg XaW w w'):Xac w' x:=⟨h.rd.chg hc,h.rng,h.len⟩
structure RM where
 ra:RA
 f:Nat
 t:Nat
 size:Nat
 gone:Nat
structure XaR (w:World) (m:RM):Prop where
 ra:Xa8 w m.ra
 pos:1≤m.size
 gone:m.gone≤m.size
 f:m.f+m.size≤m.ra.bs.length
 t:m.t+m.size≤m.ra.bs.length
theorem XaR.grow {w w':World} {m:RM} (h:XaR w m) (hc:Chg XaW w w'):XaR w' m:=⟨h.ra.grow hc,h.pos,h.gone,h.f,h.t⟩
def XaS (m:RM) (w:World) (bs:List Int) (st:Int) (g:Nat) (m':RM) (w':World):Prop :=
 m'.ra.bs=bs∧m'.ra.steps=st∧m'.f=m.f∧m'.t=m.t∧m'.size=m.size∧m'.gone=g∧Xa8 w' m'.ra∧Chg XaW w w'∧(XaU w m'.ra∨m'.ra.a=m.ra.a)
theorem XaS.self {m:RM} {w w':World} (h:Xa8 w' m.ra) (hc:Chg XaW w w'):XaS m w m.ra.bs m.ra.steps m.gone m w':=⟨rfl,rfl,rfl,rfl,rfl,rfl,h,hc,.inr rfl⟩
def XrR (bs:List Int) (f t g k:Nat):List Int:=if k=0 then bs else cpB bs (t+g) (f+g) k
def XuI (bs:List Int) (f t g i n:Nat):List Int:=if XuJ i n g=0 then bs else cpB bs (t+i) (f+i) (XuJ i n g)
theorem XrS {bs:List Int} {f t g k size:Nat} (hk:g+k≤size) (hf:f+size≤bs.length) (ht:t+size≤bs.length):(XrR bs f t g k).length=bs.length:=by
 unfold XrR;split
 ·rfl
 ·exact Xfg (by omega) (by omega)
structure ThM where
 size:Int
 q:PlcM
structure MvM where
 who:Int
 pf:Int
 fa:Int
 pt:Int
 ta:Int
 f:Nat
 t:Nat
 size:Nat
 gone:Nat
structure StM where
 keep:List Int
 bs:List Int
 rm:RmM
 th:List (Option ThM)
 mv:List (Option MvM)
def PlcM.plc (q:PlcM):Plc:=⟨q.cls,q.page,q.idx,none,0,q.pages⟩
theorem XtR (c:Conf) (q:Plc):XtQ c q=XtQ c (Xm8 q).plc:=by cases q; rfl
theorem XtP (c:Conf) (q:Plc):XtN c q=XtN c (Xm8 q).plc:=by cases q; rfl
theorem Xes (c:Conf) (q:Plc) (i n:Int):Xer c q i n=Xer c (Xm8 q).plc i n:=by cases q; rfl
theorem Xuh (c:Conf) (q:Plc) (i:Nat):Xug c q i=Xug c (Xm8 q).plc i:=by cases q; rfl
theorem Xtq (c:Conf) (q:Plc) (bs:List Int) (i n:Nat):Xto c q bs i n=Xto c (Xm8 q).plc bs i n:=by cases q; rfl
theorem Xiu (c:Conf) (q:Plc) (bs:List Int) (i:Nat) (l:List Int):∀ k,Xir c q bs i l k=Xir c (Xm8 q).plc bs i l k
 |0=>rfl
 |k+1=>by unfold Xir; rw [Xiu c q bs i l k,Xuh]
theorem Xei (c:Conf) (q:Plc) (i n:Nat):Xeh c q i n=Xeh c (Xm8 q).plc i n:=by cases q; rfl
def XrE (s:StM) (k:Int):Option MvM:=if 0≤k then s.mv.getD k.toNat none else none
def XrO (s:StM) (o:Int):Option ThM:=if 0≤o then s.th.getD o.toNat none else none
def Xfy (opn keep:Int):Bool:=decide (keep<opn) && decide (keep+1<opn)
def XdD (c:Conf) (k page idx:Int):Int:=XtM c ⟨k,page,idx,none,0,[]⟩
def XeB (s:StM) (n:Int):StM:={s with rm:={s.rm with tot:=Xel s.rm.tot n}}
def XkL (c:Conf) (M:RmM) (k:Nat):MvM:=⟨XoB M k (XoO M k).1 (XoO M k).2.1,(XoO M k).1,(XoO M k).2.1,(XoO M k).2.2.1,(XoO M k).2.2.2,(XdD c k (XoO M k).1 (XoO M k).2.1).toNat,(XdD c k (XoO M k).2.2.1 (XoO M k).2.2.2).toNat,(XeW c k).toNat,0⟩
def Xda (s:StM) (k:Nat):Bool:=(XrE s k).isNone && Xfy (Xow s.rm k:Nat) (s.keep.getD k 0) && XoL s.rm k
def Xrs (c:Conf) (s:StM) (k:Nat):StM:=if Xda s k=true then {s with rm:=XoT s.rm k (XoB s.rm k (XoO s.rm k).1 (XoO s.rm k).2.1),mv:=s.mv.set k (some (XkL c s.rm k))} else s
def goN (m:MvM) (n:Int):Nat:=XrU n (m.size - m.gone)
def XrL (s:StM) (o:Int):Int:=match XrO s o with | some t=>t.size | none=>0
def XrN (s:StM) (m:MvM) (n:Int):StM:=XeB {s with bs:=XrR s.bs m.f m.t m.gone (goN m n)} (goN m n)
def XrA (s:StM) (k:Nat) (n:Int):StM:=match XrE s k with
 |none=>s
 |some m=>if m.gone+goN m n<m.size then {XrN s m n with mv:=s.mv.set k (some {m with gone:=m.gone+goN m n})}
  else {XrN s m n with mv:=s.mv.set k none,th:=s.th.set m.who.toNat (some ⟨XrL s m.who,⟨k,m.pt,m.ta,[]⟩⟩),rm:=Xor (XrN s m n).rm k m.pf m.fa}
def Xrx (s:StM) (k:Int):StM:=match XrE s k with | none=>s | some m=>XrA s k.toNat m.size
def XsV (c:Conf) (s:StM) (size:Int):Option MvM:=match XrE s (XmC c.classes size) with
 |some m=>if Xow s.rm (XmC c.classes size)=0 then some m else none
 |none=>none
def Xiv (c:Conf) (s:StM) (who size:Int):PlcM:=match XsV c s size with
 |some m=>⟨XmC c.classes size,m.pt,m.ta,[]⟩
 |none=>XoI c s.rm who size
def Xiw (c:Conf) (s:StM) (who size:Int):StM:=match XsV c s size with
 |some m=>XeB {s with mv:=s.mv.set (XmC c.classes size).toNat none,rm:=Xoy s.rm (XmC c.classes size) m.pt m.ta who} 3
 |none=>{s with rm:=XoG c s.rm who size}
def XrF (c:Conf) (s:StM) (q:PlcM) (at':Nat) (l:List Int):StM:=XeB {s with bs:=Xir c q.plc s.bs at' l l.length} (Xeh c q.plc at' l.length)
def XrD (c:Conf) (s:StM) (who size:Int):StM :=
 {XrF c (Xiw c s who size) (Xiv c s who size) 0 (Xu1 (XtN c (Xiv c s who size).plc).toNat) with th:=s.th.set who.toNat (some ⟨size,Xiv c s who size⟩)}
def Xrw (c:Conf) (s:StM) (q:PlcM):StM :=
 if q.cls<0 then {s with rm:=Xoe s.rm q} else
  XrA (Xrs c {s with rm:=Xoe s.rm q} q.cls.toNat) q.cls.toNat c.step
def Xlz (s:StM) (o:Int):Int:=if o<0∨(s.th.length:Int)≤o then 1 else match XrO s o with | none=>9 | some _=>0
def Xry (c:Conf) (s:StM) (size:Int):Int:=if size<1∨c.most<size then 3 else if (XrE s (XmC c.classes size)).isSome then 0 else Xoi c s.rm size
def Xrr (c:Conf) (s:StM) (o size:Int):Int:=if Xlz s o=1 then 1 else if Xlz s o=0 then 10 else Xry c s size
def Xrq (c:Conf) (s:StM) (o size:Int):StM:=if Xrr c s o size=0 then XrD c s o size else s
def stQ (s:StM) (o:Int):PlcM:=match XrO s o with | some t=>t.q | none=>⟨0,0,0,[]⟩
def Xrz (c:Conf) (s:StM) (o:Int):StM:=if Xlz s o≠0 then s else
 Xrw c {Xrx s (stQ s o).cls with th:=(Xrx s (stQ s o).cls).th.set o.toNat none} (stQ (Xrx s (stQ s o).cls) o)
def XrQ (s:StM) (o:Int) (at' n:Nat):StM:=match XrE s (stQ s o).cls with
 |some m=>if m.who=o then XeB {s with bs:=XuI s.bs m.f m.t m.gone at' n} (XuJ at' n m.gone) else s
 |none=>s
def Xun (s:StM) (o at' n:Int):Int:=if Xlz s o≠0 then Xlz s o else if at'<0∨n<0∨XrL s o<n∨XrL s o - n<at' then 8 else 0
def XrI (c:Conf) (s:StM) (o at' n:Int):List Int:=if Xun s o at' n=0 then Xto c (stQ s o).plc s.bs at'.toNat n.toNat else []
def XrH (c:Conf) (s:StM) (o at' n:Int):StM:=if Xun s o at' n=0 then XeB s (Xeh c (stQ s o).plc at'.toNat n.toNat) else s
def XrP (c:Conf) (s:StM) (o at':Int) (l:List Int):StM:=if Xun s o at' l.length=0 then XrQ (XrF c s (stQ s o) at'.toNat l) o at'.toNat l.length else s
def XrK (s:StM) (k keep:Int):Int:=if k<0∨(s.mv.length:Int)≤k∨keep<0∨1024<keep then 1 else 0
def XrJ (s:StM) (k keep:Int):StM:=if XrK s k keep=0 then {s with keep:=s.keep.set k.toNat keep} else s
def Xtb (l:List (Option ThM)):List Int:=l.filterMap fun t=>t.map (·.size)
def Xrt (s:StM):Int:=(Xtb s.th).sum
def XkU (c:Conf):StM:=⟨c.keep,Xu1 (c.size*c.pages).toNat,XkM c 0,List.replicate c.slots.toNat none,List.replicate c.classes.length none⟩
structure StM.OkP (c:Conf) (s:StM) (pd:Option (Nat × PlcM)):Prop where
 may:XjN c=true
 rm:Xbd c s.rm
 kl:s.keep.length=c.classes.length
 kr:∀ x ∈ s.keep,0≤x∧x≤1024
 bl:(s.bs.length:Int)=c.size*c.pages
 bi:InB s.bs
 tl:(s.th.length:Int)=c.slots
 ml:s.mv.length=c.classes.length
 size:∀ (o:Nat) t,s.th[o]? = some (some t)→1≤t.size∧t.size≤c.most
 small:∀ (o:Nat) t,s.th[o]? = some (some t)→XmC c.classes t.size ≠ -1→t.q.cls=XmC c.classes t.size∧t.q.pages = []∧XoB s.rm t.q.cls t.q.page t.q.idx=o
 large:∀ (o:Nat) t,s.th[o]? = some (some t)→XmC c.classes t.size = -1 → ∃ n r,(n,r) ∈ s.rm.lg∧t.q=⟨-1,(n:Nat),0,XkA r⟩∧(r.length+1:Int)=Xb7 t.size c.size
 linj:∀ (o o':Nat) t t',s.th[o]? = some (some t)→s.th[o']? = some (some t')→t.q.cls = -1→t'.q.cls = -1→t.q.page=t'.q.page→o=o'
 mv:∀ (k:Nat) m,s.mv[k]? = some (some m)→(∃ (o:Nat),∃ t,m.who=o∧s.th[o]? = some (some t)∧t.q=⟨(k:Nat),m.pf,m.fa,[]⟩)∧XoB s.rm k m.pt m.ta=m.who ∧ ¬ (m.pf=m.pt∧m.fa=m.ta)∧(m.f:Int)=XdD c k m.pf m.fa∧(m.t:Int)=XdD c k m.pt m.ta∧(m.size:Int)=XeW c k∧m.gone<m.size
 own:∀ k n a:Int,XoB s.rm k n a ≠ -1→(∃ (o:Nat),∃ t,XoB s.rm k n a=o∧s.th[o]? = some (some t)∧(t.q=⟨k,n,a,[]⟩ ∨ ∃ m,XrE s k=some m∧m.pt=n∧m.ta=a)) ∨ ∃ o,pd=some (o,⟨k,n,a,[]⟩)
 ps:∀ o q,pd=some (o,q)→q.cls ≠ -1→q.pages = []∧XoB s.rm q.cls q.page q.idx=o∧(∀ m,XrE s q.cls=some m → ¬ (m.pt=q.page∧m.ta=q.idx)) ∧ ∀ (o':Nat) t,s.th[o']? = some (some t)→t.q≠q
 pl:∀ o q,pd=some (o,q)→q.cls = -1 → ∃ n r,(n,r) ∈ s.rm.lg∧q=⟨-1,(n:Nat),0,XkA r⟩ ∧ ∀ (o':Nat) t,s.th[o']? = some (some t)→t.q.cls = -1→t.q.page≠(n:Nat)
abbrev StM.Ok (c:Conf) (s:StM):Prop:=s.OkP c none
section
variable {c:Conf} {s:StM} {pd:Option (Nat × PlcM)}
theorem Xkw {k:Int} {m:MvM} (h:XrE s k=some m):∃ j:Nat,k=j∧j<s.mv.length∧s.mv[j]? = some (some m):=by
 unfold XrE at h;split at h
 ·rename_i b
  obtain ⟨j,rfl⟩:=Int.eq_ofNat_of_zero_le b;rw [Int.toNat_natCast,List.getD_eq_getElem?_getD] at h;cases a:s.mv[j]? with
  |none=>rw [a] at h; cases h
  |some x =>
   rw [a] at h;have:x=some m:=h;subst this;exact ⟨j,rfl,(List.getElem?_eq_some_iff.1 a).1,a⟩
 ·cases h
theorem Xku {j:Nat} {m:MvM} (h:s.mv[j]? = some (some m)):XrE s (j:Nat)=some m:=by
 unfold XrE;rw [if_pos (by omega),Int.toNat_natCast,List.getD_eq_getElem?_getD,h]; rfl
theorem Xte {o:Int} {t:ThM} (h:XrO s o=some t):∃ j:Nat,o=j∧j<s.th.length∧s.th[j]? = some (some t):=by
 unfold XrO at h;split at h
 ·rename_i b
  obtain ⟨j,rfl⟩:=Int.eq_ofNat_of_zero_le b;rw [Int.toNat_natCast,List.getD_eq_getElem?_getD] at h;cases a:s.th[j]? with
  |none=>rw [a] at h; cases h
  |some x =>
   rw [a] at h;have:x=some t:=h;subst this;exact ⟨j,rfl,(List.getElem?_eq_some_iff.1 a).1,a⟩
 ·cases h
theorem Xtd {j:Nat} {t:ThM} (h:s.th[j]? = some (some t)):XrO s (j:Nat)=some t:=by
 unfold XrO;rw [if_pos (by omega),Int.toNat_natCast,List.getD_eq_getElem?_getD,h]; rfl
theorem XpH {α:Type} {l:List (Option α)} {k j:Nat} {v:Option α} {x:α} (h:(l.set k v)[j]? = some (some x)):(j=k∧v=some x∧k<l.length)∨(j≠k∧l[j]? = some (some x)):=by
 by_cases e:k=j
 ·subst e;by_cases a:k<l.length
  ·rw [List.getElem?_set_self a] at h;exact .inl ⟨rfl,Option.some.inj h,a⟩
  ·rw [List.getElem?_eq_none (by rw [List.length_set]; omega)] at h; cases h
 ·rw [List.getElem?_set_ne e] at h; exact .inr ⟨fun h=>e h.symm,h⟩
theorem Xkv {k:Nat} {v:Option MvM} {j:Int} {m:MvM} {s':StM} (hs:s'.mv=s.mv.set k v) (h:XrE s' j=some m):(j=k∧v=some m)∨(j≠k∧XrE s j=some m):=by
 obtain ⟨i,rfl,_,a⟩:=Xkw h;rw [hs] at a;rcases XpH a with ⟨rfl,e,_⟩ | ⟨b,a⟩
 ·exact .inl ⟨rfl,e⟩
 ·exact .inr ⟨by omega,Xku a⟩
theorem Xkr {k:Nat} {v:Option MvM} {j:Int} {m:MvM} {s':StM} (hs:s'.mv=s.mv.set k v) (hj:j≠k) (h:XrE s j=some m):XrE s' j=some m:=by
 obtain ⟨i,rfl,_,a⟩:=Xkw h;refine Xku ?_;rw [hs,List.getElem?_set_ne (by omega)]; exact a
theorem XdE (h:XjN c=true) {k n a:Int} (hk:0≤k∧k<c.classes.length) (hn:0≤n∧n<c.pages) (ha:0≤a∧a<XdI c k):XtQ c ⟨k,n,a,none,0,[]⟩=true:=by
 unfold XtQ;rw [if_neg (by simp only; omega)];simp only [Bool.and_eq_true,XhP];exact ⟨⟨hk,hn⟩,ha⟩
theorem XlF (h:s.OkP c pd) {k n a:Int} (ho:XoB s.rm k n a ≠ -1):XtQ c ⟨k,n,a,none,0,[]⟩=true∧0≤k∧k<c.classes.length:=by
 obtain ⟨j,x,rfl,g,_,_,b,d,e,f⟩:=XoD h.rm ho;exact ⟨XdE h.may (by omega) ⟨b,d⟩ ⟨e,f⟩,by omega,by omega⟩
theorem XdH (h:XjN c=true) {k n a:Int} (hv:XtQ c ⟨k,n,a,none,0,[]⟩=true) (hk:k ≠ -1):0≤XdD c k n a∧XdD c k n a+XeW c k≤c.size*c.pages∧8≤XeW c k∧XeW c k≤c.size:=by
 obtain ⟨j,pg,ix,e1,e2,e3,b,d,e,f,g,i,l,m⟩:=Xh4 h hv hk;unfold XdD XtM;rw [if_pos ⟨hv,hk⟩];simp only at e1 e2 e3
 subst e1;subst e2;subst e3;simp only
 omega
theorem StM.OkP.bytes (h:s.OkP c pd) {bs:List Int} (hl:bs.length=s.bs.length) (hb:InB bs) (n:Int):(XeB {s with bs:=bs} n).OkP c pd :=
 ⟨h.may,h.rm.charge n,h.kl,h.kr,by show (bs.length:Int)=_; rw [hl]; exact h.bl,hb,h.tl,h.ml,h.size,h.small,h.large,h.linj,h.mv,h.own,h.ps,h.pl⟩
theorem StM.OkP.tot (h:s.OkP c pd) (n:Int):(XeB s n).OkP c pd:=h.bytes (bs:=s.bs) rfl h.bi n
theorem XeY (h:s.OkP c pd) {o:Nat} {t:ThM} (ht:s.th[o]? = some (some t)) (hc:t.q.cls ≠ -1):XmC c.classes t.size ≠ -1:=fun e=>by
 obtain ⟨n,r,_,e2,_⟩:=h.large o t ht e;rw [e2] at hc;exact hc rfl
theorem XoY (M:RmM) (k who:Int):(XoT M k who).lg=M.lg:=by unfold XoT; split; rfl; split <;> rfl
theorem Xot (M:RmM) (k n i:Int):(Xor M k n i).lg=M.lg:=by unfold Xor; split; rfl; split <;> rfl
theorem XoA (M:RmM) (k n i who:Int):(Xoy M k n i who).lg=M.lg:=by unfold Xoy; split <;> rfl
structure Xah (c:Conf) (s:StM) (k:Nat):Prop where
 plan:Xa3 s.rm k
 kl:k<c.classes.length
 nomv:XrE s (k:Nat)=none
 who:∃ (o:Nat),∃ t,XoB s.rm k (XoO s.rm k).1 (XoO s.rm k).2.1=o∧s.th[o]? = some (some t)∧t.q=⟨(k:Nat),(XoO s.rm k).1,(XoO s.rm k).2.1,[]⟩
 f:XtQ c ⟨(k:Nat),(XoO s.rm k).1,(XoO s.rm k).2.1,none,0,[]⟩=true
 t:XtQ c ⟨(k:Nat),(XoO s.rm k).2.2.1,(XoO s.rm k).2.2.2,none,0,[]⟩=true
theorem Xc8 (h:s.Ok c) {k:Nat} (hB:Xda s k=true):Xah c s k:=by
 unfold Xda at hB;simp only [Bool.and_eq_true] at hB;obtain ⟨⟨r,A⟩,u⟩:=hB;have P:=Xm4 h.rm u;have l:XrE s (k:Nat)=Option.none:=by simpa using r
 obtain ⟨f1,f2,B⟩:=XlF h P.own;have d:∃ (o:Nat),∃ t,XoB s.rm k (XoO s.rm k).1 (XoO s.rm k).2.1=o∧s.th[o]? = some (some t)∧t.q=⟨(k:Nat),(XoO s.rm k).1,(XoO s.rm k).2.1,[]⟩:=by
  rcases h.own _ _ _ P.own with ⟨o,t,f,i,b | ⟨m,b,_⟩⟩ | ⟨o,g⟩
  ·exact ⟨o,t,f,i,b⟩
  ·rw [l] at b; cases b
  ·cases g
 obtain ⟨o,t,f,i,b⟩:=d;refine ⟨P,by omega,l,⟨o,t,f,i,b⟩,f1,?_⟩;obtain ⟨p,C⟩:=XsT h.rm (P.e (o:Int) (by omega));rw [P.n _ (by omega),P.a _ (by omega)] at p;have q:=p k (XoO s.rm k).2.2.1 (XoO s.rm k).2.2.2;rw [if_pos ⟨rfl,rfl,rfl⟩] at q;obtain ⟨j,x,e,D,_,_,v,w,y,z⟩:=XoD (h.rm.take k (o:Int)) (k:=k) (n:=(XoO s.rm k).2.2.1) (a:=(XoO s.rm k).2.2.2) (by rw [q]; omega);exact XdE h.may (by omega) ⟨v,w⟩ ⟨y,z⟩
theorem StM.OkP.begin (h:s.Ok c) (k:Nat):(Xrs c s k).Ok c:=by
 unfold Xrs;by_cases v:Xda s k=true
 ·rw [if_pos v];obtain ⟨P,F,G,⟨o,t,w,A,H⟩,I,J⟩:=Xc8 h v;rw [w];obtain ⟨i,B⟩:=XsT h.rm (P.e (o:Int) (by omega));rw [P.n _ (by omega),P.a _ (by omega)] at i B;obtain ⟨pf,fa,pt,ta⟩:True∧True∧True∧True:=⟨trivial,trivial,trivial,trivial⟩;have C:∀ (s':StM),s'.mv=s.mv.set k (some (XkL c s.rm k)) → ∀ j m,XrE s j=some m→XrE s' j=some m:=fun s' K j m b=>Xkr K (fun e=>by rw [e,G] at b; cases b) b;have keep:∀ {j n a:Int},XoB s.rm j n a ≠ -1→XoB (XoT s.rm k o) j n a=XoB s.rm j n a:=fun u=>by
   rw [i,if_neg];rintro ⟨rfl,rfl,rfl⟩;exact u B
  refine ⟨h.may,h.rm.take _ _,h.kl,h.kr,h.bl,h.bi,h.tl,by show (s.mv.set _ _).length=_; rw [List.length_set]; exact h.ml,h.size,fun d f x y => ?_,fun d f x y => ?_,h.linj,fun j m b => ?_,fun j n a b => .inl ?_,(by rintro _ _ ⟨⟩),(by rintro _ _ ⟨⟩)⟩
  ·obtain ⟨l,p,q⟩:=h.small d f x y;exact ⟨l,p,(keep (by rw [q]; omega)).trans q⟩
  ·show ∃ n r,(n,r) ∈ (XoT s.rm k o).lg∧_
   rw [XoY];exact h.large d f x y
  ·rcases XpH b with ⟨rfl,e,_⟩ | ⟨u,b⟩
   ·have em:=Option.some.inj e;subst em;obtain ⟨L,R,S,T⟩:=XdH h.may I (by omega);obtain ⟨M,U,_,_⟩:=XdH h.may J (by omega);refine ⟨⟨o,t,w,A,H⟩,?_,fun e=>P.ne e.1,?_,?_,?_,?_⟩
    ·show XoB (XoT s.rm j o) j _ _=XoB s.rm j _ _
     rw [w,i,if_pos ⟨rfl,rfl,rfl⟩]
    ·show (((XdD c j _ _).toNat:Nat):Int)=_
     exact Int.toNat_of_nonneg L
    ·show (((XdD c j _ _).toNat:Nat):Int)=_
     exact Int.toNat_of_nonneg M
    ·show (((XeW c j).toNat:Nat):Int)=_
     exact Int.toNat_of_nonneg (by omega)
    ·show 0<(XeW c j).toNat
     omega
   ·obtain ⟨l,p,q⟩:=h.mv j m b;have N:=l;obtain ⟨d,f,O,_⟩:=l;exact ⟨N,(keep (by rw [p,O]; omega)).trans p,q⟩
  ·by_cases e:j=k∧n=(XoO s.rm k).2.2.1∧a=(XoO s.rm k).2.2.2
   ·obtain ⟨rfl,rfl,rfl⟩:=e;refine ⟨o,t,?_,A,.inr ⟨XkL c s.rm k,?_,rfl,rfl⟩⟩
    ·show XoB (XoT s.rm k o) k _ _=_
     rw [i,if_pos ⟨rfl,rfl,rfl⟩]
    ·refine Xku ?_;show (s.mv.set k _)[k]? = _
     rw [List.getElem?_set_self (by rw [h.ml]; exact F)]
   ·have e1:XoB (XoT s.rm k o) j n a=XoB s.rm j n a:=by rw [i,if_neg e]
    rw [e1] at b;show ∃ (d:Nat),∃ t,XoB (XoT s.rm k o) j n a=d∧_
    rw [e1];rcases h.own j n a b with ⟨d,f,D,E,z | ⟨m,z,Q⟩⟩ | ⟨_,g⟩
    ·exact ⟨d,f,D,E,.inl z⟩
    ·exact ⟨d,f,D,E,.inr ⟨m,C _ rfl j m z,Q⟩⟩
    ·cases g
 ·rw [if_neg v]; exact h
theorem Xks (h:s.OkP c pd) {k:Nat} {m:MvM} (hm:s.mv[k]? = some (some m)):m.f+m.size≤s.bs.length∧m.t+m.size≤s.bs.length∧0<m.size∧(m.f+m.size≤m.t∨m.t+m.size≤m.f):=by
 obtain ⟨⟨o,t,e1,e2,e3⟩,y,z,D,E,F,G⟩:=h.mv k m hm;have H:k<c.classes.length:=by have:=(List.getElem?_eq_some_iff.1 hm).1; have:=h.ml; omega
 have l:=h.small o t e2 (XeY h e2 (by rw [e3]; simp only; omega));rw [e3] at l;have d:=(XlF h (k:=(k:Nat)) (n:=m.pf) (a:=m.fa) (by rw [l.2.2]; omega)).1;have e:=(XlF h (k:=(k:Nat)) (n:=m.pt) (a:=m.ta) (by rw [y,e1]; omega)).1;have I:=XdH h.may d (by omega);have J:=XdH h.may e (by omega);have C:=h.bl;refine ⟨by omega,by omega,by omega,?_⟩;obtain ⟨A,f,g,B,q,r,K,L,M,N,O,P,Q,R⟩:=Xh4 h.may d (by simp only; omega);obtain ⟨b,i,j,f1,f2,u,S,T,U,V,W,g6,g7,g8⟩:=Xh4 h.may e (by simp only; omega);simp only at B q r f1 f2 u
 have v:A=k:=by omega
 have w:b=k:=by omega
 subst v;subst w;have x1:XdD c (b:Nat) m.pf m.fa=(f:Int)*c.size+(g:Int)*XeW c (b:Nat):=by unfold XdD XtM; rw [if_pos ⟨d,by simp only; omega⟩]; simp only; rw [q,r]
 have x2:XdD c (b:Nat) m.pt m.ta=(i:Int)*c.size+(j:Int)*XeW c (b:Nat):=by unfold XdD XtM; rw [if_pos ⟨e,by simp only; omega⟩]; simp only; rw [f2,u]
 have p:0≤c.size:=by have:=(XjP h.may).1; omega
 rcases Nat.lt_trichotomy f i with x | heq | hgt
 ·have:((f:Int)+1)*c.size≤i*c.size:=Int.mul_le_mul_of_nonneg_right (by omega) p;rw [Int.add_mul,Int.one_mul] at this;omega
 ·subst heq;rcases Nat.lt_trichotomy g j with x | heq | hgt
  ·have:((g:Int)+1)*XeW c (b:Nat)≤j*XeW c (b:Nat):=Int.mul_le_mul_of_nonneg_right (by omega) (by omega);rw [Int.add_mul,Int.one_mul] at this;omega
  ·exact absurd ⟨by omega,by omega⟩ z
  ·have:((j:Int)+1)*XeW c (b:Nat)≤g*XeW c (b:Nat):=Int.mul_le_mul_of_nonneg_right (by omega) (by omega);rw [Int.add_mul,Int.one_mul] at this;omega
 ·have:((i:Int)+1)*c.size≤f*c.size:=Int.mul_le_mul_of_nonneg_right (by omega) p;rw [Int.add_mul,Int.one_mul] at this;omega
theorem Xff {bs:List Int} {t f n:Nat} (h:InB bs):InB (cpB bs t f n):=fun x hx=>by
 rcases XuA hx with hx | hx
 ·exact h x hx
 ·unfold sub at hx;exact h x (List.mem_of_mem_drop (List.mem_of_mem_take hx))
theorem XgR (m:MvM) (n:Int):goN m n≤m.size - m.gone:=by unfold goN XrU; omega
theorem StM.OkP.step (h:s.OkP c pd) {k:Nat} {m:MvM} (hm:s.mv[k]? = some (some m)) (n:Int):(XrN s m n).OkP c pd:=by
 obtain ⟨a,b,e,_⟩:=Xks h hm;have f:=XgR m n;have d:=(h.mv k m hm).2.2.2.2.2.2;refine h.bytes ?_ ?_ _
 ·exact XrS (size:=m.size) (by omega) a b
 ·unfold XrR;split
  ·exact h.bi
  ·exact Xff h.bi
theorem StM.OkP.go (h:s.Ok c) (k:Nat) (n:Int):(XrA s k n).Ok c:=by
 unfold XrA;cases M:XrE s (k:Nat) with
 |none=>exact h
 |some m =>
  obtain ⟨j,ej,p,hm⟩:=Xkw M;obtain rfl:k=j:=by omega
  have C:=StM.OkP.step h hm n;obtain ⟨⟨o,t,e1,e2,e3⟩,N,P,a4,a5,a6,a7⟩:=h.mv k m hm;have Q:=p;simp only
  by_cases I:m.gone+goN m n<m.size
  ·rw [if_pos I];have R:∀ j m',XrE s j=some m' → ∃ J,XrE {XrN s m n with mv:=s.mv.set k (some {m with gone:=m.gone+goN m n})} j=some J∧J.pt=m'.pt∧J.ta=m'.ta:=fun j m' p=>by
    by_cases e:j=k
    ·subst e;rw [M] at p;cases p
     refine ⟨{m with gone:=m.gone+goN m n},Xku ?_,rfl,rfl⟩;show (s.mv.set k _)[k]? = _
     rw [List.getElem?_set_self Q]
    ·exact ⟨m',Xkr (s:=s) rfl e p,rfl,rfl⟩
   refine ⟨h.may,C.rm,h.kl,h.kr,C.bl,C.bi,h.tl,by show (s.mv.set _ _).length=_; rw [List.length_set]; exact h.ml,h.size,h.small,h.large,h.linj,fun j m' p => ?_,fun j n' a p => ?_,(by rintro _ _ ⟨⟩),(by rintro _ _ ⟨⟩)⟩
   ·rcases XpH p with ⟨rfl,e,_⟩ | ⟨u,p⟩
    ·have em:=Option.some.inj e;subst em;exact ⟨⟨o,t,e1,e2,e3⟩,N,P,a4,a5,a6,I⟩
    ·exact h.mv j m' p
   ·rcases h.own j n' a p with ⟨f,l,z,D,v | ⟨m',v,E,F⟩⟩ | ⟨_,g⟩
    ·exact .inl ⟨f,l,z,D,.inl v⟩
    ·obtain ⟨J,y,w,x⟩:=R j m' v;exact .inl ⟨f,l,z,D,.inr ⟨J,y,w.trans E,x.trans F⟩⟩
    ·cases g
  ·rw [if_neg I];have L:=XeY h e2 (by rw [e3]; simp only; omega);obtain ⟨O,s2,K⟩:=h.small o t e2 L;rw [e3] at O K;simp only at O K
   have S:∀ j n' a,XoB (XrN s m n).rm j n' a=XoB s.rm j n' a:=fun _ _ _=>rfl;obtain ⟨G1,T⟩:=XgO C.rm (k:=(k:Nat)) (n:=m.pf) (i:=m.fa) (by rw [S,K]; omega);have keep:∀ {j n' a:Int},¬ (j=k∧n'=m.pf∧a=m.fa)→XoB (Xor (XrN s m n).rm k m.pf m.fa) j n' a=XoB s.rm j n' a:=fun u=>by rw [T,if_neg u]; rfl
   have U:m.who.toNat=o:=by omega
   have V:=(List.getElem?_eq_some_iff.1 e2).1;have W:XrL s m.who=t.size:=by unfold XrL; rw [e1,Xtd e2]
   rw [U,W];have Xtw:∀ {f:Nat} {l:ThM},(s.th.set o (some ⟨t.size,⟨(k:Nat),m.pt,m.ta,[]⟩⟩))[f]? = some (some l)→(f=o∧l=⟨t.size,⟨(k:Nat),m.pt,m.ta,[]⟩⟩)∨(f≠o∧s.th[f]? = some (some l)):=fun h=>by
    rcases XpH h with ⟨a,b,_⟩ | hb
    ·exact .inl ⟨a,(Option.some.inj b).symm⟩
    ·exact .inr hb
   have Xtm:∀ {f:Nat} {l:ThM},f≠o→s.th[f]? = some (some l)→(s.th.set o (some ⟨t.size,⟨(k:Nat),m.pt,m.ta,[]⟩⟩))[f]? = some (some l):=fun u h=>by rw [List.getElem?_set_ne (Ne.symm u)]; exact h
   have tnew:(s.th.set o (some ⟨t.size,⟨(k:Nat),m.pt,m.ta,[]⟩⟩))[o]? = some (some ⟨t.size,⟨(k:Nat),m.pt,m.ta,[]⟩⟩):=by rw [List.getElem?_set_self V]
   refine ⟨h.may,C.rm.give _ _ _,h.kl,h.kr,C.bl,C.bi,by show ((s.th.set _ _).length:Int)=_; rw [List.length_set]; exact h.tl,by show (s.mv.set _ _).length=_; rw [List.length_set]; exact h.ml,fun f l q => ?_,fun f l q A => ?_,fun f l q A => ?_,fun f G l t2 q A c1 H hp => ?_,fun j m' p => ?_,fun j n' a p => .inl ?_,(by rintro _ _ ⟨⟩),(by rintro _ _ ⟨⟩)⟩
   ·rcases Xtw q with ⟨rfl,rfl⟩ | ⟨_,q⟩
    ·exact h.size f t e2
    ·exact h.size f l q
   ·rcases Xtw q with ⟨rfl,rfl⟩ | ⟨u,q⟩
    ·refine ⟨O,rfl,?_⟩;refine (keep ?_).trans (N.trans e1);rintro ⟨_,y,w⟩;exact P ⟨y.symm,w.symm⟩
    ·obtain ⟨y,w,x⟩:=h.small f l q A;refine ⟨y,w,(keep ?_).trans x⟩;rintro ⟨d1,d2,d3⟩;rw [d1,d2,d3,K] at x;omega
   ·show ∃ n' r,(n',r) ∈ (Xor (XrN s m n).rm k m.pf m.fa).lg∧_
    rw [Xot];rcases Xtw q with ⟨rfl,rfl⟩ | ⟨_,q⟩
    ·exact absurd A L
    ·exact h.large f l q A
   ·rcases Xtw q with ⟨rfl,rfl⟩ | ⟨_,q⟩
    ·exact absurd c1 (by simp only; omega)
    ·rcases Xtw A with ⟨rfl,rfl⟩ | ⟨_,A⟩
     ·exact absurd H (by simp only; omega)
     ·exact h.linj f G l t2 q A c1 H hp
   ·rcases XpH p with ⟨_,e,_⟩ | ⟨u,p⟩
    ·cases e
    ·obtain ⟨⟨f,l,y,w,x⟩,H,c3⟩:=h.mv j m' p;have B:f≠o:=fun e=>by
      subst e;rw [e2] at w;cases w
      rw [e3] at x;have:=congrArg PlcM.cls x;simp only at this
      omega
     refine ⟨⟨f,l,y,Xtm B w,x⟩,(keep ?_).trans H,c3⟩;rintro ⟨d,_⟩;omega
   ·replace p:XoB (Xor (XrN s m n).rm k m.pf m.fa) j n' a ≠ -1:=p;have u:¬ (j=k∧n'=m.pf∧a=m.fa):=fun e=>by rw [T,if_pos e] at p; exact p rfl
    show ∃ (f:Nat),∃ l,XoB (Xor (XrN s m n).rm k m.pf m.fa) j n' a=f∧_
    rw [keep u] at p ⊢;rcases h.own j n' a p with ⟨f,l,z,D,v | ⟨m',v,E,F⟩⟩ | ⟨_,g⟩
    ·have B:f≠o:=fun e=>by
      subst e;rw [e2] at D;cases D
      rw [e3] at v;exact u ⟨(congrArg PlcM.cls v).symm,(congrArg PlcM.page v).symm,(congrArg PlcM.idx v).symm⟩
     exact ⟨f,l,z,Xtm B D,.inl v⟩
    ·by_cases ek:j=k
     ·subst ek;rw [M] at v;cases v
      have:(f:Int)=o:=by rw [← z,← E,← F,N,e1]
      obtain rfl:f=o:=by omega
      exact ⟨f,_,z,tnew,.inl (by rw [E,F])⟩
     ·obtain ⟨i,ei,_,hi⟩:=Xkw v;subst ei;obtain ⟨⟨G,t2,y,w,x⟩,H,_⟩:=h.mv i m' hi;have a8:G=f:=by
       have:(G:Int)=f:=by rw [← y,← H,E,F]; exact z
       omega
      subst a8;have B:G≠o:=fun e=>by
       subst e;rw [e2] at w;cases w
       rw [e3] at x;have:=congrArg PlcM.cls x;simp only at this
       omega
      exact ⟨G,l,z,Xtm B D,.inr ⟨m',Xkr (s:=s) rfl ek v,E,F⟩⟩
    ·cases g
theorem StM.OkP.finish (h:s.Ok c) (k:Int):(Xrx s k).Ok c:=by
 unfold Xrx;split
 ·exact h
 ·exact StM.OkP.go h _ _
end
section
variable {c:Conf} {s:StM} {pd:Option (Nat × PlcM)}
theorem Xis {q:Plc} {bs l:List Int} {i:Nat} (hb:InB bs) (hl:InB l):∀ k,InB (Xir c q bs i l k)
 |0=>hb
 |k+1=>fun x hx=>by
  unfold Xir at hx;rcases List.mem_or_eq_of_mem_set hx with hx | rfl
  ·exact Xis hb hl k x hx
  ·rw [List.getD_eq_getElem?_getD];cases hg:l[k]? with
   |none=>exact ⟨Int.le_refl _,by decide⟩
   |some y=>exact hl y (List.mem_of_getElem? hg)
theorem Xu2 (n:Nat):InB (Xu1 n):=fun x a=>by
 unfold Xu1 at a;rw [List.mem_replicate] at a;omega
theorem StM.OkP.put (h:s.OkP c pd) (q:PlcM) (i:Nat) {l:List Int} (hl:InB l):(XrF c s q i l).OkP c pd :=
 h.bytes (Xit _ _ _ _ _ _) (Xis h.bi hl _) _
theorem XoK {M:RmM} {who size:Int} (hw:0≤who) (hf:Xoi c M size=0) (hp:XmC c.classes size ≠ -1):XoG c M who size=XoT M (XmC c.classes size) who∧XoI c M who size=⟨XmC c.classes size,XoW M (XmC c.classes size) who,XoU M (XmC c.classes size) who,[]⟩∧XoH c M who size=XoV M (XmC c.classes size) who:=by
 refine ⟨?_,?_,?_⟩
 ·unfold XoG; rw [if_neg (by omega),if_neg (by omega),if_neg hp]
 ·unfold XoI; rw [if_neg (by omega),if_neg (by omega),if_neg hp]
 ·unfold XoH; rw [if_neg (by omega),if_neg (by omega),if_neg hp]
theorem XoJ {M:RmM} {who size:Int} (hw:0≤who) (hf:Xoi c M size=0) (hp:XmC c.classes size = -1):XoG c M who size=Xod M (Xb7 size c.size).toNat∧XoI c M who size=⟨-1,(M.pl.free.getD 0 0:Nat),0,XkA (M.pl.free.take (Xb7 size c.size).toNat).tail⟩:=by
 refine ⟨?_,?_⟩
 ·unfold XoG; rw [if_neg (by omega),if_neg (by omega),if_pos hp]
 ·unfold XoI; rw [if_neg (by omega),if_neg (by omega),if_pos hp]
theorem Xf9 {size:Int} (hf:Xry c s size=0):(1≤size∧size≤c.most)∧(XsV c s size=none→Xoi c s.rm size=0):=by
 unfold Xry at hf;split at hf
 ·exact absurd hf (by decide)
 ·rename_i d
  refine ⟨by omega,fun a => ?_⟩;split at hf
  ·rename_i b
   unfold XsV at a;cases hm:XrE s (XmC c.classes size) with
   |none=>rw [hm] at b; cases b
   |some m =>
    rw [hm] at a;simp only at a
    split at a
    ·cases a
    ·rename_i e
     obtain ⟨j,ej,_⟩:=Xkw hm;unfold Xoi;rw [if_neg d,if_neg];unfold Xov;rw [if_neg (by omega)];omega
  ·exact hf
theorem Xtw {l:List (Option ThM)} {o o1:Nat} {t t1:ThM} (h:(l.set o (some t))[o1]? = some (some t1)):(o1=o∧t1=t)∨(o1≠o∧l[o1]? = some (some t1)):=by
 rcases XpH h with ⟨a,b,_⟩ | hb
 ·exact .inl ⟨a,(Option.some.inj b).symm⟩
 ·exact .inr hb
theorem Xtm {l:List (Option ThM)} {o o1:Nat} {v:Option ThM} {t1:ThM} (hne:o1≠o) (h:l[o1]? = some (some t1)):(l.set o v)[o1]? = some (some t1):=by rw [List.getElem?_set_ne (Ne.symm hne)]; exact h
theorem StM.OkP.over (h:s.OkP c pd) {o k:Nat} {size:Int} {m:MvM} (ho:s.th[o]? = some none) (hs:1≤size∧size≤c.most) (hk:XmC c.classes size=(k:Nat)) (hm:s.mv[k]? = some (some m)) (hpd:∀ o' q,pd=some (o',q)→o'=o) :
 StM.OkP c {s with mv:=s.mv.set k none,rm:=Xoy s.rm k m.pt m.ta o,th:=s.th.set o (some ⟨size,⟨(k:Nat),m.pt,m.ta,[]⟩⟩)} pd:=by
 have M:=(List.getElem?_eq_some_iff.1 ho).1;obtain ⟨⟨D,U,e1,e2,e3⟩,N,V,_⟩:=h.mv k m hm;have a8:D≠o:=fun e=>by subst e; rw [ho] at e2; cases e2
 obtain ⟨W1,E⟩:=Xlw h.rm (k:=(k:Nat)) (n:=m.pt) (i:=m.ta) (who:=(o:Nat)) (by omega) (by rw [N,e1]; omega);have keep:∀ {j n a:Int},¬ (j=k∧n=m.pt∧a=m.ta)→XoB (Xoy s.rm k m.pt m.ta o) j n a=XoB s.rm j n a:=fun v=>by rw [E,if_neg v]
 have W:=h.small D U e2 (XeY h e2 (by rw [e3]; simp only; omega));have other:∀ {l:Nat} {b:ThM},s.th[l]? = some (some b)→XoB s.rm b.q.cls b.q.page b.q.idx=l→b.q.pages = [] → ¬ (b.q.cls=k∧b.q.page=m.pt∧b.q.idx=m.ta):=fun {l b} f p z=>by
  rintro ⟨d1,F,G⟩;rw [d1,F,G,N,e1] at p;obtain rfl:D=l:=by omega
  rw [e2] at f;cases f
  rw [e3] at F G;exact V ⟨F,G⟩
 have O:∀ {j:Int} {m':MvM},XrE {s with mv:=s.mv.set k none,rm:=Xoy s.rm k m.pt m.ta o,th:=s.th.set o (some ⟨size,⟨(k:Nat),m.pt,m.ta,[]⟩⟩)} j=some m'→j≠k∧XrE s j=some m':=fun hj=>by
  rcases Xkv (s:=s) rfl hj with ⟨_,e⟩ | hj
  ·cases e
  ·exact hj
 refine ⟨h.may,h.rm.own _ _ _ _,h.kl,h.kr,h.bl,h.bi,by show ((s.th.set _ _).length:Int)=_; rw [List.length_set]; exact h.tl,by show (s.mv.set _ _).length=_; rw [List.length_set]; exact h.ml,fun l b f => ?_,fun l b f p => ?_,fun l b f p => ?_,fun l o3 b t3 f z w A hp => ?_,fun j m' hj => ?_,fun j n a hj => ?_,fun o' q H I => ?_,fun o' q H I => ?_⟩
 ·rcases Xtw f with ⟨rfl,rfl⟩ | ⟨_,f⟩
  ·exact hs
  ·exact h.size l b f
 ·rcases Xtw f with ⟨rfl,rfl⟩ | ⟨v,f⟩
  ·refine ⟨hk.symm,rfl,?_⟩;show XoB (Xoy s.rm k m.pt m.ta l) k m.pt m.ta=l
   rw [E,if_pos ⟨rfl,rfl,rfl⟩]
  ·obtain ⟨J,t,B⟩:=h.small l b f p;exact ⟨J,t,(keep (other f B t)).trans B⟩
 ·show ∃ n' r,(n',r) ∈ (Xoy s.rm k m.pt m.ta o).lg∧_
  rw [XoA];rcases Xtw f with ⟨rfl,rfl⟩ | ⟨_,f⟩
  ·rw [hk] at p; omega
  ·exact h.large l b f p
 ·rcases Xtw f with ⟨rfl,rfl⟩ | ⟨_,f⟩
  ·exact absurd w (by simp only; omega)
  ·rcases Xtw z with ⟨rfl,rfl⟩ | ⟨_,z⟩
   ·exact absurd A (by simp only; omega)
   ·exact h.linj l o3 b t3 f z w A hp
 ·rcases XpH hj with ⟨_,e,_⟩ | ⟨v,hj⟩
  ·cases e
  ·obtain ⟨⟨l,b,J,t,B⟩,c2,A⟩:=h.mv j m' hj;exact ⟨⟨l,b,J,Xtm (fun e=>by subst e; rw [ho] at t; cases t) t,B⟩,(keep (fun d=>by have:=d.1; omega)).trans c2,A⟩
 ·replace hj:XoB (Xoy s.rm k m.pt m.ta o) j n a ≠ -1:=hj;show (∃ (l:Nat),∃ b,XoB (Xoy s.rm k m.pt m.ta o) j n a=l∧_)∨_
  by_cases e:j=k∧n=m.pt∧a=m.ta
  ·obtain ⟨rfl,rfl,rfl⟩:=e;exact .inl ⟨o,_,by rw [E,if_pos ⟨rfl,rfl,rfl⟩],List.getElem?_set_self M,.inl rfl⟩
  ·rw [keep e] at hj ⊢;rcases h.own j n a hj with ⟨l,b,P,u,x | ⟨m',x,Q,R⟩⟩ | g
   ·exact .inl ⟨l,b,P,Xtm (fun e=>by subst e; rw [ho] at u; cases u) u,.inl x⟩
   ·have S:j≠k:=fun e2=>by
     subst e2;rw [Xku hm] at x;cases x
     exact e ⟨rfl,Q.symm,R.symm⟩
    exact .inl ⟨l,b,P,Xtm (fun e=>by subst e; rw [ho] at u; cases u) u,.inr ⟨m',Xkr (s:=s) rfl S x,Q,R⟩⟩
   ·exact .inr g
 ·obtain ⟨K,L,C,p4⟩:=h.ps o' q H I;have y:¬ (q.cls=k∧q.page=m.pt∧q.idx=m.ta):=fun e=>by
   refine C m ?_ ⟨e.2.1.symm,e.2.2.symm⟩;rw [e.1]; exact Xku hm
  refine ⟨K,(keep y).trans L,fun m' T=>C m' (O T).2,fun l b f => ?_⟩;rcases Xtw f with ⟨rfl,rfl⟩ | ⟨_,f⟩
  ·intro e;rw [← e] at y;exact y ⟨rfl,rfl,rfl⟩
  ·exact p4 l b f
 ·obtain ⟨n,r,K,L,C⟩:=h.pl o' q H I;refine ⟨n,r,by show (n,r) ∈ (Xoy s.rm k m.pt m.ta o).lg; rw [XoA]; exact K,L,fun l b f w => ?_⟩;rcases Xtw f with ⟨rfl,rfl⟩ | ⟨_,f⟩
  ·exact absurd w (by simp only; omega)
  ·exact C l b f w
theorem StM.OkP.block (h:s.OkP c pd) {o k:Nat} {size:Int} (ho:s.th[o]? = some none) (hs:1≤size∧size≤c.most) (hk:XmC c.classes size=(k:Nat)) (hE:XoV s.rm k o=0) :
 StM.OkP c {s with rm:=XoT s.rm k o,th:=s.th.set o (some ⟨size,⟨(k:Nat),XoW s.rm k o,XoU s.rm k o,[]⟩⟩)} pd:=by
 have F:=(List.getElem?_eq_some_iff.1 ho).1;obtain ⟨t,G⟩:=XsT h.rm hE;have keep:∀ {j n a:Int},XoB s.rm j n a ≠ -1→XoB (XoT s.rm k o) j n a=XoB s.rm j n a:=fun y=>by
  rw [t,if_neg];rintro ⟨rfl,rfl,rfl⟩;exact y G
 refine ⟨h.may,h.rm.take _ _,h.kl,h.kr,h.bl,h.bi,by show ((s.th.set _ _).length:Int)=_; rw [List.length_set]; exact h.tl,h.ml,fun d f b => ?_,fun d f b u => ?_,fun d f b u => ?_,fun d I f J b z m v K => ?_,fun j m' l => ?_,fun j n a l => ?_,fun o' q A B => ?_,fun o' q A B => ?_⟩
 ·rcases Xtw b with ⟨rfl,rfl⟩ | ⟨_,b⟩
  ·exact hs
  ·exact h.size d f b
 ·rcases Xtw b with ⟨rfl,rfl⟩ | ⟨y,b⟩
  ·refine ⟨hk.symm,rfl,?_⟩;show XoB (XoT s.rm k d) k _ _=d
   rw [t,if_pos ⟨rfl,rfl,rfl⟩]
  ·obtain ⟨w,p,x⟩:=h.small d f b u;exact ⟨w,p,(keep (by rw [x]; omega)).trans x⟩
 ·show ∃ n' r,(n',r) ∈ (XoT s.rm k o).lg∧_
  rw [XoY];rcases Xtw b with ⟨rfl,rfl⟩ | ⟨_,b⟩
  ·rw [hk] at u; omega
  ·exact h.large d f b u
 ·rcases Xtw b with ⟨rfl,rfl⟩ | ⟨_,b⟩
  ·exact absurd m (by simp only; omega)
  ·rcases Xtw z with ⟨rfl,rfl⟩ | ⟨_,z⟩
   ·exact absurd v (by simp only; omega)
   ·exact h.linj d I f J b z m v K
 ·obtain ⟨⟨d,f,w,p,x⟩,H,v⟩:=h.mv j m' l;exact ⟨⟨d,f,w,Xtm (fun e=>by subst e; rw [ho] at p; cases p) p,x⟩,(keep (by rw [H,w]; omega)).trans H,v⟩
 ·replace l:XoB (XoT s.rm k o) j n a ≠ -1:=l;show (∃ (d:Nat),∃ f,XoB (XoT s.rm k o) j n a=d∧_)∨_
  by_cases e:j=k∧n=XoW s.rm k o∧a=XoU s.rm k o
  ·obtain ⟨rfl,rfl,rfl⟩:=e;exact .inl ⟨o,_,by rw [t,if_pos ⟨rfl,rfl,rfl⟩],List.getElem?_set_self F,.inl rfl⟩
  ·have e1:XoB (XoT s.rm k o) j n a=XoB s.rm j n a:=by rw [t,if_neg e]
   rw [e1] at l ⊢;rcases h.own j n a l with ⟨d,f,L,C,M⟩ | g
   ·exact .inl ⟨d,f,L,Xtm (fun e=>by subst e; rw [ho] at C; cases C) C,M⟩
   ·exact .inr g
 ·obtain ⟨D,i,E,N⟩:=h.ps o' q A B;refine ⟨D,(keep (by rw [i]; omega)).trans i,E,fun d f b => ?_⟩;rcases Xtw b with ⟨rfl,rfl⟩ | ⟨_,b⟩
  ·intro e;rw [← e] at i;simp only at i
   rw [G] at i;omega
  ·exact N d f b
 ·obtain ⟨n,r,D,i,E⟩:=h.pl o' q A B;refine ⟨n,r,by show (n,r) ∈ (XoT s.rm k o).lg; rw [XoY]; exact D,i,fun d f b m => ?_⟩;rcases Xtw b with ⟨rfl,rfl⟩ | ⟨_,b⟩
  ·exact absurd m (by simp only; omega)
  ·exact E d f b m
theorem StM.OkP.pages (h:s.OkP c pd) {o:Nat} {size:Int} (ho:s.th[o]? = some none) (hs:1≤size∧size≤c.most) (hf:Xoi c s.rm size=0) (hp:XmC c.classes size = -1) :
 StM.OkP c {s with rm:=Xod s.rm (Xb7 size c.size).toNat,th:=s.th.set o (some ⟨size,⟨-1,(s.rm.pl.free.getD 0 0:Nat),0,XkA (s.rm.pl.free.take (Xb7 size c.size).toNat).tail⟩⟩)} pd:=by
 have V:=(List.getElem?_eq_some_iff.1 ho).1;obtain ⟨f1,f2,_,_⟩:=Xf7 h.may hf hp;obtain ⟨many,B⟩:∃ many,many=(Xb7 size c.size).toNat:=⟨_,rfl⟩;have M:Xb7 size c.size=many:=by omega
 rw [← B] at f1 f2 ⊢;obtain ⟨m,u⟩:∃ m,m=s.rm.pl.free.getD 0 0:=⟨_,rfl⟩;obtain ⟨t,v⟩:∃ t,t=(s.rm.pl.free.take many).tail:=⟨_,rfl⟩;have F:m ∈ s.rm.pl.free:=by
  rw [u,List.getD_eq_getElem?_getD,List.getElem?_eq_getElem (show 0<s.rm.pl.free.length by omega)];exact List.getElem_mem _
 have i:∀ {n:Nat} {r:List Nat},(n,r) ∈ s.rm.lg→n≠m:=fun {n r} hm e=>by
  subst e;have b:=(h.rm.ok.lg n (XjV hm (List.mem_cons_self ..))).2;have w:=(h.rm.mok.good.free _ F).2;omega
 have D:(Xod s.rm many).lg=s.rm.lg ++ [(m,t)]:=by rw [u,v]; rfl
 have N:t.length+1=many:=by rw [v,List.length_tail,List.length_take]; omega
 rw [← u,← v];refine ⟨h.may,h.rm.big (by omega) f2,h.kl,h.kr,h.bl,h.bi,by show ((s.th.set _ _).length:Int)=_; rw [List.length_set]; exact h.tl,h.ml,fun f d b => ?_,fun f d b w => ?_,fun f d b w => ?_,fun f O d P b K x L k => ?_,fun j m' y => ?_,fun j n a y => ?_,fun o' q G z => ?_,fun o' q G z => ?_⟩
 ·rcases Xtw b with ⟨rfl,rfl⟩ | ⟨_,b⟩
  ·exact hs
  ·exact h.size f d b
 ·rcases Xtw b with ⟨rfl,rfl⟩ | ⟨E,b⟩
  ·exact absurd hp w
  ·exact h.small f d b w
 ·show ∃ n' r,(n',r) ∈ (Xod s.rm many).lg∧_
  rw [D];rcases Xtw b with ⟨rfl,rfl⟩ | ⟨_,b⟩
  ·exact ⟨m,t,by simp,rfl,by show ((t.length:Int)+1)=Xb7 size c.size; omega⟩
  ·obtain ⟨n',r,l,p⟩:=h.large f d b w;exact ⟨n',r,List.mem_append_left _ l,p⟩
 ·have page:∀ {f:Nat} {d:ThM},s.th[f]? = some (some d)→d.q.cls = -1→d.q.page≠(m:Int):=fun {f d} b x=>by
   have Q:=Decidable.byContradiction fun E=>by
    have:=(h.small f d b E).1;omega
   obtain ⟨n',r,l,p,_⟩:=h.large f d b Q;have:=i l;rw [p];simp only
   omega
  rcases Xtw b with ⟨e1,e2⟩ | ⟨_,l⟩
  ·rcases Xtw K with ⟨e3,_⟩ | ⟨_,A⟩
   ·exact e1.trans e3.symm
   ·rw [e2] at k;exact absurd k.symm (page A L)
  ·rcases Xtw K with ⟨e3,e4⟩ | ⟨_,A⟩
   ·rw [e4] at k;exact absurd k (page l x)
   ·exact h.linj f O d P l A x L k
 ·obtain ⟨⟨f,d,R,H,S⟩,T⟩:=h.mv j m' y;exact ⟨⟨f,d,R,Xtm (fun e=>by subst e; rw [ho] at H; cases H) H,S⟩,T⟩
 ·replace y:XoB s.rm j n a ≠ -1:=y;rcases h.own j n a y with ⟨f,d,l,p,A⟩ | g
  ·exact .inl ⟨f,d,l,Xtm (fun e=>by subst e; rw [ho] at p; cases p) p,A⟩
  ·exact .inr g
 ·obtain ⟨C,I,J,U⟩:=h.ps o' q G z;refine ⟨C,I,J,fun f d b => ?_⟩;rcases Xtw b with ⟨rfl,rfl⟩ | ⟨_,b⟩
  ·intro e;rw [← e] at z;exact z rfl
  ·exact U f d b
 ·obtain ⟨n,r,C,I,J⟩:=h.pl o' q G z;refine ⟨n,r,by show (n,r) ∈ (Xod s.rm many).lg; rw [D]; exact List.mem_append_left _ C,I,fun f d b x => ?_⟩;rcases Xtw b with ⟨rfl,rfl⟩ | ⟨_,b⟩
  ·have:=i C;simp only
   omega
  ·exact J f d b x
theorem StM.OkP.lay (h:s.OkP c pd) {o:Nat} {size:Int} (ho:s.th[o]? = some none) (hf:Xry c s size=0) (hpd:∀ o' q,pd=some (o',q)→o'=o):(XrD c s o size).OkP c pd:=by
 obtain ⟨g,i⟩:=Xf9 hf;have base:StM.OkP c {Xiw c s o size with th:=s.th.set o (some ⟨size,Xiv c s o size⟩)} pd:=by
  cases a:XsV c s size with
  |some m =>
   have e1:Xiw c s o size=XeB {s with mv:=s.mv.set (XmC c.classes size).toNat none,rm:=Xoy s.rm (XmC c.classes size) m.pt m.ta o} 3:=by unfold Xiw; rw [a]
   have e2:Xiv c s o size=⟨XmC c.classes size,m.pt,m.ta,[]⟩:=by unfold Xiv; rw [a]
   unfold XsV at a;cases hm:XrE s (XmC c.classes size) with
   |none=>rw [hm] at a; cases a
   |some m' =>
    rw [hm] at a;simp only at a
    split at a
    ·cases a
     obtain ⟨k,d,_,p⟩:=Xkw hm;rw [e1,e2,d,Int.toNat_natCast];exact (h.over ho g d p hpd).tot 3
    ·cases a
  |none =>
   have e1:Xiw c s o size={s with rm:=XoG c s.rm o size}:=by unfold Xiw; rw [a]
   have e2:Xiv c s o size=XoI c s.rm o size:=by unfold Xiv; rw [a]
   have b:=i a;rw [e1,e2];by_cases f:XmC c.classes size = -1
   ·obtain ⟨j,l⟩:=XoJ (c:=c) (who:=(o:Nat)) (by omega) b f;rw [j,l];exact h.pages ho g b f
   ·obtain ⟨j,l,r⟩:=XoK (c:=c) (who:=(o:Nat)) (by omega) b f;have n:=Xga (who:=(o:Nat)) h.rm.ok (by omega) b;rw [r] at n;obtain ⟨t,u⟩:=XmE f;obtain ⟨k,d⟩:=Int.eq_ofNat_of_zero_le t;rw [j,l];rw [d] at n ⊢;exact h.block ho g d n
 have e:XrD c s o size=XrF c {Xiw c s o size with th:=s.th.set o (some ⟨size,Xiv c s o size⟩)} (Xiv c s o size) 0 (Xu1 (XtN c (Xiv c s o size).plc).toNat):=by
  unfold XrD XrF XeB;rw [Int.toNat_natCast]
 rw [e];exact base.put _ _ (Xu2 _)
theorem Xoh {M:RmM} {q:PlcM} (h:q.cls ≠ -1):Xoe M q=Xor M q.cls q.page q.idx:=by unfold Xoe; rw [if_pos h]
theorem Xog {M:RmM} (hok:M.Ok c) {n:Nat} {r:List Nat} (hm:(n,r) ∈ M.lg):Xoe M ⟨-1,(n:Nat),0,XkA r⟩=Xou M n r:=by
 have a:XiK M.lg ((n:Nat):Int)=some r:=by
  cases b:XiK M.lg ((n:Nat):Int) with
  |none=>exact absurd rfl (XiM b _ hm)
  |some r' =>
   obtain ⟨k,e,d⟩:=XiN b;have:k=n:=by omega
   subst this;rw [Xif hok.nd d hm]
 unfold Xoe;rw [if_neg (by simp)];simp only
 rw [a]
 simp
theorem StM.OkP.dropped {o:Nat} {q:PlcM} (h:s.OkP c (some (o,q))):StM.Ok c {s with rm:=Xoe s.rm q}:=by
 by_cases p:q.cls = -1
 ·obtain ⟨n,r,u,v,w⟩:=h.pl o q rfl p;rw [v,Xog h.rm.ok u];refine ⟨h.may,h.rm.gone u,h.kl,h.kr,h.bl,h.bi,h.tl,h.ml,h.size,h.small,fun d f l t => ?_,h.linj,h.mv,fun j n' a b => .inl ?_,(by rintro _ _ ⟨⟩),(by rintro _ _ ⟨⟩)⟩
  ·obtain ⟨n',r',H,x,I⟩:=h.large d f l t;refine ⟨n',r',?_,x,I⟩;show (n',r') ∈ XiH s.rm.lg n
   unfold XiH;refine List.mem_filter.2 ⟨H,?_⟩;have:=w d f l (by rw [x]);rw [x] at this;simp only at this
   simp only [bne_iff_ne,ne_eq];omega
  ·replace b:XoB s.rm j n' a ≠ -1:=b;rcases h.own j n' a b with g | ⟨o',g⟩
   ·exact g
   ·have e:=(Prod.mk.inj (Option.some.inj g)).2;have B:j = -1:=by rw [e] at p; exact p
    exact absurd (by rw [B]; unfold XoB; rw [Xom (by omega)]) b
 ·obtain ⟨u,v,w,J⟩:=h.ps o q rfl p;rw [Xoh p];obtain ⟨M,C⟩:=XgO h.rm (k:=q.cls) (n:=q.page) (i:=q.idx) (by rw [v]; omega);have keep:∀ {j n' a:Int},¬ (j=q.cls∧n'=q.page∧a=q.idx)→XoB (Xor s.rm q.cls q.page q.idx) j n' a=XoB s.rm j n' a:=fun m=>by rw [C,if_neg m]
  refine ⟨h.may,h.rm.give _ _ _,h.kl,h.kr,h.bl,h.bi,h.tl,h.ml,h.size,fun d f l t => ?_,fun d f l t => ?_,h.linj,fun j m' b => ?_,fun j n' a b => .inl ?_,(by rintro _ _ ⟨⟩),(by rintro _ _ ⟨⟩)⟩
  ·obtain ⟨K,D,L⟩:=h.small d f l t;refine ⟨K,D,(keep ?_).trans L⟩;rintro ⟨y,z,A⟩;refine J d f l ?_;obtain ⟨sz,E,F,G,N⟩:=f;obtain ⟨O,P,Q,R⟩:=q;simp only at *
   rw [y,z,A,D,u]
  ·show ∃ n' r,(n',r) ∈ (Xor s.rm q.cls q.page q.idx).lg∧_
   rw [Xot];exact h.large d f l t
  ·obtain ⟨E,F,G⟩:=h.mv j m' b;refine ⟨E,(keep ?_).trans F,G⟩;rintro ⟨y,z,A⟩;exact w m' (by rw [← y]; exact Xku b) ⟨z,A⟩
  ·replace b:XoB (Xor s.rm q.cls q.page q.idx) j n' a ≠ -1:=b;have m:¬ (j=q.cls∧n'=q.page∧a=q.idx):=fun e=>by rw [C,if_pos e] at b; exact b rfl
   show ∃ (d:Nat),∃ f,XoB (Xor s.rm q.cls q.page q.idx) j n' a=d∧_
   rw [keep m] at b ⊢;rcases h.own j n' a b with g | ⟨o',g⟩
   ·exact g
   ·have e:=(Prod.mk.inj (Option.some.inj g)).2;exact absurd ⟨by rw [e],by rw [e],by rw [e]⟩ m
theorem StM.OkP.clear {o:Nat} {q:PlcM} (h:s.OkP c (some (o,q))):(Xrw c s q).Ok c:=by
 unfold Xrw;split
 ·exact h.dropped
 ·exact StM.OkP.go (StM.OkP.begin h.dropped _) _ _
theorem StM.OkP.away (h:s.Ok c) {o:Nat} {t:ThM} (ht:s.th[o]? = some (some t)) (hm:∀ (k:Nat) (m:MvM),s.mv[k]? = some (some m)→m.who≠(o:Nat)):StM.OkP c {s with th:=s.th.set o none} (some (o,t.q)):=by
 have f:∀ {b:Nat} {d:ThM},(s.th.set o none)[b]? = some (some d)→b≠o∧s.th[b]? = some (some d):=fun h1=>by
  rcases XpH h1 with ⟨_,e,_⟩ | h1
  ·cases e
  ·exact h1
 have p:∀ {k:Nat} {m:MvM},s.mv[k]? = some (some m) → ∀ {b:Nat},m.who=(b:Nat)→b≠o:=fun C b e1 e=>hm _ _ C (by rw [e1,e]);refine ⟨h.may,h.rm,h.kl,h.kr,h.bl,h.bi,by show ((s.th.set _ _).length:Int)=_; rw [List.length_set]; exact h.tl,h.ml,fun b d h1=>h.size b d (f h1).2,fun b d h1=>h.small b d (f h1).2,fun b d h1=>h.large b d (f h1).2,fun b D d F h1 L=>h.linj b D d F (f h1).2 (f L).2,fun k m C => ?_,fun j n a M => ?_,fun o' q G w => ?_,fun o' q G w => ?_⟩
 ·obtain ⟨⟨b,d,v,H,x⟩,y⟩:=h.mv k m C;exact ⟨⟨b,d,v,Xtm (p C v) H,x⟩,y⟩
 ·rcases h.own j n a M with ⟨b,d,z,u,A | ⟨m,A,I,J⟩⟩ | ⟨_,g⟩
  ·by_cases e:b=o
   ·subst e;rw [ht] at u;cases u
    exact .inr ⟨b,by rw [A]⟩
   ·exact .inl ⟨b,d,z,Xtm e u,.inl A⟩
  ·obtain ⟨i,ei,_,B⟩:=Xkw A;subst ei;obtain ⟨⟨D,F,v,_⟩,y,_⟩:=h.mv i m B;have:(D:Int)=b:=by rw [← v,← y,I,J]; exact z
   have l:=p B v;exact .inl ⟨b,d,z,Xtm (by omega) u,.inr ⟨m,A,I,J⟩⟩
  ·cases g
 ·obtain ⟨e1,e2⟩:=Prod.mk.inj (Option.some.inj G);subst e1;subst e2;obtain ⟨v,H,x⟩:=h.small o t ht (XeY h ht w);refine ⟨H,x,fun m K => ?_,fun b d h1 e => ?_⟩
  ·obtain ⟨i,ei,_,B⟩:=Xkw K;rintro ⟨N,O⟩;obtain ⟨⟨D,F,E,_⟩,y,_⟩:=h.mv i m B;rw [N,O,← ei,x,E] at y;exact p B E (by omega)
  ·obtain ⟨l,h1⟩:=f h1;obtain ⟨_,_,P⟩:=h.small b d h1 (XeY h h1 (by rw [e]; exact w));rw [e,x] at P;omega
 ·obtain ⟨e1,e2⟩:=Prod.mk.inj (Option.some.inj G);subst e1;subst e2;have Q:=Decidable.byContradiction fun l=>by
   have h1:=(h.small o t ht l).1;rw [w] at h1;exact l h1.symm
  obtain ⟨n,r,z,u,_⟩:=h.large o t ht Q;refine ⟨n,r,z,u,fun b d h1 E e => ?_⟩;obtain ⟨l,h1⟩:=f h1;exact l (h.linj b o d t h1 ht E w (by rw [e,u]))
end
section
variable {c:Conf} {s:StM} {pd:Option (Nat × PlcM)}
theorem Xc9 (c:Conf) (s:StM) (k:Nat):(Xrs c s k).th=s.th∧(Xrs c s k).keep=s.keep∧(Xrs c s k).bs=s.bs∧(Xrs c s k).mv.length=s.mv.length:=by
 unfold Xrs;split
 ·exact ⟨rfl,rfl,rfl,List.length_set⟩
 ·exact ⟨rfl,rfl,rfl,rfl⟩
theorem XgT (s:StM) (k:Nat) (n:Int):(XrA s k n).keep=s.keep∧(XrA s k n).th.length=s.th.length∧(XrA s k n).mv.length=s.mv.length∧(XrA s k n).rm.lg=s.rm.lg:=by
 unfold XrA;split
 ·exact ⟨rfl,rfl,rfl,rfl⟩
 ·split
  ·exact ⟨rfl,rfl,List.length_set,rfl⟩
  ·exact ⟨rfl,List.length_set,List.length_set,Xot _ _ _ _⟩
theorem XgU (h:s.Ok c) (k:Nat) (n:Int):(∀ (o:Nat) t,s.th[o]? = some (some t) → ∃ t',(XrA s k n).th[o]? = some (some t')∧t'.size=t.size∧t'.q.cls=t.q.cls∧t'.q.pages=t.q.pages∧(t.q.cls≠(k:Nat)→t'=t))∧(∀ o:Nat,s.th[o]? = some none→(XrA s k n).th[o]? = some none) ∧ ∀ j:Int,j≠k→XrE (XrA s k n) j=XrE s j:=by
 unfold XrA;cases q:XrE s (k:Nat) with
 |none=>exact ⟨fun o t i=>⟨t,i,rfl,rfl,rfl,fun _=>rfl⟩,fun _ h=>h,fun _ _=>rfl⟩
 |some m =>
  obtain ⟨j,ej,u,hm⟩:=Xkw q;obtain rfl:k=j:=by omega
  have d:∀ {s':StM} {v:Option MvM},s'.mv=s.mv.set k v → ∀ j:Int,j≠k→XrE s' j=XrE s j:=fun {s' v} e j f=>by
   unfold XrE;split
   ·rename_i w
    rw [e,List.getD_eq_getElem?_getD,List.getD_eq_getElem?_getD,List.getElem?_set_ne (by omega)]
   ·rfl
  simp only
  split
  ·exact ⟨fun o t i=>⟨t,i,rfl,rfl,rfl,fun _=>rfl⟩,fun _ h=>h,d rfl⟩
  ·obtain ⟨⟨o,t,e1,e2,e3⟩,_⟩:=h.mv k m hm;have l:=(List.getElem?_eq_some_iff.1 e2).1;have p:XrL s m.who=t.size:=by unfold XrL; rw [e1,Xtd e2]
   have g:m.who.toNat=o:=by omega
   refine ⟨fun b r a => ?_,fun b a => ?_,d rfl⟩
   ·show ∃ t',(s.th.set m.who.toNat _)[b]? = _∧_
    rw [g,p];by_cases e:b=o
    ·subst e;rw [e2] at a;cases a
     exact ⟨_,List.getElem?_set_self l,rfl,by rw [e3],by rw [e3],fun f=>absurd (by rw [e3]) f⟩
    ·exact ⟨r,Xtm e a,rfl,rfl,rfl,fun _=>rfl⟩
   ·show (s.th.set m.who.toNat _)[b]? = _
    rw [g,List.getElem?_set_ne (fun e=>by subst e; rw [e2] at a; cases a)];exact a
theorem XgS (h:s.Ok c) {k:Nat} {m:MvM} (hm:s.mv[k]? = some (some m)) {n:Int} (hn:(m.size - m.gone:Nat)≤n):XrE (XrA s k n) (k:Nat)=none:=by
 have a:=(List.getElem?_eq_some_iff.1 hm).1;have b:=(h.mv k m hm).2.2.2.2.2.2;unfold XrA;rw [Xku hm];simp only
 have d:goN m n=m.size - m.gone:=by unfold goN XrU; omega
 rw [if_neg (by omega)];unfold XrE;rw [if_pos (by omega)];show ((s.mv.set k none).getD _ none)=none
 rw [Int.toNat_natCast,List.getD_eq_getElem?_getD,List.getElem?_set_self a]; rfl
structure Xat (c:Conf) (s s':StM) (κ:Int):Prop where
 ok:s'.Ok c
 mv:XrE s' κ=none
 other:∀ j:Int,j≠κ→XrE s' j=XrE s j
 th:∀ (o:Nat) t,s.th[o]? = some (some t) → ∃ t',s'.th[o]? = some (some t')∧t'.size=t.size∧t'.q.cls=t.q.cls∧t'.q.pages=t.q.pages∧(t.q.cls≠κ→t'=t)
 no:∀ o:Nat,s.th[o]? = some none→s'.th[o]? = some none
 keep:s'.keep=s.keep∧s'.th.length=s.th.length∧s'.mv.length=s.mv.length∧s'.rm.lg=s.rm.lg
theorem Xf1 (h:s.Ok c) (κ:Int):Xat c s (Xrx s κ) κ:=by
 have a:=h.finish κ;unfold Xrx at a ⊢;cases hm:XrE s κ with
 |none=>exact ⟨h,hm,fun _ _=>rfl,fun o t d=>⟨t,d,rfl,rfl,rfl,fun _=>rfl⟩,fun _ h=>h,rfl,rfl,rfl,rfl⟩
 |some m =>
  rw [hm] at a;obtain ⟨k,rfl,i,b⟩:=Xkw hm;simp only [Int.toNat_natCast] at a ⊢;obtain ⟨e,f,g⟩:=XgU h k (m.size:Nat);exact ⟨a,XgS h b (by omega),g,e,f,XgT s k _⟩
theorem XrG {o:Nat} {t:ThM} (h:s.th[o]? = some (some t)):stQ s (o:Nat)=t.q:=by unfold stQ; rw [Xtd h]
theorem XrM {o:Nat} {t:ThM} (h:s.th[o]? = some (some t)):XrL s (o:Nat)=t.size:=by unfold XrL; rw [Xtd h]
theorem Xf2 (h:s.Ok c) {o:Nat} {t:ThM} (ht:s.th[o]? = some (some t)):∃ t',(Xrx s t.q.cls).th[o]? = some (some t')∧t'.size=t.size∧t'.q.cls=t.q.cls∧t'.q.pages=t.q.pages∧(∀ (k:Nat) (m:MvM),(Xrx s t.q.cls).mv[k]? = some (some m)→m.who≠(o:Nat)):=by
 have F:=Xf1 h t.q.cls;obtain ⟨t',b,f,a,g,_⟩:=F.th o t ht;refine ⟨t',b,f,a,g,fun k m hm e => ?_⟩;obtain ⟨⟨i,l,n,d,j⟩,_⟩:=F.ok.mv k m hm;obtain rfl:i=o:=by omega
 rw [b] at d;cases d
 have:XrE (Xrx s t.q.cls) (k:Nat)=some m:=Xku hm;rw [j] at a;simp only at a
 rw [a,F.mv] at this;cases this
theorem XlA {o:Int} (h:Xlz s o=0):∃ (j:Nat),∃ t,o=j∧s.th[j]? = some (some t):=by
 unfold Xlz at h;split at h
 ·exact absurd h (by decide)
 ·cases a:XrO s o with
  |none=>rw [a] at h; exact absurd (show (9:Int)=0 from h) (by decide)
  |some t =>
   obtain ⟨j,e,_,b⟩:=Xte a;exact ⟨j,t,e,b⟩
theorem XlB {o:Int} (h1:Xlz s o≠1) (h0:Xlz s o≠0):∃ j:Nat,o=j∧j<s.th.length∧s.th[j]? = some none:=by
 unfold Xlz at h1 h0;split at h1
 ·exact absurd rfl h1
 ·rename_i c
  rw [if_neg c] at h0;obtain ⟨j,rfl⟩:=Int.eq_ofNat_of_zero_le (show 0≤o by omega);have a:j<s.th.length:=by omega
  refine ⟨j,rfl,a,?_⟩;cases b:s.th[j] with
  |none=>rw [List.getElem?_eq_getElem a,b]
  |some t =>
   have:XrO s (j:Nat)=some t:=Xtd (by rw [List.getElem?_eq_getElem a,b]);rw [this] at h0;exact absurd rfl h0
theorem Xcb {o size:Int} (h:Xrr c s o size=0):∃ j:Nat,o=j∧j<s.th.length∧s.th[j]? = some none∧Xry c s size=0:=by
 unfold Xrr at h;split at h
 ·exact absurd h (by decide)
 ·rename_i e
  split at h
  ·exact absurd h (by decide)
  ·rename_i f
   obtain ⟨j,a,b,d⟩:=XlB e f;exact ⟨j,a,b,d,h⟩
theorem StM.OkP.alloc (h:s.Ok c) (o size:Int):(Xrq c s o size).Ok c:=by
 unfold Xrq;split
 ·rename_i a
  obtain ⟨j,rfl,_,b,d⟩:=Xcb a;exact StM.OkP.lay h b d (by rintro _ _ ⟨⟩)
 ·exact h
theorem StM.OkP.free (h:s.Ok c) (o:Int):(Xrz c s o).Ok c:=by
 unfold Xrz;split
 ·exact h
 ·rename_i d
  obtain ⟨j,t,rfl,a⟩:=XlA (Decidable.not_not.1 d);rw [XrG a];obtain ⟨t',b,_,_,_,e⟩:=Xf2 h a;rw [XrG b,Int.toNat_natCast];exact ((Xf1 h t.q.cls).ok.away b e).clear
theorem StM.OkP.wrote (h:s.OkP c pd) (o:Int) (i n:Nat) (hi:∀ m,XrE s (stQ s o).cls=some m→i+n≤m.size):(XrQ s o i n).OkP c pd:=by
 unfold XrQ;split
 ·rename_i m hm
  split
  ·obtain ⟨k,_,_,a⟩:=Xkw hm;obtain ⟨b,d,e,_⟩:=Xks h a;have:=hi m hm;refine h.bytes ?_ ?_ _
   ·unfold XuI;split
    ·rfl
    ·unfold XuJ at *;exact Xfg (by omega) (by omega)
   ·unfold XuI;split
    ·exact h.bi
    ·exact Xff h.bi
  ·exact h
 ·exact h
theorem XeX (h:s.OkP c pd) {o:Nat} {t:ThM} (ht:s.th[o]? = some (some t)):t.q.cls=XmC c.classes t.size:=by
 by_cases a:XmC c.classes t.size = -1
 ·obtain ⟨n,r,_,e,_⟩:=h.large o t ht a;rw [e,a]
 ·exact (h.small o t ht a).1
theorem XmG {zs:List Int} {n:Int} {k:Nat} (h:XmC zs n=(k:Nat)):n≤zs.getD k 0:=by
 unfold XmC at h;split at h
 ·omega
 ·unfold idx at h;split at h
  ·rename_i i a
   obtain ⟨b,c,_⟩:=List.findIdx?_eq_some_iff_getElem.1 a;obtain rfl:i=k:=by omega
   rw [List.getD_eq_getElem?_getD,List.getElem?_eq_getElem b];exact of_decide_eq_true c
  ·omega
theorem Xht (h:s.OkP c pd) {k:Nat} {m:MvM} (hm:s.mv[k]? = some (some m)) {o:Nat} {t:ThM} (ht:s.th[o]? = some (some t)) (hc:t.q.cls=(k:Nat)):t.size≤m.size:=by
 have a:=XeX h ht;have b:=(h.mv k m hm).2.2.2.2.2.1;rw [hc] at a;rw [b];unfold XeW;rw [Int.toNat_natCast];have d:XmC c.classes t.size ≠ -1:=by omega
 obtain ⟨_,e⟩:=XmE d;exact XmG a.symm
theorem Xuq {o i n:Int} (h:Xun s o i n=0):∃ (j:Nat),∃ t,o=j∧s.th[j]? = some (some t)∧0≤i∧0≤n∧i+n≤t.size:=by
 unfold Xun at h;by_cases a:Xlz s o=0
 ·rw [if_neg (fun c=>c a)] at h;obtain ⟨j,t,rfl,b⟩:=XlA a;rw [XrM b] at h;split at h
  ·exact absurd h (by decide)
  ·exact ⟨j,t,rfl,b,by omega,by omega,by omega⟩
 ·rw [if_pos a] at h; exact absurd h a
theorem StM.OkP.read (h:s.Ok c) (o i n:Int):(XrH c s o i n).Ok c:=by
 unfold XrH;split
 ·exact h.tot _
 ·exact h
theorem StM.OkP.write (h:s.Ok c) (o i:Int) {l:List Int} (hl:InB l):(XrP c s o i l).Ok c:=by
 unfold XrP;split
 ·rename_i d
  obtain ⟨j,t,rfl,a,f,_,g⟩:=Xuq d;refine (h.put _ _ hl).wrote _ _ _ fun m hm => ?_;have e:=XrG (s:=XrF c s (stQ s (j:Nat)) i.toNat l) a;rw [e] at hm;obtain ⟨k,ek,_,b⟩:=Xkw hm;have:=Xht h (k:=k) (m:=m) b a ek;omega
 ·exact h
theorem StM.OkP.set (h:s.Ok c) (k keep:Int):(XrJ s k keep).Ok c:=by
 unfold XrJ;split
 ·rename_i a
  unfold XrK at a;split at a
  ·exact absurd a (by decide)
  ·refine ⟨h.may,h.rm,by show (s.keep.set _ _).length=_; rw [List.length_set]; exact h.kl,fun x b => ?_,h.bl,h.bi,h.tl,h.ml,h.size,h.small,h.large,h.linj,h.mv,h.own,h.ps,h.pl⟩;rcases List.mem_or_eq_of_mem_set b with b | rfl
   ·exact h.kr x b
   ·omega
 ·exact h
end
structure Ext (F:Nat→Prop) (w:World) (R:Rm) (z:Nat):Prop where
 f:¬ F z
 rb:R.rb≠z
 sb:R.sb≠z
 tb:1≠z
 ca:∀ off s,R.p.ca≠some ⟨z,off,s⟩
 ka:∀ off s,R.p.ka≠some ⟨z,off,s⟩
 lb:kd w z≠some (some 329)
 pg:kd w z≠some (some 325)
 int:kd w z=some (some 3)→R.X z
theorem Xbe.other {F S:Nat→Prop} {w w':World} {R:Rm} {M:RmM} (h:Xbe F w R M) (hc:Chg S w w') (hS:∀ z,S z→Ext F w R z):Xbe F w' R M:=by
 have r:=hc.size;have out:∀ {a:Option Addr} {l:List Int},Far F w a l→(∀ z,S z → ∀ off s,a≠some ⟨z,off,s⟩)→Far F w' a l:=fun {a l} g n=>⟨g.1.far (fun b off s e c=>n b c off s e) hc,g.2⟩;have pb:¬ S R.P.pb:=fun c=>(hS _ c).f (h.pf _ (.inl rfl));have ab:¬ S R.P.ab:=fun c=>(hS _ c).f (h.pf _ (.inr rfl));refine ⟨h.ok,hc.heap h.obj (fun c=>(hS _ c).rb rfl),out h.cls (fun z c=>(hS z c).ca),out h.kee (fun z c=>(hS z c).ka),h.may,fun b o => ?_,fun k i=>hc.cell (h.sl k i) (fun c=>(hS _ c).sb rfl),h.pool.chg hc pb ab,h.pf,?_,h.lg.chg hc (fun z c e => .inr ((hS z e).int c)) (fun c=>(hS _ c).f h.lf),h.lf,h.rf,h.sf,fun z c=>by have:=h.low z c; omega,h.tab.chg hc (fun c=>(hS _ c).tb rfl),h.tf,fun z c=>⟨by have:=(h.xl z c).1; omega,(h.xl z c).2⟩⟩
 ·obtain ⟨f,hm⟩:=h.met b o;exact ⟨f,hc.heap hm.1 (fun e=>(hS _ e).f f),hm.2⟩
 ·obtain ⟨G,a,e⟩:=h.sh;refine ⟨G,fun k x p => ?_,e⟩;obtain ⟨f,d,j⟩:=a k x p;have k:=d.at'.kds;have nf:∀ z,S z → ¬ XpK (R.S _) (G _) x.pg z:=fun z c q=>(hS z c).f (j z q).1;exact ⟨f,⟨d.ok,d.pos,d.of,d.at'.chg hc (fun z c=>⟨fun e=>nf z c (.inl e),fun e=>nf z c (.inr (.inl e)),fun e=>(hS z c).lb (e▸k.lb),fun e=>nf z c (.inr (.inr (.inl e)))⟩) (fun z c e m=>⟨fun e'=>(hS z c).pg (e'▸(d.at'.pages e m).kds.p),fun e'=>nf z c (.inr (.inr (.inr ⟨e,m,e'⟩)))⟩) (fun c=>(hS _ c).tb rfl),d.pool.chg hc (by rw [f]; exact pb) (by rw [f]; exact ab)⟩,j⟩
theorem Xbf.keep {F:Nat→Prop} {w w':World} {R:Rm} {M:RmM} (h:Xbf F w w' R M) {z:Nat} {o:Obj} (hz:w.heap[z]? = some o) (hf:¬ F z):∃ F',Xbe F' w' R M∧(∀ z,F' z→F z∨w.heap.size≤z)∧Chg F w w'∧w'.heap[z]? = some o ∧ ¬ F' z:=by
 obtain ⟨F',a,b,c⟩:=h;exact ⟨F',a,b,c,c.heap hz hf,fun h=>(b z h).elim hf (fun h=>by have:=Xjs hz; omega)⟩
theorem XsA {n off m:Nat} (h:off+m≤n):sub (Xu1 n) off m=List.replicate m 0:=by
 unfold sub Xu1;rw [List.drop_replicate,List.take_replicate,Nat.min_eq_left (by omega)]
theorem Xt0 (v:Vw) (vb:Nat) (A:Ar) (V:ArV) (i m:Nat) (w:World) (hvb:Xnr w vb v) (hv:w.heap[v.vb]? = some (.cells (vwL v).toArray 211 (0,0))) (hab:v.ab=A.ab) (hA:Xag w A V) (him:i+m≤V.bs.length) :
 Xan Tryz.prog 199 #[.int .i64 i,.int .i64 m,.pointer (some ⟨vb,0,none⟩)] w (fun _ w'=>Xag w' A {V.charge A m with bs:=wrB V.bs i (List.replicate m 0)}∧Chg (Xgh A) w w'):=by
 refine ζe Tryz.func199 Tryz.ntmps199 rfl (ζl hvb rfl (ζl hv rfl ?_));rw [hab];refine ζc rfl (XcA A V i m 0 w hA him (by decide)) ?_;rintro _ c ⟨rfl,a,b⟩;exact ζa rfl (ζr Tryz.func199 rfl ⟨a,b⟩)
theorem XtZ (v:Vw) (q:Plc) (at' n:Nat) (A:Ar) (V:ArV) (w:World) (hv:XbO w v) (hq:Xa4 w q) (hmb:v.mb=A.mb) (hab:v.ab=A.ab) (hck:Xer v.c q at' n=0) (hfew:q.pages.length≤4096)
 (hPv:¬ Xgh A v.vb) (hPq:0<q.pages.length→XaX (Xgh A) q.pa) (hPc:0<v.c.classes.length→XaX (Xgh A) v.p.ca) (hPk:0<v.c.keep.length→XaX (Xgh A) v.p.ka) (hA:Xag w A V) (hlen:(V.bs.length:Int)=v.c.size*v.c.pages) :
 Xan Tryz.prog 131 #[vwV v,.agg (Xm6 q).toArray,.int .i64 at',.int .i64 n] w (fun u w'=>u = .int .i64 0∧Xag w' A (vsW q A V (Xl1 v.c q at' n) (Xu1 n) (Xl1 v.c q at' n).length)∧Chg (Xgh A) w w'):=by
 obtain ⟨ps,c⟩:∃ ps,ps=Xl1 v.c q at' n:=⟨_,rfl⟩;have f:∀ p ∈ ps,∃ i m:Nat,p=((i:Int),(m:Int))∧i+m≤V.bs.length:=fun p g=>by
  obtain ⟨i,m,W,h2⟩:=Xl3 hv.may hck hfew p (c▸g);exact ⟨i,m,W,by omega⟩
 have H:Xtr ps=n:=by rw [c]; exact Xl5 hv.may
 have K:(Xu1 n).length=n:=List.length_replicate;rw [← c];refine Xan.enter Tryz.func131 rfl Tryz.ntmps131 rfl rfl ?_;refine ζa rfl ?_;refine Xay.alloc hTT rfl ?_;intro vb w1 e1 L M a5;refine ζa rfl ?_;refine Xay.alloc hTT rfl ?_;intro qb j e2 l E a6;refine ζa rfl ?_;replace l:Xm5 j qb q:=l;have o:=M.trans E;have r:Xnr j vb v:=E.heap' L;refine Xay.loadb hTT rfl r rfl rfl ?_;refine Xay.loads hTT rfl l rfl rfl ?_;have d:=foot_lt hA;have b:∀ z,XjD A z→Xgh A z:=fun z h => .inr h;have a7:=Xjs hv.obj;have N:=Xt1 v q at' n 199 [.pointer (some ⟨vb,0,none⟩)] A (vsW q A V ps (Xu1 n))
  (fun k Y x=>(∀ z,Y z↔Xgh A z)∧Xnr x vb v∧x.heap[v.vb]? = some (.cells (vwL v).toArray 211 (0,0))∧j.heap.size≤x.heap.size)
  (Xgh A) j (hv.grow o) (hq.grow o) hmb hck hfew
  (by rintro (h | h); exact hPv h; exact hPv (b _ h))
  (hq.rd.outNew hPq (fun z a=>by rcases a with h | h; exact .inl h; exact .inl (b _ h)))
  (hv.conf.classes.outNew hPc (fun z a=>by rcases a with h | h; exact .inl h; exact .inl (b _ h)))
  (hv.conf.keep.outNew hPk (fun z a=>by rcases a with h | h; exact .inl h; exact .inl (b _ h)))
  (by
   rintro k Y x ⟨e,s,t,B⟩ z a;have:=d z ((e z).1 a);omega)
  (by
   rintro k Y x y S ⟨e,s,t,B⟩ I hS;have no:∀ z,z<j.heap.size → ¬ XjD A z → ¬ S z:=fun z a hm h=>(hS z h).elim hm (fun h=>by omega);exact ⟨e,I.heap s (no _ (by omega) (fun h=>by have:=d _ (b _ h); omega)),I.heap t (no _ (by omega) (fun h=>hPv (b _ h))),Nat.le_trans B I.size⟩)
  (by
   rintro k Y x C O ⟨e,s,t,B⟩;rw [← c] at C;obtain ⟨i,m,g,P⟩:=f ps[k] (List.getElem_mem C);have F:(Xew q A (vsW q A V ps (Xu1 n) k)).bs=(vsW q A V ps (Xu1 n) k).bs:=Xex _ _ _;have J:(vsW q A V ps (Xu1 n) k).bs.length=V.bs.length:=Xuc f (by rw [K]; exact H) (by omega);have G:=Xtv C;rw [g] at G;simp only [Int.toNat_natCast] at G;have hR:=Xt0 v vb A (Xew q A (vsW q A V ps (Xu1 n) k)) i m x s t hab O (by rw [F,J]; exact P);simp only [← c];rw [g];refine hR.mono fun _ y ⟨Q,D⟩ => ?_;rw [F] at Q;refine ⟨by rw [Xud C g,XsA (by omega)]; exact Q,D.mono fun z _ a=>(e z).2 a,Y,⟨e,?_,?_,Nat.le_trans B D.size⟩,fun z a => .inl a⟩
   ·exact D.heap s (fun h=>by have:=d _ h; omega)
   ·exact D.heap t hPv)
  (hA.grow o) ⟨fun z=>Iff.rfl,r,o.heap' hv.obj,Nat.le_refl _⟩
 rw [← c] at N;refine ζc rfl (N) ?_;rintro _ w4 ⟨rfl,R,_,T⟩;refine ζa rfl ?_;have U:Chg (Xgh A) w w4:=(o.mono fun _ _ h=>h.elim).since T (fun z a h=>by rcases h with h | h; exact h; exact b _ h);exact Xay.ret1 hTT rfl Tryz.func131 rfl rfl ⟨rfl,R,U⟩
structure Sto where
 sb:Nat
 c:Conf
 p:Xal
 kb:Nat
 kc:Nat
 kr:List Value
 mb:Nat
 A:Ar
 R:Rm
 v:Vw
 tm:Nat
 vb:Nat
 vc:Nat
abbrev XrY (S:Sto):Value := .pointer (some ⟨S.sb,0,none⟩)
def XrX (S:Sto) (nk nm:Nat) (by':Int):List Value:=Xe6 S.c S.p ++ [.slice (some ⟨S.kb,0,none⟩) nk S.kc,.pointer (some ⟨S.mb,0,none⟩),.pointer (some ⟨S.A.ab,0,none⟩),rmV S.R,vwV S.v,.map (some S.tm),.slice (some ⟨S.vb,0,none⟩) nm S.vc,.int .i64 by']
def thL (size:Int) (q:Plc):List Value := .int .i64 size::Xm6 q
abbrev Mo:=List (Option (Nat × MvM))
def Xkx:Option (Nat × MvM)→List Value
 |none => [.pointer none,.int .i64 0,.int .i64 0,.int .i64 0,.int .i64 0,.int .i64 0]
 |some (b,m) => [.pointer (some ⟨b,0,none⟩),.int .i64 m.who,.int .i64 m.pf,.int .i64 m.fa,.int .i64 m.pt,.int .i64 m.ta]
theorem Xky (x:Option (Nat × MvM)):(Xkx x).length=6:=by cases x <;> rfl
def Xkb (mo:Mo):List (Option MvM):=mo.map fun x=>x.map (·.2)
abbrev arV (S:Sto) (s:StM):ArV:=⟨s.bs,s.rm.tot,S.R.lap⟩
abbrev Xkl (b:Nat) (m:MvM):Mv:=⟨b,m.f,m.t,m.size⟩
def XaD (w:World) (a:Option Addr):Prop := ∀ b off s,a=some ⟨b,off,s⟩→kd w b=some (some 3)
theorem XaD.lt {w:World} {a:Option Addr} (h:XaD w a):ALt w a:=fun b off s e=>Xh8 (h b off s e)
theorem XaD.chg {S:Nat→Prop} {w w':World} {a:Option Addr} (h:XaD w a) (hc:Chg S w w') (hS:XaX S a):XaD w' a:=fun b off s e=>Xh6 hc (h b off s e) (hS b off s e)
theorem XaD.grow {w w':World} {a:Option Addr} (h:XaD w a) (hc:Chg XaW w w'):XaD w' a:=h.chg hc (fun _ _ _ _ h=>h)
def XbH (F:Nat→Prop) (w:World) (tm:Nat) (th:List (Option ThM)) (al:AL):Prop:=XaL w tm al∧(Xb2 al).Nodup ∧
 (∀ (o:Nat) t,th[o]? = some (some t) → ∃ q:Plc,Xm8 q=t.q∧Xcc al o=some (.agg (thL t.size q).toArray)∧Xa4 w q∧XaX F q.pa∧XaD w q.pa) ∧ ∀ k:Int,(∀ (o:Nat) t,th[o]? = some (some t)→(o:Int)≠k)→Xcc al k=none
def XbG (F:Nat→Prop) (w:World) (tm:Nat) (th:List (Option ThM)):Prop := ∃ al,XbH F w tm th al
theorem XbG.far {F S:Nat→Prop} {w w':World} {tm:Nat} {th:List (Option ThM)} (h:XbG F w tm th) (hc:Chg S w w') (hS:∀ z,S z→F z) (hm:¬ S tm):XbG F w' tm th:=by
 obtain ⟨al,a,b,d,e⟩:=h;exact ⟨al,a.chg hc hm,b,fun o t g=>by
  obtain ⟨q,i,j,f,c,k⟩:=d o t g;exact ⟨q,i,j,⟨f.rd.far (c.mono hS) hc,f.len⟩,c,k.chg hc (c.mono hS)⟩,e⟩
theorem XbG.wide {F F':Nat→Prop} {w:World} {tm:Nat} {th:List (Option ThM)} (h:XbG F w tm th) (hF:∀ z,F' z→F z∨w.heap.size≤z):XbG F' w tm th:=by
 obtain ⟨al,a,b,d,e⟩:=h;exact ⟨al,a,b,fun o t f=>by
  obtain ⟨q,g,i,j,k,c⟩:=d o t f;exact ⟨q,g,i,j,fun b off s e l=>(hF b l).elim (k b off s e) (fun h=>by have:=Xh8 (c b off s e); omega),c⟩,e⟩
structure Xbz (F Fr:Nat→Prop) (w:World) (S:Sto) (s:StM) (by':Int) (mo:Mo):Prop where
 obj:w.heap[S.sb]? = some (.cells (XrX S s.keep.length s.mv.length by').toArray 135 (0,0))
 kee:w.heap[S.kb]? = some (.cells (s.keep.map (Value.int .i64)++S.kr).toArray 3 (0,0))
 kcap:s.keep.length≤S.kc
 room:Xbe Fr w S.R s.rm
 ar:Xag w S.A (arV S s)
 vw:XbO w S.v
 th:XbG F w S.tm s.th
 mvs:w.heap[S.vb]? = some (.cells (fl Xkx mo).toArray 190 (0,0))
 mvc:s.mv.length≤S.vc
 mom:Xkb mo=s.mv
 mob:∀ (k b:Nat) m,mo[k]? = some (some (b,m))→w.heap[b]? = some (.cells (Xkm S.A (Xkl b m) m.gone).toArray 258 (0,0))∧F b ∧ ¬ Fr b
 mdj:∀ (j k b:Nat) m m',mo[j]? = some (some (b,m))→mo[k]? = some (some (b,m'))→j=k
 rc:S.R.c=S.c
 rp:S.R.p=S.p
 rmo:S.R.mo=some S.mb
 rX:S.R.X=fun z=>z=S.kb
 amb:S.A.mb=some S.mb
 vc:S.v.c=S.c
 vp:S.v.p=S.p
 vab:S.v.ab=S.A.ab
 vmb:S.v.mb=some S.mb
 f1:∀ z,Fr z→F z
 f2:F S.sb∧F S.kb∧F S.A.db∧F S.tm∧F S.vb
 nr:¬ Fr S.sb ∧ ¬ Fr S.kb ∧ ¬ Fr S.A.db ∧ ¬ Fr S.tm ∧ ¬ Fr S.vb
 nF:¬ F S.A.ab ∧ ¬ F S.A.mc ∧ ¬ F S.v.vb ∧ ¬ F S.R.rb ∧ ¬ F S.R.sb ∧ ¬ F 1
 ca:Far F w S.p.ca S.c.classes
 ka:Far F w S.p.ka S.c.keep
 low:∀ z,F z→z<w.heap.size
section
variable {F Fr:Nat→Prop} {w w':World} {S:Sto} {s:StM} {by':Int} {mo:Mo}
theorem Xbz.lt (h:Xbz F Fr w S s by' mo):S.sb<w.heap.size∧S.kb<w.heap.size∧S.A.db<w.heap.size∧S.tm<w.heap.size∧S.vb<w.heap.size :=
 ⟨h.low _ h.f2.1,h.low _ h.f2.2.1,h.low _ h.f2.2.2.1,h.low _ h.f2.2.2.2.1,h.low _ h.f2.2.2.2.2⟩
theorem XbG.kd (h:XbG F w S.tm s.th):kd w S.tm=some none:=by
 obtain ⟨al,a,_⟩:=h;exact Xh9 a
theorem Xbz.mb (h:Xbz F Fr w S s by' mo):F S.mb∧Fr S.mb∧XaO w S.mb s.rm.tot S.R.lap:=by
 obtain ⟨a,b⟩:=h.room.met _ h.rmo;exact ⟨h.f1 _ a,a,b⟩
theorem Xbz.ext (h:Xbz F Fr w S s by' mo) {z:Nat} {x:Option Nat} (hF:F z) (hn:¬ Fr z) (hk:kd w z=some x) (hx:∀ t,x=some t→t≠329∧t≠325∧t≠206∧(t=3→z=S.kb)):Ext Fr w S.R z:=by
 obtain ⟨j,k,m,c,d,f⟩:=h.nF;have hm:=XjT h.room.may;have far:∀ {a:Option Addr} {l:List Int},Far F w a l→0<l.length → ∀ off s,a≠some ⟨z,off,s⟩:=fun g i off s e=>g.2 i z off s e hF;have b:=h.rc;refine ⟨hn,fun e=>c (e▸hF),fun e=>d (e▸hF),fun e=>f (e▸hF),?_,?_,fun e => ?_,fun e => ?_,fun e => ?_⟩
 ·rw [h.rp]; exact far h.ca (by rw [b] at hm; have:=hm.n; omega)
 ·rw [h.rp]; exact far h.ka (by rw [b] at hm; have:=hm.keep; have:=hm.n; omega)
 ·rw [hk] at e; exact (hx _ (Option.some.inj e)).1 rfl
 ·rw [hk] at e; exact (hx _ (Option.some.inj e)).2.1 rfl
 ·rw [hk] at e;rw [h.rX];exact (hx _ (Option.some.inj e)).2.2.2 rfl
theorem Xbz.ext' (h:Xbz F Fr w S s by' mo) {z t:Nat} (hF:F z) (hn:¬ Fr z) (hk:kd w z=some (some t)) (ht:t≠329∧t≠325∧t≠206∧t≠3):Ext Fr w S.R z :=
 h.ext hF hn hk (fun t' e=>by cases e; exact ⟨ht.1,ht.2.1,ht.2.2.1,fun e=>absurd e ht.2.2.2⟩)
theorem Xbz.extMap (h:Xbz F Fr w S s by' mo):Ext Fr w S.R S.tm:=h.ext h.f2.2.2.2.1 h.nr.2.2.2.1 h.th.kd (fun t e=>by cases e)
theorem Xbz.grow (h:Xbz F Fr w S s by' mo) (hc:Chg XaW w w'):Xbz F Fr w' S s by' mo :=
 {h with
  obj:=hc.heap' h.obj,kee:=hc.heap' h.kee,room:=h.room.grow hc,ar:=h.ar.grow hc,vw:=h.vw.grow hc,th:=h.th.far hc (fun _ h=>h.elim) id,mvs:=hc.heap' h.mvs,
  mob:=fun k b m hm=>by obtain ⟨a,d⟩:=h.mob k b m hm; exact ⟨hc.heap' a,d⟩,
  ca:=h.ca.chg hc (fun _ h=>h.elim),ka:=h.ka.chg hc (fun _ h=>h.elim),low:=fun z c=>by have:=h.low z c; have:=hc.size; omega}
structure Xas (F:Nat→Prop) (w:World) (S:Sto) (z:Nat):Prop where
 f:¬ F z
 e1:S.A.ab≠z∧S.A.mc≠z∧S.v.vb≠z∧S.R.rb≠z∧S.R.sb≠z∧1≠z
 ca:∀ off s,S.p.ca≠some ⟨z,off,s⟩
 ka:∀ off s,S.p.ka≠some ⟨z,off,s⟩
 kd:∃ t,kd w z=some (some t)∧t≠329∧t≠325∧t≠3
def XbI (S:Nat→Prop) (w:World) (tm:Nat):Prop := ∀ al,XaL w tm al → ∀ (k:Int) sz (q:Plc),Xcc al k=some (.agg (thL sz q).toArray)→XaX S q.pa
theorem Xbz.other {T:Nat→Prop} (h:Xbz F Fr w S s by' mo) (hc:Chg T w w') (hT:∀ z,T z→Xas F w S z) (ho:XbI T w S.tm):Xbz F Fr w' S s by' mo:=by
 have nf:∀ {z:Nat},F z → ¬ T z:=fun i j=>(hT _ j).f i;have n:∀ z,T z→Ext Fr w S.R z:=fun z c=>by
  have e:=hT z c;obtain ⟨t,v,x,y,A⟩:=e.kd;have d:∀ {t':Nat},t≠t'→Go.Proofs.YtgddpaiandefgaaGreatDoor.kd w z≠some (some t'):=fun h e=>h (Option.some.inj (Option.some.inj (v.symm.trans e)));exact ⟨fun i=>e.f (h.f1 z i),e.e1.2.2.2.1,e.e1.2.2.2.2.1,e.e1.2.2.2.2.2,by rw [h.rp]; exact e.ca,by rw [h.rp]; exact e.ka,d x,d y,fun e=>absurd e (d A)⟩
 have far:∀ {a:Option Addr} {l:List Int},Far F w a l→(∀ z,T z → ∀ off s,a≠some ⟨z,off,s⟩)→Far F w' a l:=fun g B=>⟨g.1.far (fun b off s e c=>B b c off s e) hc,g.2⟩;have r:XbO w' S.v:=⟨hc.heap h.vw.obj (fun c=>(hT _ c).e1.2.2.1 rfl),by
  have:=h.vw.conf;rw [h.vc,h.vp] at this ⊢;exact ⟨this.classes.far (fun b off s e c=>(hT b c).ca off s e) hc,this.keep.far (fun b off s e c=>(hT b c).ka off s e) hc,this.lc,this.lk,this.size⟩,h.vw.may⟩
 refine {h with
  obj:=hc.heap h.obj (nf h.f2.1),kee:=hc.heap h.kee (nf h.f2.2.1),room:=h.room.other hc n,
  ar:=h.ar.chg hc (fun b hb c => ?_),vw:=r,th := ?_,mvs:=hc.heap h.mvs (nf h.f2.2.2.2.2),
  mob:=fun k b m hm=>by obtain ⟨a,d⟩:=h.mob k b m hm; exact ⟨hc.heap a (nf d.1),d⟩,
  ca:=far h.ca (fun z c=>(hT z c).ca),ka:=far h.ka (fun z c=>(hT z c).ka),low:=fun z c=>by have:=h.low z c; have:=hc.size; omega}
 ·rcases hb with rfl | rfl | rfl | hb
  ·exact (hT _ c).e1.1 rfl
  ·exact nf h.f2.2.2.1 c
  ·exact (hT _ c).e1.2.1 rfl
  ·rw [h.amb] at hb; cases hb; exact nf h.mb.1 c
 ·have f:=ho;obtain ⟨al,a,b,d,e⟩:=h.th;exact ⟨al,a.chg hc (nf h.f2.2.2.2.1),b,fun o t j=>by
   obtain ⟨q,C,p,u,D,E⟩:=d o t j;exact ⟨q,C,p,⟨u.rd.far (f al a _ _ _ p) hc,u.len⟩,D,E.chg hc (f al a _ _ _ p)⟩,e⟩
theorem Xbz.own {T:Nat→Prop} (h:Xbz F Fr w S s by' mo) (hc:Chg T w w') (hT:∀ z,T z→F z∧Ext Fr w S.R z) :
 Xbe Fr w' S.R s.rm∧XbO w' S.v∧(¬ T S.tm→XbG F w' S.tm s.th)∧(¬ T S.A.db→Xag w' S.A (arV S s))∧Far F w' S.p.ca S.c.classes∧Far F w' S.p.ka S.c.keep∧(∀ z,F z→z<w'.heap.size)∧XaO w' S.mb s.rm.tot S.R.lap:=by
 obtain ⟨d,e,f,j,k,l⟩:=h.nF;have c:¬ T S.mb:=fun a=>(hT _ a).2.f h.mb.2.1;refine ⟨h.room.other hc (fun z a=>(hT z a).2),⟨hc.heap h.vw.obj (fun a=>f (hT _ a).1),?_,h.vw.may⟩,fun hm=>h.th.far hc (fun z a=>(hT z a).1) hm,fun g=>h.ar.chg hc (fun b hb a => ?_),h.ca.chg hc (fun z a=>(hT z a).1),h.ka.chg hc (fun z a=>(hT z a).1),fun z a=>by have:=h.low z a; have:=hc.size; omega,h.mb.2.2.1 |> fun i=>⟨hc.heap i c,h.mb.2.2.2⟩⟩
 ·have:=h.vw.conf;rw [h.vc,h.vp] at this ⊢;exact ⟨(h.ca.chg hc (fun z a=>(hT z a).1)).1,(h.ka.chg hc (fun z a=>(hT z a).1)).1,this.lc,this.lk,this.size⟩
 ·rcases hb with rfl | rfl | rfl | hb
  ·exact d (hT _ a).1
  ·exact g a
  ·exact e (hT _ a).1
  ·rw [h.amb] at hb; cases hb; exact c a
end
theorem Xbe.charge2 {F T:Nat→Prop} {w w':World} {R:Rm} {M:RmM} (h:Xbe F w R M) {b:Nat} (hb:R.mo=some b) {t:Int} (hm:XaO w' b t R.lap) (hc:Chg T w w') (hT:∀ z,T z→z=b∨Ext F w R z):Xbe F w' R {M with tot:=t}:=by
 obtain ⟨f,p⟩:=h.met b hb;have kb:=Xia p;have kp:=h.pool.kds;have A:=hc.size;have no:∀ {z:Nat} {x:Option Nat},kd w z=some x→x≠some 197 → ¬ Ext F w R z → ¬ T z:=fun i j u hz=>by
  rcases hT _ hz with e | e
  ·subst e; rw [kb] at i; exact j (Option.some.inj i).symm
  ·exact u e
 have mf:∀ {z:Nat} {x:Option Nat},kd w z=some x→x≠some 197→F z → ¬ T z:=fun i j n=>no i j (fun e=>e.f n);have out:∀ {a:Option Addr} {l:List Int},Far F w a l→(∀ z,Ext F w R z → ∀ off s,a≠some ⟨z,off,s⟩)→Far F w' a l:=fun {a l} g v=>by
  refine ⟨?_,g.2⟩;by_cases y:0<l.length
  ·exact g.1.far (fun b' off s e hz=>by
    rcases hT _ hz with e' | e'
    ·subst e'; exact g.2 y b' off s e f
    ·exact v b' e' off s e) hc
  ·have:l = []:=List.eq_nil_of_length_eq_zero (by omega);subst this;exact Rd.nil _ _ _
 have rbn:¬ T R.rb:=fun hz=>(hT _ hz).elim (fun e=>h.rf (e▸f)) (fun e=>e.rb rfl);have sbn:¬ T R.sb:=fun hz=>(hT _ hz).elim (fun e=>h.sf (e▸f)) (fun e=>e.sb rfl);have tbn:¬ T 1:=fun hz=>(hT _ hz).elim (fun e=>h.tf (e▸f)) (fun e=>e.tb rfl);have pb:=mf kp.1 (by decide) (h.pf _ (.inl rfl));have ab:=mf kp.2 (by decide) (h.pf _ (.inr rfl));refine ⟨{h.ok with tot:=by have:=hm.2; show 0≤t∧t≤4611686018427387904; omega},hc.heap h.obj rbn,out h.cls (fun z e=>e.ca),out h.kee (fun z e=>e.ka),h.may,fun b' m => ?_,fun k i=>hc.cell (h.sl k i) sbn,h.pool.chg hc pb ab,h.pf,?_,h.lg.chg hc (fun z hz e=>(hT z e).elim (fun e => .inl (e▸f)) (fun e => .inr (e.int hz))) (mf (Xh7 h.lg) (by simp) h.lf),h.lf,h.rf,h.sf,fun z hz=>by have:=h.low z hz; omega,h.tab.chg hc tbn,h.tf,fun z hz=>⟨by have:=(h.xl z hz).1; omega,(h.xl z hz).2⟩⟩
 ·rw [hb] at m; cases m; exact ⟨f,hm⟩
 ·obtain ⟨G,a,d⟩:=h.sh;refine ⟨G,fun k x j => ?_,d⟩;obtain ⟨o,c,q⟩:=a k x j;have k:=c.at'.kds;have ap:=c.at'.apart kb (by decide);have nf:∀ z,Ext F w R z → ¬ XpK (R.S _) (G _) x.pg z:=fun z hz n=>hz.f (q z n).1;refine ⟨o,⟨c.ok,c.pos,c.of,c.at'.chg hc (fun z hz => ?_) (fun z hz => ?_) tbn,c.pool.chg hc (by rw [o]; exact pb) (by rw [o]; exact ab)⟩,q⟩
  ·rcases hT z hz with e | hz
   ·subst e; exact ap.1
   ·exact ⟨fun e=>nf z hz (.inl e),fun e=>nf z hz (.inr (.inl e)),fun e=>hz.lb (e▸k.lb),fun e=>nf z hz (.inr (.inr (.inl e)))⟩
  ·rcases hT z hz with e | hz
   ·subst e; exact ap.2
   ·exact fun e r=>⟨fun e'=>hz.pg (e'▸(c.at'.pages e r).kds.p),fun e'=>nf z hz (.inr (.inr (.inr ⟨e,r,e'⟩)))⟩
section
variable {F Fr:Nat→Prop} {w w':World} {S:Sto} {s:StM} {by':Int} {mo:Mo}
theorem XbH.put {tm:Nat} {th:List (Option ThM)} {al:AL} (h:XbH F w tm th al) {o:Nat} {size:Int} {q:Plc} {qm:PlcM} (hq:Xm8 q=qm) (ho:o<th.length) (hm:XaL w' tm (Xcv al (o:Nat) (.agg (thL size q).toArray))) (hc:Chg (fun z=>z=tm) w w') (ht:F tm) (hp:Xa4 w q) (hF:XaX F q.pa) (hl:XaD w q.pa):XbG F w' tm (th.set o (some ⟨size,qm⟩)):=by
 obtain ⟨x,l,m,n⟩:=h;have up:∀ {q:Plc},Xa4 w q→XaX F q.pa→Xa4 w' q:=fun a b=>⟨a.rd.far (b.mono (S':=fun z=>z=tm) fun z e=>e▸ht) hc,a.len⟩;refine ⟨_,hm,Xk3 l _ _,fun d g c => ?_,fun k j => ?_⟩
 ·rcases Xtw c with ⟨rfl,rfl⟩ | ⟨v,c⟩
  ·exact ⟨q,hq,by rw [Xch,if_pos rfl],up hp hF,hF,hl.chg hc (hF.mono (S':=fun z=>z=tm) fun z e=>e▸ht)⟩
  ·obtain ⟨p,r,s,t,i,u⟩:=m d g c;exact ⟨p,r,by rw [Xch,if_neg (by omega)]; exact s,up t i,i,u.chg hc (i.mono (S':=fun z=>z=tm) fun z e=>e▸ht)⟩
 ·have f:=j o _ (List.getElem?_set_self ho);rw [Xch,if_neg (fun e=>f e.symm)];refine n k fun d g c => ?_;by_cases e:d=o
  ·subst e; exact f
  ·exact j d g (Xtm e c)
theorem XbH.del {tm:Nat} {th:List (Option ThM)} {al:AL} (h:XbH F w tm th al) {o:Nat} (hm:XaL w' tm (XbS al (o:Nat))) (hc:Chg (fun z=>z=tm) w w') (ht:F tm):XbG F w' tm (th.set o none):=by
 obtain ⟨s,c,i,j⟩:=h;refine ⟨_,hm,Xk1 c _,fun b d a => ?_,fun k l => ?_⟩
 ·rcases XpH a with ⟨_,e,_⟩ | ⟨r,a⟩
  ·cases e
  ·obtain ⟨m,n,p,g,f,q⟩:=i b d a;exact ⟨m,n,by rw [Xce c,if_neg (by omega)]; exact p,⟨g.rd.far (f.mono (S':=fun z=>z=tm) fun z e=>e▸ht) hc,g.len⟩,f,q.chg hc (f.mono (S':=fun z=>z=tm) fun z e=>e▸ht)⟩
 ·rw [Xce c];by_cases e:k=(o:Nat)
  ·rw [if_pos e]
  ·rw [if_neg e];refine j k fun b d a => ?_;by_cases e1:b=o
   ·subst e1; exact fun h=>e h.symm
   ·exact l b d (Xtm e1 a)
theorem Xbz.kds (h:Xbz F Fr w S s by' mo):kd w S.sb=some (some 135)∧kd w S.kb=some (some 3)∧kd w S.A.db=some (some 5)∧kd w S.tm=some none∧kd w S.vb=some (some 190)∧kd w S.mb=some (some 197) :=
 ⟨Xh5 h.obj,Xh5 h.kee,Xh5 h.ar.dat,h.th.kd,Xh5 h.mvs,Xh5 h.mb.2.2.1⟩
theorem Xbz.objAt {T:Nat→Prop} (h:Xbz F Fr w S s by' mo) (hc:Chg T w w') (hT:∀ (k b:Nat) m,mo[k]? = some (some (b,m)) → ¬ T b):∀ (k b:Nat) m,mo[k]? = some (some (b,m))→w'.heap[b]? = some (.cells (Xkm S.A (Xkl b m) m.gone).toArray 258 (0,0))∧F b ∧ ¬ Fr b:=fun k b m hm=>by
 obtain ⟨x,y⟩:=h.mob k b m hm;exact ⟨hc.heap x (hT k b m hm),y⟩
theorem Xbz.kdm (h:Xbz F Fr w S s by' mo) {k b:Nat} {m:MvM} (hm:mo[k]? = some (some (b,m))):kd w b=some (some 258):=Xh5 (h.mob k b m hm).1
theorem Xbz.setBy (h:Xbz F Fr w S s by' mo) {by2:Int} (hc:Chg (fun z=>z=S.sb) w w') (ho:w'.heap[S.sb]? = some (.cells (XrX S s.keep.length s.mv.length by2).toArray 135 (0,0))):Xbz F Fr w' S s by2 mo:=by
 obtain ⟨a,c,d,f,g,r⟩:=h.kds;obtain ⟨i,j,l,n,o,p,q,_⟩:=h.own hc (fun z e=>⟨e▸h.f2.1,e▸h.ext' h.f2.1 h.nr.1 a (by decide)⟩);exact {h with obj:=ho,kee:=hc.heap h.kee (Xib c a (by decide)),room:=i,ar:=n (Xib d a (by decide)),vw:=j,th:=l (Xib f a (by simp)),mvs:=hc.heap h.mvs (Xib g a (by decide)),mob:=h.objAt hc (fun k b m hm=>Xib (h.kdm hm) a (by decide)),ca:=o,ka:=p,low:=q}
theorem Xbz.setTh (h:Xbz F Fr w S s by' mo) {th':List (Option ThM)} (hc:Chg (fun z=>z=S.tm) w w') (ht:XbG F w' S.tm th'):Xbz F Fr w' S {s with th:=th'} by' mo:=by
 obtain ⟨c,d,f,a,g,q⟩:=h.kds;obtain ⟨i,j,r,l,n,o,p,_⟩:=h.own hc (fun z e=>⟨e▸h.f2.2.2.2.1,e▸h.extMap⟩);exact {h with obj:=hc.heap h.obj (Xib c a (by simp)),kee:=hc.heap h.kee (Xib d a (by simp)),room:=i,ar:=l (Xib f a (by simp)),vw:=j,th:=ht,mvs:=hc.heap h.mvs (Xib g a (by simp)),mob:=h.objAt hc (fun k b m hm=>Xib (h.kdm hm) a (by simp)),ca:=n,ka:=o,low:=p}
theorem Xkc (mo:Mo) (k:Nat) (x:Option (Nat × MvM)):Xkb (mo.set k x)=(Xkb mo).set k (x.map (·.2)):=by unfold Xkb; rw [List.map_set]
theorem Xkd {mo:Mo} {k j b:Nat} {m:MvM} {x:Option (Nat × MvM)} (h:(mo.set k x)[j]? = some (some (b,m))):(j=k∧x=some (b,m)∧k<mo.length)∨(j≠k∧mo[j]? = some (some (b,m))):=XpH h
theorem Xbz.mol (h:Xbz F Fr w S s by' mo):mo.length=s.mv.length:=by rw [← h.mom]; unfold Xkb; rw [List.length_map]
theorem Xbz.setMv (h:Xbz F Fr w S s by' mo) {k:Nat} {x:Option (Nat × MvM)} (hc:Chg (fun z=>z=S.vb) w w') (ho:w'.heap[S.vb]? = some (.cells (fl Xkx (mo.set k x)).toArray 190 (0,0)))
 (hx:∀ b m,x=some (b,m)→w.heap[b]? = some (.cells (Xkm S.A (Xkl b m) m.gone).toArray 258 (0,0))∧F b ∧ ¬ Fr b ∧ ∀ (j:Nat) m',mo[j]?≠some (some (b,m'))) :
 Xbz F Fr w' S {s with mv:=s.mv.set k (x.map (·.2))} by' (mo.set k x):=by
 obtain ⟨l,n,o,p,a,D⟩:=h.kds;obtain ⟨q,r,t,u,v,y,A,_⟩:=h.own hc (fun z e=>⟨e▸h.f2.2.2.2.2,e▸h.ext' h.f2.2.2.2.2 h.nr.2.2.2.2 a (by decide)⟩);have f:(s.mv.set k (x.map (·.2))).length=s.mv.length:=List.length_set;refine {h with obj:=by show w'.heap[S.sb]? = some (.cells (XrX S s.keep.length (s.mv.set k (x.map (·.2))).length by').toArray _ _); rw [f]; exact hc.heap h.obj (Xib l a (by decide)),kee:=hc.heap h.kee (Xib n a (by decide)),room:=q,ar:=u (Xib o a (by decide)),vw:=r,th:=t (Xib p a (by simp)),mvs:=ho,mvc:=by show (s.mv.set k _).length≤_; rw [f]; exact h.mvc,mom:=by rw [Xkc,h.mom],mob:=fun j b m hm => ?_,mdj:=fun i j b m m' B g => ?_,ca:=v,ka:=y,low:=A}
 ·rcases Xkd hm with ⟨_,e,_⟩ | ⟨_,hm⟩
  ·obtain ⟨c,d,C,_⟩:=hx b m e;exact ⟨hc.heap c (Xib (Xh5 c) a (by decide)),d,C⟩
  ·obtain ⟨c,d⟩:=h.mob j b m hm;exact ⟨hc.heap c (Xib (Xh5 c) a (by decide)),d⟩
 ·rcases Xkd B with ⟨e1,e,_⟩ | ⟨_,gi⟩
  ·rcases Xkd g with ⟨e2,_,_⟩ | ⟨_,gj⟩
   ·exact e1.trans e2.symm
   ·exact absurd gj ((hx b m e).2.2.2 j m')
  ·rcases Xkd g with ⟨_,e,_⟩ | ⟨_,gj⟩
   ·exact absurd gi ((hx b m' e).2.2.2 i m)
   ·exact h.mdj i j b m m' gi gj
theorem Xbz.adopt (h:Xbz F Fr w S s by' mo) (hc:Chg XaW w w') {b:Nat} (hb:w.heap.size≤b) (hb':b<w'.heap.size):Xbz (fun z=>F z∨z=b) Fr w' S s by' mo:=by
 have g:=h.grow hc;obtain ⟨f,i,j,l,n,o⟩:=h.nF;have d:∀ z,(F z∨z=b)→F z∨w.heap.size≤z:=fun z a=>a.elim .inl (fun e => .inr (by omega));have c:=h.room;have hm:=XjT c.may;have p:=Xjs h.ar.obj;have q:=Xjs h.ar.cap;have r:=Xjs h.vw.obj;have t:=Xjs c.obj;have u:S.R.sb<w.heap.size:=by have:=World.block_lt_of_cell? w _ (c.sl 0 (by have:=hm.n; have:=c.ok.n; omega)); exact this
 have v:1<w.heap.size:=by have:=World.block_lt_of_cell? w _ (c.tab 0 (by decide)); exact this
 exact {g with
  th:=((h.th.wide d).far hc (fun _ h=>h.elim) id),
  mob:=fun k b' m hm=>by obtain ⟨x,y,z⟩:=g.mob k b' m hm; exact ⟨x,.inl y,z⟩,
  f1:=fun z a => .inl (h.f1 z a),f2:=⟨.inl h.f2.1,.inl h.f2.2.1,.inl h.f2.2.2.1,.inl h.f2.2.2.2.1,.inl h.f2.2.2.2.2⟩,
  nF:=⟨fun a=>a.elim f (by omega),fun a=>a.elim i (by omega),fun a=>a.elim j (by omega),fun a=>a.elim l (by omega),fun a=>a.elim n (by omega),fun a=>a.elim o (by omega)⟩,
  ca:=(h.ca.grow d).chg hc (fun _ h=>h.elim),ka:=(h.ka.grow d).chg hc (fun _ h=>h.elim),low:=fun z a=>a.elim (g.low z) (by omega)}
theorem Xbz.arena {T:Nat→Prop} (h:Xbz F Fr w S s by' mo) {bs:List Int} {t:Int} {mo2:Mo} (hc:Chg T w w') (hT:∀ z,T z→z=S.A.db∨z=S.mb ∨ ∃ (k:Nat),∃ m,mo[k]? = some (some (z,m)))
 (hd:w'.heap[S.A.db]? = some (.cells (bs.map (Value.int .u8)).toArray 5 (0,0))) (hl:bs.length=s.bs.length) (hb:InB bs) (hm:XaO w' S.mb t S.R.lap)
 (hfl:fl Xkx mo2=fl Xkx mo) (hml:mo2.length=mo.length) (hmo:∀ (k b:Nat) m,mo2[k]? = some (some (b,m))→w'.heap[b]? = some (.cells (Xkm S.A (Xkl b m) m.gone).toArray 258 (0,0)) ∧ ∃ m0,mo[k]? = some (some (b,m0))) :
 Xbz F Fr w' S {s with bs:=bs,rm:={s.rm with tot:=t},mv:=Xkb mo2} by' mo2:=by
 obtain ⟨r,u,o,v,y,A⟩:=h.kds;obtain ⟨B,C,D,M,N,O⟩:=h.nF;have c:∀ z,T z→F z:=fun z a=>by
  rcases hT z a with e | e | ⟨k,m,e⟩
  ·exact e▸h.f2.2.2.1
  ·exact e▸h.mb.1
  ·exact (h.mob k z m e).2.1
 have kT:∀ {z:Nat} {x:Option Nat},kd w z=some x→x≠some 5→x≠some 197→x≠some 258 → ¬ T z:=fun d E G H a=>by
  rcases hT _ a with e | e | ⟨k,m,e⟩
  ·subst e; rw [o] at d; exact E (Option.some.inj d).symm
  ·subst e; rw [A] at d; exact G (Option.some.inj d).symm
  ·have:=h.kdm e; rw [this] at d; exact H (Option.some.inj d).symm
 have p:=h.room.charge2 h.rmo hm hc fun z a=>by
  rcases hT z a with e | e | ⟨k,m,e⟩
  ·exact .inr (e▸h.ext' h.f2.2.2.1 h.nr.2.2.1 o (by decide))
  ·exact .inl e
  ·obtain ⟨_,n,f⟩:=h.mob k z m e;exact .inr (h.ext' n f (h.kdm e) (by decide))
 have g:(Xkb mo2).length=s.mv.length:=by unfold Xkb; rw [List.length_map,hml,h.mol]
 refine {h with
  obj:=by show w'.heap[S.sb]? = some (.cells (XrX S s.keep.length (Xkb mo2).length by').toArray _ _); rw [g]; exact hc.heap h.obj (kT r (by decide) (by decide) (by decide)),
  kee:=hc.heap h.kee (kT u (by decide) (by decide) (by decide)),room:=p,ar := ?_,vw := ?_,th:=h.th.far hc c (kT v (by simp) (by simp) (by simp)),
  mvs:=by rw [hfl]; exact hc.heap h.mvs (kT y (by decide) (by decide) (by decide)),mvc:=by show (Xkb mo2).length≤_; rw [g]; exact h.mvc,mom:=rfl,
  mob:=fun k b m q=>by obtain ⟨n,m0,f⟩:=hmo k b m q; exact ⟨n,(h.mob k b m0 f).2⟩,
  mdj:=fun i j b m m' I J=>by obtain ⟨_,m0,f⟩:=hmo i b m I; obtain ⟨_,K,L⟩:=hmo j b m' J; exact h.mdj i j b m0 K f L,
  ca:=h.ca.chg hc c,ka:=h.ka.chg hc c,low:=fun z a=>by have:=h.low z a; have:=hc.size; omega}
 ·refine ⟨?_,hd,hc.heap h.ar.cap (fun a=>C (c _ a)),fun b l => ?_,by show bs.length≤_; rw [hl]; exact h.ar.len,hb⟩
  ·have:=hc.heap h.ar.obj (fun a=>B (c _ a));show w'.heap[S.A.ab]? = some (.cells #[.slice (some ⟨S.A.db,0,none⟩) bs.length bs.length,XtK S.A] _ _)
   rw [hl]; exact this
  ·rw [h.amb] at l; cases l; exact hm
 ·refine ⟨hc.heap h.vw.obj (fun a=>D (c _ a)),?_,h.vw.may⟩;have:=h.vw.conf;rw [h.vc,h.vp] at this ⊢;exact ⟨(h.ca.chg hc c).1,(h.ka.chg hc c).1,this.lc,this.lk,this.size⟩
theorem Xbz.arena' (h:Xbz F Fr w S s by' mo) {bs:List Int} {n:Int} (hc:Chg (Xgh S.A) w w') (ha:Xag w' S.A ⟨bs,Xel s.rm.tot n,S.R.lap⟩) (hl:bs.length=s.bs.length):Xbz F Fr w' S (XeB {s with bs:=bs} n) by' mo:=by
 have:=h.arena (bs:=bs) (t:=Xel s.rm.tot n) (mo2:=mo) hc (fun z a=>a.elim .inl (fun e => .inr (.inl (by rw [h.amb] at e; exact (Option.some.inj e).symm)))) ha.dat hl ha.rng (ha.met _ h.amb) rfl rfl (fun k b m hm=>⟨?_,m,hm⟩)
 ·rw [h.mom] at this;exact this
 ·have kk:=h.kdm hm;obtain ⟨_,_,c,_,_,d⟩:=h.kds;refine hc.heap (h.mob k b m hm).1 ?_;rintro (e | e)
  ·exact Xib kk c (by decide) e
  ·rw [h.amb] at e; cases e; exact Xib kk d (by decide) rfl
theorem Xbz.roomed {Fr':Nat→Prop} {M:RmM} (h:Xbz F Fr w S s by' mo) (hr:Xbe Fr' w' S.R M) (hf:∀ z,Fr' z→Fr z∨w.heap.size≤z) (hc:Chg Fr w w'):Xbz (fun z=>F z∨Fr' z) Fr' w' S {s with rm:=M} by' mo:=by
 obtain ⟨l,n,o,A,B,C⟩:=h.nF;obtain ⟨D,E,G,H,I⟩:=h.lt;obtain ⟨p,q,r,t,u⟩:=h.nr;have f:∀ z,(F z∨Fr' z)→F z∨w.heap.size≤z:=fun z a=>a.elim .inl (fun e=>(hf z e).imp (h.f1 z) id);have c:∀ {z:Nat},¬ Fr z→z<w.heap.size → ¬ Fr' z:=fun j J a=>(hf _ a).elim j (by omega);have nf:∀ {z:Nat},¬ F z→z<w.heap.size → ¬ (F z∨Fr' z):=fun j J a=>(f _ a).elim j (by omega);have d:=h.room;have hm:=XjT d.may;have K:=Xjs h.ar.obj;have L:=Xjs h.ar.cap;have N:=Xjs h.vw.obj;have O:=Xjs d.obj;have P:S.R.sb<w.heap.size:=by have:=World.block_lt_of_cell? w _ (d.sl 0 (by have:=hm.n; have:=d.ok.n; omega)); exact this
 have Q:1<w.heap.size:=by have:=World.block_lt_of_cell? w _ (d.tab 0 (by decide)); exact this
 have g:=(h.ca.grow f).chg hc (fun z a => .inl (h.f1 z a));have i:=(h.ka.grow f).chg hc (fun z a => .inl (h.f1 z a));exact {h with
  obj:=hc.heap h.obj p,kee:=hc.heap h.kee q,room:=hr,
  ar:=⟨hc.heap h.ar.obj (fun a=>l (h.f1 _ a)),hc.heap h.ar.dat r,hc.heap h.ar.cap (fun a=>n (h.f1 _ a)),fun b v=>by rw [h.amb] at v; cases v; exact (hr.met _ h.rmo).2,h.ar.len,h.ar.rng⟩,
  vw:=⟨hc.heap h.vw.obj (fun a=>o (h.f1 _ a)),by
   have:=h.vw.conf;rw [h.vc,h.vp] at this ⊢;exact ⟨g.1,i.1,this.lc,this.lk,this.size⟩,h.vw.may⟩,
  th:=(h.th.wide f).far hc (fun z a => .inl (h.f1 z a)) t,mvs:=hc.heap h.mvs u,
  mob:=fun k b m hm=>by obtain ⟨x,y,z⟩:=h.mob k b m hm; exact ⟨hc.heap x z,.inl y,c z (h.low b y)⟩,
  f1:=fun z a => .inr a,f2:=⟨.inl h.f2.1,.inl h.f2.2.1,.inl h.f2.2.2.1,.inl h.f2.2.2.2.1,.inl h.f2.2.2.2.2⟩,
  nr:=⟨c p D,c q E,c r G,c t H,c u I⟩,
  nF:=⟨nf l K,nf n L,nf o N,nf A O,nf B P,nf C Q⟩,ca:=g,ka:=i,
  low:=fun z a=>a.elim (fun a=>by have:=h.low z a; have:=hc.size; omega) (hr.low z)}
end
def Xby (F:Nat→Prop) (w w':World) (S:Sto) (s:StM) (by':Int):Prop := ∃ F' Fr' mo',Xbz F' Fr' w' S s by' mo'∧(∀ z,F' z→F z∨w.heap.size≤z)∧Chg F w w'
section
variable {F Fr:Nat→Prop} {w w' w'':World} {S:Sto} {s:StM} {by':Int} {mo:Mo}
theorem Xby.of (h:Xbz F Fr w' S s by' mo) (hc:Chg F w w'):Xby F w w' S s by':=⟨F,Fr,mo,h,fun _ h => .inl h,hc⟩
theorem Xby.trans {F1:Nat→Prop} (hF:∀ z,F1 z→F z∨w.heap.size≤z) (hc:Chg F w w') (h:Xby F1 w' w'' S s by'):Xby F w w'' S s by':=by
 obtain ⟨g,d,e,a,b,c⟩:=h;refine ⟨g,d,e,a,fun z f => ?_,hc.since c fun z f i => ?_⟩
 ·rcases b z f with h | h
  ·exact hF z h
  ·have:=hc.size; exact .inr (by omega)
 ·rcases hF z i with h | h
  ·exact h
  ·omega
end
theorem Xtp (c:Conf) (q:Plc) (bs:List Int) (at' m k:Nat):Xto c q bs at' (m+k)=Xto c q bs at' m++Xto c q bs (at'+m) k:=by
 unfold Xto;rw [List.range_add,List.map_append,List.map_map]
 congr 1
 apply List.map_congr_left
 intro i _;simp only [Function.comp];rw [Nat.add_assoc]
theorem Xsz {bs:List Int} {x m:Nat} (h:x+m≤bs.length):sub bs x m=(List.range m).map fun i=>bs.getD (x+i) 0:=by
 apply List.ext_getElem
 ·rw [Xsy h]; simp
 ·intro i a b;rw [Xsy h] at a;simp only [List.getElem_map,List.getElem_range];have e:(sub bs x m)[i]? = some (bs.getD (x+i) 0):=by
   unfold sub;rw [List.getElem?_take,if_pos a,List.getElem?_drop,List.getElem?_eq_getElem (show x+i<bs.length by omega),List.getD_eq_getElem?_getD,List.getElem?_eq_getElem (show x+i<bs.length by omega)];rfl
  exact Option.some.inj ((List.getElem?_eq_getElem _).symm.trans e)
theorem Xuj {c:Conf} {q:Plc} {sz at' i:Nat} (hcl:q.cls = -1) (hsz:c.size=sz) (hi:at' % sz+i<sz):Xug c q (at'+i)=q.pages.getD (at' / sz) 0*c.size+((at' % sz:Nat):Int)+i:=by
 unfold Xug;rw [if_pos hcl,show c.size.toNat=sz from by omega];have a:(at'+i) / sz=at' / sz:=by
  have d:=Nat.div_add_mod at' sz;apply Nat.div_eq_of_lt_le
  ·rw [Nat.mul_comm]; omega
  ·rw [Nat.add_mul,Nat.one_mul,Nat.mul_comm]; omega
 have hm:(at'+i) % sz=at' % sz+i:=by
  have e:=Nat.div_add_mod at' sz;have b:=Nat.div_add_mod (at'+i) sz;rw [a] at b;omega
 rw [a,hm];omega
theorem XnK {c:Conf} {q:Plc} {bs:List Int} {sz:Nat} (hcl:q.cls = -1) (hsz:c.size=sz) (hp:1≤sz):∀ (n at':Nat),(∀ i,i<n→0≤Xug c q (at'+i)∧Xug c q (at'+i)<bs.length) →
 XnI bs ((Xrj at' n sz).map fun s=>(q.pages.getD s.1 0*c.size+s.2.1,(s.2.2:Int)))=Xto c q bs at' n:=by
 intro n
 induction n using Nat.strongRecOn with
 |_ n ih =>
  intro at' b;by_cases o:n=0
  ·subst o; rfl
  ·have d:=Xg8 (at':=at') hp (show 0<n by omega);have p:=Nat.mod_lt at' (show 0<sz by omega);rw [Xrk hp (by omega),List.map_cons];obtain ⟨m,hm⟩:∃ m,m=min n (sz - at' % sz):=⟨_,rfl⟩;have h:Xg7 at' n sz=(at' / sz,at' % sz,m):=by unfold Xg7; rw [hm]
   rw [h,← hm];rw [← hm] at d;have j:=b 0 (by omega);have a:=b (m - 1) (by omega);rw [Xuj hcl hsz (by omega)] at j a;obtain ⟨x,e⟩:=Int.eq_ofNat_of_zero_le (show 0≤q.pages.getD (at' / sz) 0*c.size+((at' % sz:Nat):Int) by omega);rw [e] at a;have f:sub bs x m=Xto c q bs at' m:=by
    rw [Xsz (by omega)];unfold Xto;apply List.map_congr_left
    intro i k;rw [List.mem_range] at k;rw [Xuj hcl hsz (by omega),e]
    congr 1
   have g:=ih (n - m) (by omega) (at'+m) (fun i k=>by rw [Nat.add_assoc]; exact b (m+i) (by omega));have l:n=m+(n - m):=by omega
   conv=>rhs; rw [l]
   rw [Xtp,← f,← g];unfold XnI;rw [List.flatMap_cons];simp only
   rw [e];rfl
theorem XnL {c:Conf} {q:Plc} {bs:List Int} {at' n:Nat} (hm:XjN c=true) (hck:Xer c q at' n=0) (hlen:(bs.length:Int)=c.size*c.pages):XnI bs (Xl1 c q at' n)=Xto c q bs at' n:=by
 obtain ⟨m,o,p⟩:=XjP hm;obtain ⟨e,_,_,l⟩:=Xev hck;have d:∀ i,i<n→0≤Xug c q (at'+i)∧Xug c q (at'+i)<bs.length:=fun i r=>by
  have:=Xui (i:=at'+i) hm e (by omega);omega
 unfold Xl1;by_cases a:q.cls = -1
 ·rw [if_pos a];obtain ⟨sz,f⟩:=Int.eq_ofNat_of_zero_le (show 0≤c.size by omega);rw [show c.size.toNat=sz from by omega];exact XnK a f (by omega) n at' d
 ·rw [if_neg a];unfold XnI;simp only [List.flatMap_cons,List.flatMap_nil,List.append_nil,Int.toNat_natCast];by_cases h:n=0
  ·subst h; simp [sub,Xto]
  ·have j:=d 0 (by omega);have k:=d (n - 1) (by omega);have b:∀ i,Xug c q (at'+i)=XtM c q+at'+i:=fun i=>by unfold Xug; rw [if_neg a]; omega
   rw [b] at j k;obtain ⟨x,g⟩:=Int.eq_ofNat_of_zero_le (show 0≤XtM c q+(at':Int) by omega);rw [g,Int.toNat_natCast,Xsz (by omega)];unfold Xto;apply List.map_congr_left
   intro i _;rw [b,g]
   congr 1
end Go.Proofs.YtgddpaiandefgaaGreatDoor
