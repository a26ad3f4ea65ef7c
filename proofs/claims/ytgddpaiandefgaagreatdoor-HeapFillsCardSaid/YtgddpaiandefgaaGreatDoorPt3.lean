/-
  Texts put together: RmPlan, Arena, Arena2, View, View2, Chain, Chain2, View3, View4, Arena3, View5, View6, View7, View8, Laws21, Ref6, Few, Ref21, Ref21b, Ref21d, Cut16, Ref21e, Ref21f, Ref21g, Ref21h, Ref21i, Laws6b, Move, Move2, Lap, Laws15, Ref6b, Ref6c, Use, Use2, Laws6d, Act, Ref15, Laws15c, Stm, StOk, StOk2, StOk3, Room7, View9.
-/
import Derived.Test.YtgddpaiandefgaaGreatDoorPt2
import Derived.Test.YtgddpaiandefgaaGreatDoorQRule7
import Derived.Test.YtgddpaiandefgaaGreatDoorQRule11
import Derived.Test.YtgddpaiandefgaaGreatDoorQPost
import Derived.Lib.SliceRun
import Derived.Test.YtgddpaiandefgaaGreatDoorQRule12
import Derived.Test.YtgddpaiandefgaaGreatDoorQRule8
import Derived.Test.YtgddpaiandefgaaGreatDoorQRule9
set_option linter.unusedVariables false
set_option maxRecDepth 100000
namespace Go.Proofs.YtgddpaiandefgaaGreatDoor
open Go.RowKit
def Xrp (x:Sm):Int × Int × Int × Int:=if 2≤x.opn.length then (Xi3 (-1) x.opn,Xnx ((Xsi x.pg (Xi3 (-1) x.opn)).getD []),Xhx x.opn,Xni ((Xsi x.pg (Xhx x.opn)).getD [])) else (0,0,0,0)
def Xp5 (M:RmM) (k:Int):Int × Int × Int × Int:=match XpC M k with | none=>(0,0,0,0) | some x=>Xrp x
theorem Xp4 (M:RmM) (k:Int):Xp3 M k=Xn8 (Xp5 M k).1 (Xp5 M k).2.1 (Xp5 M k).2.2.1 (Xp5 M k).2.2.2:=by
 unfold Xp3 Xp5;cases XpC M k with
 |none=>rfl
 |some x =>
  show Xro x=Xn8 (Xrp x).1 (Xrp x).2.1 (Xrp x).2.2.1 (Xrp x).2.2.2
  unfold Xro Xrp;split <;> rfl
structure Xa7 (M:RmM) (k:Nat):Prop where
 own:XpS M k (Xp5 M k).1 (Xp5 M k).2.1 ≠ -1
 e:∀ who:Int,0≤who→Xqc M k who=0
 n:∀ who:Int,0≤who→Xqd M k who=(Xp5 M k).2.2.1
 a:∀ who:Int,0≤who→Xqb M k who=(Xp5 M k).2.2.2
 ne:(Xp5 M k).1≠(Xp5 M k).2.2.1
theorem Xoa {c:Conf} {M:RmM} (h:Xbg c M) {k:Nat} (hB:Xp2 M k=true):Xa7 M k:=by
 unfold Xp2 at hB;cases l:XpC M k with
 |none=>rw [l] at hB; exact absurd hB (by decide)
 |some x =>
  rw [l] at hB;have d:=of_decide_eq_true hB;obtain ⟨j,P,O,z⟩:=XpI l;obtain rfl:k=j:=by omega
  obtain ⟨xo,xf⟩:=h.mok.sh k x z;have A:=h.pos k x z;obtain ⟨f,D,E,l',u⟩:=(Xi6 (-1) x.opn).resolve_left (fun e=>by rw [e.1] at d; simp at d);obtain ⟨t,r,m⟩:∃ t r,x.opn=t::r:=by
   cases g:x.opn with
   |nil=>rw [g] at d; simp at d
   |cons t r=>exact ⟨t,r,rfl⟩
  obtain ⟨p,B⟩:=xo.osub f D;obtain ⟨F,v⟩:=xo.osub t (by rw [m]; simp);have q:Xp5 M k=(((f:Nat):Int),Xnx p,((t:Nat):Int),Xni F):=by
   unfold Xp5;rw [l];show Xrp x=_
   unfold Xrp;rw [if_pos d,E,m];show ((f:Int),Xnx ((Xsi x.pg f).getD []),(t:Int),Xni ((Xsi x.pg t).getD []))=_
   rw [Xsm xo.nodup B,Xsm xo.nodup v];rfl
  have G:∀ who:Int,0≤who→Xrt x M.pl who=0:=fun who a=>by unfold Xrt; rw [if_neg (by omega),if_neg (by omega)]
  have H:∀ who:Int,0≤who→Xru x M.pl who=t∧Xrs x M.pl who=Xni F:=fun who a=>by
   rcases Xrw x M.pl who with ⟨w,_⟩ | ⟨_,_,⟨n,r',g,_,_,C,J,I⟩ | ⟨n,r',g,_⟩⟩
   ·exact absurd (G who a) w
   ·rw [m] at g;obtain ⟨e1,_⟩:=List.cons.inj g;subst e1;rw [Xsm xo.nodup v] at C;simp only [Option.getD_some] at C;rw [C] at I;exact ⟨J,I⟩
   ·rw [m] at g; cases g
  have w:f≠t:=fun e=>by
   have y:=xo.onodup;rw [u] at y d;have K:=u.symm.trans m;cases l' with
   |nil=>simp at d
   |cons b s =>
    obtain ⟨e1,_⟩:=List.cons.inj K;obtain ⟨_,_,L⟩:=List.nodup_append.1 y;exact L b (by simp) f (by simp) (e1.trans e.symm)
  have o:=l;refine ⟨?_,fun who a=>by unfold Xqc; rw [o]; exact G who a,fun who a=>by unfold Xqd; rw [o,q]; exact (H who a).1,fun who a=>by unfold Xqb; rw [o,q]; exact (H who a).2,by rw [q]; simp only; omega⟩;rw [q,XpT z];simp only
  obtain ⟨i,N,e1,e2⟩:=Xny (A _ B);simp only at N e1 e2
  unfold Xrk;rw [Xsm xo.nodup B];simp only
  rw [e1];unfold Xnk;rw [if_pos (by omega),Int.toNat_natCast];exact e2
structure Ar where
 ab:Nat
 db:Nat
 mc:Nat
 mb:Option Nat
structure ArV where
 bs:List Int
 total:Int
 lap:Int
abbrev Xvx (A:Ar):Value := .func (.func 145) #[] #[.pointer (some ⟨A.mc,0,none⟩)]
structure Xag (w:World) (A:Ar) (V:ArV):Prop where
 obj:w.heap[A.ab]? = some (.cells #[.slice (some ⟨A.db,0,none⟩) V.bs.length V.bs.length,Xvx A] 199 (0,0))
 dat:w.heap[A.db]? = some (.cells (V.bs.map (Value.int .u8)).toArray 5 (0,0))
 cap:w.heap[A.mc]? = some (.cells #[ptr A.mb] 127 (0,0))
 met:∀ b,A.mb=some b→XaO w b V.total V.lap
 len:V.bs.length≤4194304
 rng:∀ x ∈ V.bs,0≤x∧x<256
theorem XdO {w:World} {a b t t':Nat} {c c':Array Value} {f f':Nat × Nat} (h:w.heap[a]? = some (.cells c t f)) (h':w.heap[b]? = some (.cells c' t' f')) (ht:t≠t'):a≠b:=by
 intro e; subst e; rw [h] at h'; cases h'; exact ht rfl
def Xkx (A:Ar):Nat→Prop:=fun b=>A.mb=some b
def XgK (A:Ar):Nat→Prop:=fun b=>b=A.db∨A.mb=some b
def ArV.charge (V:ArV) (A:Ar) (n:Int):ArV:=match A.mb with
 |none=>V
 |some _=>{V with total:=XeA V.total n}
theorem ArV.charge_bs (V:ArV) (A:Ar) (n:Int):(V.charge A n).bs=V.bs:=by unfold ArV.charge; split <;> rfl
theorem ArV.charge_lap (V:ArV) (A:Ar) (n:Int):(V.charge A n).lap=V.lap:=by unfold ArV.charge; split <;> rfl
theorem Xag.chg {w w':World} {A:Ar} {V:ArV} {S:Nat→Prop} (h:Xag w A V) (hc:Chg S w w') (hs:∀ b,b=A.ab∨b=A.db∨b=A.mc∨A.mb=some b → ¬ S b):Xag w' A V :=
 ⟨hc.heap h.obj (hs _ (.inl rfl)),hc.heap h.dat (hs _ (.inr (.inl rfl))),hc.heap h.cap (hs _ (.inr (.inr (.inl rfl)))),fun b a=>⟨hc.heap (h.met b a).1 (hs _ (.inr (.inr (.inr a)))),(h.met b a).2⟩,h.len,h.rng⟩
theorem Xag.grow {w w':World} {A:Ar} {V:ArV} (h:Xag w A V) (hc:Chg XaX w w'):Xag w' A V:=h.chg hc fun _ _ h=>h
theorem Xag.metered {w w':World} {A:Ar} {V:ArV} {b:Nat} {t:Int} (h:Xag w A V) (hb:A.mb=some b) (hm:XaO w' b t V.lap) (hc:Chg (fun x=>x=b) w w'):Xag w' A {V with total:=t}:=by
 have c:=(h.met b hb).1;refine ⟨hc.heap h.obj (fun e=>XdO h.obj c (by decide) e),hc.heap h.dat (fun e=>XdO h.dat c (by decide) e),hc.heap h.cap (fun e=>XdO h.cap c (by decide) e),fun b' a => ?_,h.len,h.rng⟩;rw [hb] at a; cases a; exact hm
abbrev XsF (A:Ar) (N at' n:Nat):Value := .slice (XrR (some ⟨A.db,0,none⟩) N at' 1) n (N - at')
theorem XcO (A:Ar) (V:ArV) (i n:Nat) (w:World) (h:Xag w A V) (ht:i+n≤V.bs.length):Xan Tryz.prog 292 #[.pointer (some ⟨A.ab,0,none⟩),.int .i64 i,.int .i64 n] w (Xbs (.tuple #[XsF A V.bs.length i n,.int .i64 0]) w):=by
 have a:=h.len;exact ζe Tryz.func292 Tryz.ntmps292 rfl (ζf rfl (ζf rfl (ζl h.obj rfl (ζf rfl (ζl h.obj rfl (ζj rfl (ζf rfl (ζl h.obj rfl (ζj rfl (Xay.slice hTT rfl (l:=i) (h:=(i+n)) (by first | rfl | omega | simp [loV]) (by first | rfl | omega | simp [hiV]) (by omega) (by omega) rfl (ζr Tryz.func292 rfl ⟨by rw [show i+n - i=n from by omega],rfl⟩)))))))))))
theorem XcQ (A:Ar) (V:ArV) (n:Int) (w:World) (h:Xag w A V):Xan Tryz.prog 145 #[.int .i64 n,.pointer (some ⟨A.mc,0,none⟩)] w (fun _ w'=>Xag w' A (V.charge A n)∧Chg (Xkx A) w w'):=by
 have c:=h.cap;cases a:A.mb with
 |none =>
  rw [a] at c;refine ζe Tryz.func145 Tryz.ntmps145 rfl (ζl c rfl (ζc rfl (XkU n w) ?_));rintro _ f rfl;refine ζa rfl ?_;have e:V.charge A n=V:=by unfold ArV.charge; rw [a]
  exact ζr Tryz.func145 rfl ⟨by rw [e]; exact h,Chg.refl _ _⟩
 |some b =>
  rw [a] at c;refine ζe Tryz.func145 Tryz.ntmps145 rfl (ζl c rfl (ζc rfl (XkT b V.total V.lap n w (h.met b a)) ?_));rintro _ f ⟨hm,d⟩;refine ζa rfl ?_;have e:V.charge A n={V with total:=XeA V.total n}:=by unfold ArV.charge; rw [a]
  exact ζr Tryz.func145 rfl ⟨by rw [e]; exact h.metered a hm d,d.mono (fun x _ g=>by unfold Xkx; rw [g]; exact a)⟩
theorem XcM (A:Ar) (V:ArV) (i n:Nat) (w:World) (h:Xag w A V) (ht:i+n≤V.bs.length):Xan Tryz.prog 250 #[.pointer (some ⟨A.ab,0,none⟩),.int .i64 i,.int .i64 n] w (fun v w'=>v = .tuple #[XsF A V.bs.length i n,.int .i64 0]∧Xag w' A (V.charge A n)∧Chg (Xkx A) w w'):=by
 refine ζe Tryz.func250 Tryz.ntmps250 rfl (ζw (XcO A V i n w h ht) rfl (ζy rfl (ζl h.obj rfl (ζc rfl (XcQ A V n w h) ?_))));rintro _ c ⟨a,b⟩;exact ζa rfl (ζr Tryz.func250 rfl ⟨rfl,a,b⟩)
theorem XcI (A:Ar) (V:ArV) (w:World) (h:Xag w A V):Xan Tryz.prog 150 #[.pointer (some ⟨A.ab,0,none⟩)] w (Xbs (.int .i64 V.bs.length) w):=by
 exact ζe Tryz.func150 Tryz.ntmps150 rfl (ζl h.obj rfl (ζr Tryz.func150 rfl ⟨rfl,rfl⟩))
def XcE (p s:Int):Bool:=decide (1≤p) && decide (p≤1024) && decide (64≤s) && decide (s≤4096) && (s % 8 == 0)
theorem XcF {p s:Int}:XcE p s=true↔1≤p∧p≤1024∧64≤s∧s≤4096∧s % 8=0:=by unfold XcE; simp [and_assoc]
def XwU (n:Nat):List Int:=List.replicate n 0
theorem XwQ:∀ n,XwJ [Value.int .u8 0] n=(XwU n).map (Value.int .u8)
 |0=>rfl
 |n+1=>by rw [XwJ,XwQ n]; simp [XwU,List.replicate_succ]
theorem XcJ (mb:Option Nat) (total lap:Int) (p s:Int) (w:World) (hm:∀ b,mb=some b→XaO w b total lap) (ht:XcE p s=true):Xan Tryz.prog 87 #[.int .i64 p,.int .i64 s,ptr mb] w
 (fun v w' => ∃ A:Ar,v = .tuple #[.pointer (some ⟨A.ab,0,none⟩),.int .i64 0]∧A.mb=mb∧w.heap.size≤A.ab∧w.heap.size≤A.db∧w.heap.size≤A.mc∧Xag w' A ⟨XwU (p*s).toNat,total,lap⟩∧Chg XaX w w'):=by
 have g:=XcF.1 ht;have y:0≤p*s:=Int.mul_nonneg (by omega) (by omega);have z:p*s≤1024*4096:=Int.mul_le_mul (by omega) (by omega) (by omega) (by omega);refine Xan.enter Tryz.func87 rfl Tryz.ntmps87 rfl rfl ?_;refine ζa rfl ?_;refine Xay.alloc hTT rfl ?_;intro mc B e1 i f r;refine ζa rfl ?_;refine Xay.no hTT rfl (decide_eq_false (by omega)) rfl ?_;refine Xay.no hTT rfl (decide_eq_false (by omega)) rfl ?_;refine Xay.no hTT rfl (decide_eq_false (by omega)) rfl ?_;refine Xay.no hTT rfl (decide_eq_false (by omega)) rfl ?_;refine Xay.div hTT rfl (by omega) (Xo9 (by omega)) rfl ?_;refine Xay.no hTT rfl (by simp; omega) rfl ?_;refine Xay.arith hTT rfl (w64 (by omega)) rfl ?_;refine Xay.make hTT (m:=(p*s).toNat) (k:=(p*s).toNat) rfl (by omega) (by omega) (Nat.le_refl _) (by simp only; omega) (by omega) ?_;intro db C e2 h d t;refine ζa rfl ?_;refine Xay.build hTT rfl rfl ?_;refine Xay.alloc hTT rfl ?_;intro ab n e3 e c u;refine ζa rfl ?_;have o:(XwJ (Xen (Value.int .u8 0)) (p*s).toNat)=(XwU (p*s).toNat).map (Value.int .u8):=XwQ _;rw [o] at h;have a:(XwU (p*s).toNat).length=(p*s).toNat:=List.length_replicate;rw [← a] at e;have j:Xag n ⟨ab,db,mc,mb⟩ ⟨XwU (p*s).toNat,total,lap⟩ :=
  ⟨e,c.heap' h,c.heap' (d.heap' i),fun b l=>⟨c.heap' (d.heap' (f.heap' (hm b l).1)),(hm b l).2⟩,by rw [a]; omega,fun x q=>by rw [List.eq_of_mem_replicate q]; omega⟩
 rw [a] at e;exact Xay.ret2 hTT rfl Tryz.func87 rfl rfl rfl ⟨⟨ab,db,mc,mb⟩,rfl,rfl,by simp only; omega,by simp only; omega,by simp only; omega,j,(f.trans d).trans c⟩
theorem Rd.metered {w w':World} {A:Ar} {V:ArV} {a:Option Addr} {l:List Int} (hr:Rd .u8 w a l) (h:Xag w A V) (hc:Chg (Xkx A) w w'):Rd .u8 w' a l:=fun i g=>by
 obtain ⟨b,off,e,c⟩:=hr i g;refine ⟨b,off,e,?_⟩;have d:¬ Xkx A b:=fun j=>by
  have m:=(h.met b j).1;rw [Xel m] at c
  match hj:off+i,c with
  |0,c=>simp at c
  |1,c=>simp at c
  |k+2,c=>simp at c
 have f:=World.block_lt_of_cell? w _ c;rw [← c];simp only [World.cell?,hc.block b f d]
def wrB (bs:List Int) (i:Nat) (l:List Int):List Int:=bs.take i++l++bs.drop (i+l.length)
theorem Xwp {bs:List Int} {i:Nat} {l:List Int} (h:i+l.length≤bs.length):(wrB bs i l).length=bs.length:=by unfold wrB; simp; omega
theorem Xwq {bs:List Int} {i:Nat} {l:List Int} {x:Int} (h:x ∈ wrB bs i l):x ∈ bs∨x ∈ l:=by
 unfold wrB at h;simp only [List.mem_append] at h;rcases h with (h | h) | h
 ·exact .inl (List.mem_of_mem_take h)
 ·exact .inr h
 ·exact .inl (List.mem_of_mem_drop h)
theorem Xwr {bs:List Int} {i:Nat}:wrB bs i []=bs:=by unfold wrB; simp
def InB (l:List Int):Prop := ∀ x ∈ l,0≤x∧x<256
theorem Xag.laid {w w':World} {A:Ar} {V:ArV} {bs:List Int} (h:Xag w A V) (hd:w'.heap[A.db]? = some (.cells (bs.map (Value.int .u8)).toArray 5 (0,0))) (hc:Chg (fun b=>b=A.db) w w') (hl:bs.length=V.bs.length) (hr:InB bs):Xag w' A {V with bs:=bs} :=
 ⟨by rw [hl]; exact hc.heap h.obj (fun e=>XdO h.obj h.dat (by decide) e),hd,hc.heap h.cap (fun e=>XdO h.cap h.dat (by decide) e),fun b a=>⟨hc.heap (h.met b a).1 (fun e=>XdO (h.met b a).1 h.dat (by decide) e),(h.met b a).2⟩,by rw [hl]; exact h.len,hr⟩
theorem XsG {A:Ar} {N i n:Nat} (h:i+n≤N) (hn:0<n):XrR (some ⟨A.db,0,none⟩) N i 1=some ⟨A.db,i,none⟩:=by
 unfold XrR;rw [if_neg (by omega),Option.map_some,XbV]
 simp
theorem XcN (A:Ar) (V:ArV) (i n:Nat) (w:World) (h:Xag w A V) (ht:i+n≤V.bs.length):Xan Tryz.prog 250 #[.pointer (some ⟨A.ab,0,none⟩),.int .i64 i,.int .i64 n] w
 (fun v w' => ∃ x,v = .tuple #[.slice x n (V.bs.length - i),.int .i64 0]∧(0<n→x=some ⟨A.db,i,none⟩)∧x.isSome=true∧Xag w' A (V.charge A n)∧Chg (Xkx A) w w') :=
 (XcM A V i n w h ht).mono fun _ _ ⟨a,b,c⟩=>⟨_,a,fun d=>XsG ht d,by unfold XrR; split <;> rfl,b,c⟩
theorem XcL (A:Ar) (V:ArV) (i:Nat) (a:Option Addr) (cap:Nat) (l:List Int) (w:World) (h:Xag w A V) (hr:Rd .u8 w a l) (hb:InB l) (ht:i+l.length≤V.bs.length) :
 Xan Tryz.prog 196 #[.pointer (some ⟨A.ab,0,none⟩),.int .i64 i,.slice a l.length cap] w (fun v w'=>v = .int .i64 0∧Xag w' A {V.charge A l.length with bs:=wrB V.bs i l}∧Chg (XgK A) w w'):=by
 refine Xan.enter Tryz.func196 rfl Tryz.ntmps196 rfl rfl ?_;refine ζa rfl ?_;refine ζc rfl (XcN A V i l.length w h ht) ?_;rintro _ s ⟨x,rfl,j,_,k,o⟩;refine ζa rfl ?_;have c:Chg (XgK A) w s:=o.mono fun b _ hb => .inr hb;have e1:=V.charge_bs A l.length;by_cases p:l.length=0
 ·refine Xay.copy0 hTT rfl (by simp [p]) rfl ?_;have m:l = []:=List.eq_nil_of_length_eq_zero p;subst m;exact Xay.ret1 hTT rfl Tryz.func196 rfl rfl ⟨rfl,by rw [Xwr,← V.charge_bs A 0]; exact k,c⟩
 ·have q:=j (by omega);subst q;have r:=hr.metered h o;have t:∃ aa,a=some aa:=by obtain ⟨b,off,e,_⟩:=hr 0 (by omega); exact ⟨_,e⟩
  obtain ⟨aa,rfl⟩:=t;have d:=k.dat;rw [e1] at d;refine Xay.copy hTT rfl d (cs:=l.map (Value.int .u8)) (by simp) r.cells (by simp; omega) Xn7 ?_;intro z f g y;refine ζa rfl ?_;have n:(V.bs.map (Value.int .u8)).take i++l.map (Value.int .u8)++(V.bs.map (Value.int .u8)).drop (i+(l.map (Value.int .u8)).length)=(wrB V.bs i l).map (Value.int .u8):=by
   unfold wrB; simp [List.map_take,List.map_drop]
  rw [n] at f;have u:=k.laid f g (by rw [Xwp ht,e1]) (fun x j=>(Xwq j).elim (h.rng x) (hb x));exact Xay.ret1 hTT rfl Tryz.func196 rfl rfl ⟨rfl,u,c.trans (g.mono fun b _ hb => .inl hb)⟩
def Xa1 (base:Nat) (w:World) (v:Value) (l:List Int):Prop := ∃ g cap cur,v = .slice (some ⟨g,0,none⟩) l.length cap∧base≤g∧w.heap[g]? = some (.cells cur 5 (0,0))∧l.length≤cap∧cur.toList.take l.length=l.map (Value.int .u8)
theorem Xr5 (aa:Addr) (cap:Nat) (l:List Int) (w:World) (hr:Rd .u8 w (some aa) l) (hl:l.length≤4194304):Xan Tryz.prog 251 #[.slice (some aa) l.length cap] w (fun v w'=>Xa1 w.heap.size w' v l∧Chg XaX w w'):=by
 have p:maxLen=9223372036854775807:=rfl;refine Xan.enter Tryz.func251 rfl Tryz.ntmps251 rfl rfl ?_;refine ζa rfl ?_;refine Xay.no hTT rfl rfl rfl ?_;refine Xay.buildSlice hTT rfl ?_;intro b i e1 j a q;refine ζa rfl ?_;have c:Own w.heap.size 5 1 i (.slice (some ⟨b,0,none⟩) 0 0) 0 []:=Own.empty (by omega) j;refine Xay.append (base:=w.heap.size) (xs := []) (news:=l.map (Value.int .u8)) hTT rfl c a.size (by simp) (hr.chg a).cells Xn7 (by simp only; omega) ?_;intro r s d e f;refine ζa rfl ?_;have h:=c.since a (Nat.le_refl _) e;rcases d.2 with ⟨k,_⟩ | ⟨g,cap',cur,rfl,m,n,t,_,_,o⟩
 ·exact absurd (f.1.1 k).1 (by simp)
 ·exact Xay.ret1 hTT rfl Tryz.func251 rfl rfl ⟨⟨g,cap',cur,by simp,m,n,by omega,by simpa using o⟩,h⟩
def sub (bs:List Int) (i n:Nat):List Int:=(bs.drop i).take n
theorem Xue {bs:List Int} {i n:Nat} (h:i+n≤bs.length):(sub bs i n).length=n:=by unfold sub; simp; omega
theorem Xag.sub {w:World} {A:Ar} {V:ArV} {x:Option Addr} {i n:Nat} (h:Xag w A V) (hx:0<n→x=some ⟨A.db,i,none⟩) (ht:i+n≤V.bs.length):Rd .u8 w x (sub V.bs i n):=fun j a=>by
 rw [Xue ht] at a;refine ⟨A.db,i,hx (by omega),?_⟩;rw [Xel h.dat];have:(Go.Proofs.YtgddpaiandefgaaGreatDoor.sub V.bs i n).getD j 0=V.bs[i+j]'(by omega):=by unfold Go.Proofs.YtgddpaiandefgaaGreatDoor.sub; simp [List.getD,a,show i+j<V.bs.length from by omega]
 rw [this];simp [show i+j<V.bs.length from by omega]
theorem XcK (A:Ar) (V:ArV) (i n:Nat) (w:World) (h:Xag w A V) (ht:i+n≤V.bs.length) :
 Xan Tryz.prog 194 #[.pointer (some ⟨A.ab,0,none⟩),.int .i64 i,.int .i64 n] w (fun v w' => ∃ v',v = .tuple #[v',.int .i64 0]∧Xa1 w.heap.size w' v' (sub V.bs i n)∧Xag w' A (V.charge A n)∧Chg (Xkx A) w w'):=by
 have q:=h.len;refine ζe Tryz.func194 Tryz.ntmps194 rfl (ζc rfl (XcN A V i n w h ht) ?_);rintro _ j ⟨x,rfl,k,l,e,b⟩;refine ζa rfl ?_;obtain ⟨aa,rfl⟩:=Option.isSome_iff_exists.1 l;have e1:=V.charge_bs A n;have f:=e.sub (i:=i) (n:=n) k (by rw [e1]; exact ht);rw [e1] at f;have c:=Xr5 aa (V.bs.length - i) (sub V.bs i n) j f (by rw [Xue ht]; omega);rw [Xue ht] at c;refine ζc rfl (c) ?_;rintro m r ⟨o,d⟩;refine ζa rfl ?_;obtain ⟨g,cap,cur,p,s,a⟩:=o;exact ζr Tryz.func194 rfl ⟨m,rfl,⟨g,cap,cur,p,by have:=b.size; omega,a⟩,e.grow d,b.trans (d.mono fun _ _ h=>h.elim)⟩
theorem Xws {z:Int} (h:0≤z∧z<18446744073709551616):IntKind.u64.wrap z=z:=by
 simp only [IntKind.wrap,IntKind.signed,IntKind.bits]
 first | omega | (simp; omega)
def inT (n top:Int):Bool:=decide (0≤n) && decide (n<top)
theorem Xiw {n top:Int}:inT n top=true↔0≤n∧n<top:=by unfold inT; simp
def XvE (c:Conf) (q:Plc):Bool :=
 if q.cls = -1 then decide (0<q.pages.length) && !q.pages.any (fun n => !inT n c.pages)
 else inT q.cls c.classes.length && inT q.page c.pages && inT q.idx (XdS c q.cls)
def Xfb (c:Conf) (k:Int):Int:=c.classes.getD k.toNat 0
def XvB (c:Conf) (q:Plc):Int:=if XvE c q then (if q.cls = -1 then q.pages.length*c.size else Xfb c q.cls) else 0
def XvA (c:Conf) (q:Plc):Int:=if XvE c q=true∧q.cls ≠ -1 then q.page*c.size+q.idx*Xfb c q.cls else -1
structure Vw where
 vb:Nat
 c:Conf
 p:Xal
 ab:Nat
 mb:Option Nat
def vwL (v:Vw):List Value:=Xfl v.c v.p ++ [.pointer (some ⟨v.ab,0,none⟩),ptr v.mb]
abbrev vwV (v:Vw):Value := .pointer (some ⟨v.vb,0,none⟩)
structure XbS (w:World) (v:Vw):Prop where
 obj:w.heap[v.vb]? = some (.cells (vwL v).toArray 211 (0,0))
 conf:Xam w v.c v.p
 may:XkH v.c=true
theorem XbS.grow {w w':World} {v:Vw} (h:XbS w v) (hc:Chg XaX w w'):XbS w' v:=⟨hc.heap' h.obj,h.conf.chg hc,h.may⟩
theorem XvU (n top:Int) (w:World):Xan Tryz.prog 267 #[.int .i64 n,.int .i64 top] w (Xbs (.bool (inT n top)) w):=by
 refine ζe Tryz.func267 Tryz.ntmps267 rfl (ζg rfl (fun h => ?_) fun h => ?_)
 ·have g:=of_decide_eq_true h;exact ζr Tryz.func267 rfl ⟨XdW (by unfold inT; rw [decide_eq_true g]; rfl),rfl⟩
 ·have g:=of_decide_eq_false h;exact ζr Tryz.func267 rfl ⟨XdW (by unfold inT; rw [decide_eq_false g]; rfl),rfl⟩
abbrev Xox (w:World) (b:Nat) (v:Vw):Prop:=w.heap[b]? = some (.cells ([vwV v]:List Value).toArray 133 (0,0))
theorem XvR (v:Vw) (b:Nat) (x:Int) (w:World) (h:XbS w v) (hb:Xox w b v):Xan Tryz.prog 266 #[.int .i64 x,.pointer (some ⟨b,0,none⟩)] w (Xbs (.bool (!inT x v.c.pages)) w):=by
 exact ζe Tryz.func266 Tryz.ntmps266 rfl (ζl hb rfl (ζl h.obj rfl (ζw (XvU x v.c.pages w) rfl (ζr Tryz.func266 rfl ⟨rfl,rfl⟩))))
theorem XvQ (v:Vw) (q:Plc) (w:World) (h:XbS w v) (hq:Xa8 w q):Xan Tryz.prog 222 #[vwV v,.agg (Xoc q).toArray] w (Grow (.bool (XvE v.c q)) w):=by
 have k:=hq.len;refine ζe Tryz.func222 Tryz.ntmps222 rfl (ζn rfl fun vb C e1 s t A=>ζn rfl fun qb o e2 b m B => ?_);have f:=t.trans m;have d:=h.grow f;have c:=m.heap' s;have l:=hq.grow f;obtain ⟨cls,page,idx,pa,pc,pages⟩:=q;replace b:o.heap[qb]? = some (.cells ([.int .i64 cls,.int .i64 page,.int .i64 idx,.slice pa pages.length pc]:List Value).toArray 98 (0,0)):=b;replace l:=l.rd;replace k:pages.length≤9223372036854775807:=k;refine Xay.loadb hTT rfl c rfl rfl ?_;refine Xay.loadb hTT rfl b rfl rfl ?_;refine Xay.fork hTT rfl rfl rfl (fun i => ?_) (fun i => ?_)
 ·have g:cls = -1:=by simpa using i
  refine Xay.loadb hTT rfl b rfl rfl ?_;by_cases u:0<pages.length
  ·refine Xay.yes hTT rfl (decide_eq_true (by omega)) rfl ?_;exact ζl b rfl (ζw (Xr8 pa pc 266 pages [.pointer (some ⟨vb,0,none⟩)] (fun n => !inT n v.c.pages) o l k (fun x _=>XvR v vb x o d c)) rfl (ζr Tryz.func222 rfl ⟨XdW (by unfold XvE; simp only; rw [if_pos g,decide_eq_true u]; rfl),f⟩))
  ·exact ζf rfl (ζr Tryz.func222 rfl ⟨XdW (by unfold XvE; simp only; rw [if_pos g,decide_eq_false u]; rfl),f⟩)
 ·have g:¬ cls = -1:=by simpa using i
  have y:XvE v.c ⟨cls,page,idx,pa,pc,pages⟩=(inT cls v.c.classes.length && inT page v.c.pages && inT idx (XdS v.c cls)):=by unfold XvE; simp only; rw [if_neg g]
  rw [y];refine ζd 32 XaX (by kernel_rfl) rfl fun a=>δl a b rfl (δl a c rfl (δl a d.obj rfl (δw a (fun w' j=>XvU cls v.c.classes.length w') rfl ?_)));refine Xaq.fork hTT a rfl rfl rfl (fun p => ?_) (fun p => ?_)
  ·rw [p];refine δl a b rfl (δl a c rfl (δl a d.obj rfl (δw a (fun w' j=>XvU page v.c.pages w') rfl ?_)));refine Xaq.fork hTT a rfl rfl rfl (fun r => ?_) (fun r => ?_)
   ·rw [r];exact δl a b rfl (δl a c rfl (δl a d.obj rfl (δl a b rfl (δv a (fun w' j=>Xfm v.c v.p cls w' (d.conf.chg j)) rfl (δw a (fun w' j=>XvU idx (XdS v.c cls) w') rfl (δn a rfl fun z e=>ζr Tryz.func222 rfl ⟨rfl,f.trans e⟩))))))
   ·rw [r];exact δn a rfl fun z e=>ζr Tryz.func222 rfl ⟨rfl,f.trans e⟩
  ·rw [p];exact δn a rfl fun z e=>ζr Tryz.func222 rfl ⟨rfl,f.trans e⟩
theorem XkJ {c:Conf} (h:XkH c=true):(64≤c.size∧c.size≤4096∧c.size % 8=0)∧(1≤c.pages∧c.pages≤1024)∧Xe2 c.classes c.size=true:=by
 obtain ⟨a,b,d,_⟩:=XkI.1 h;exact ⟨Xr0.1 a,b,d⟩
theorem XiN {c:Conf} {q:Plc} (hm:XkH c=true) (h:XvE c q=true) (hc:q.cls ≠ -1) :
 ∃ k pg ix:Nat,q.cls=k∧q.page=pg∧q.idx=ix∧k<c.classes.length∧(pg:Int)<c.pages∧8≤Xfb c k∧Xfb c k≤c.size∧0≤(pg:Int)*c.size∧0≤(ix:Int)*Xfb c k∧(ix:Int)*Xfb c k+Xfb c k≤c.size∧(pg:Int)*c.size+(ix:Int)*Xfb c k+Xfb c k≤c.size*c.pages:=by
 obtain ⟨r,s,j⟩:=XkJ hm;unfold XvE at h;rw [if_neg hc] at h;simp only [Bool.and_eq_true,Xiw] at h;obtain ⟨⟨⟨l,t⟩,m,u⟩,n,o⟩:=h;obtain ⟨k,e⟩:=Int.eq_ofNat_of_zero_le l;obtain ⟨pg,f⟩:=Int.eq_ofNat_of_zero_le m;obtain ⟨ix,b⟩:=Int.eq_ofNat_of_zero_le n;have d:k<c.classes.length:=by omega
 obtain ⟨p,v,g⟩:=Xe3 j k d;have a:Xfb c k=c.classes.getD k 0:=rfl;rw [← a] at p g;have i:XdS c q.cls=c.size / Xfb c k:=by
  unfold XdS;rw [e,if_pos (by omega),Int.toNat_natCast,← a,Xwc (by omega) (by omega)]
 rw [i,b] at o;have e1:(ix:Int)*Xfb c k+Xfb c k≤c.size:=by
  have:((ix:Int)+1)*Xfb c k≤c.size:=by
   calc ((ix:Int)+1)*Xfb c k≤(c.size / Xfb c k)*Xfb c k:=Int.mul_le_mul_of_nonneg_right (by omega) (by omega)
    _≤c.size:=Int.ediv_mul_le _ (by omega)
  rw [Int.add_mul,Int.one_mul] at this;exact this
 have e2:(pg:Int)*c.size+c.size≤c.size*c.pages:=by
  have:((pg:Int)+1)*c.size≤c.pages*c.size:=Int.mul_le_mul_of_nonneg_right (by omega) (by omega);rw [Int.add_mul,Int.one_mul,Int.mul_comm c.pages] at this;exact this
 refine ⟨k,pg,ix,e,f,b,d,by omega,by omega,g,Int.mul_nonneg (by omega) (by omega),Int.mul_nonneg (by omega) (by omega),e1,by omega⟩
theorem XiL {c:Conf} {q:Plc} (h:XvE c q=true) (hc:q.cls = -1):0<q.pages.length ∧ ∀ n ∈ q.pages,0≤n∧n<c.pages:=by
 unfold XvE at h;rw [if_pos hc] at h;simp only [Bool.and_eq_true,decide_eq_true_eq,Bool.not_eq_true'] at h;refine ⟨h.1,fun n a => ?_⟩;have:=List.any_eq_false.1 h.2 n a;simp at this;exact Xiw.1 this
theorem XbS.cls {w:World} {v:Vw} (h:XbS w v) {k:Nat} (hk:k<v.c.classes.length):∃ b off,v.p.ca=some ⟨b,off,none⟩∧w.cell? ⟨b,off+k,none⟩=some (.int .i64 (Xfb v.c k)):=h.conf.classes k hk
theorem XrY {c:Conf} (hm:XkH c=true):64≤c.size*c.pages∧c.size*c.pages≤4194304:=by
 obtain ⟨a,b,_⟩:=XkJ hm;constructor
 ·calc (64:Int)=64*1:=rfl
   _≤c.size*c.pages:=Int.mul_le_mul (by omega) (by omega) (by omega) (by omega)
 ·calc c.size*c.pages≤4096*1024:=Int.mul_le_mul (by omega) (by omega) (by omega) (by omega)
   _=4194304:=rfl
theorem XvH (v:Vw) (q:Plc) (w:World) (h:XbS w v) (hq:Xa8 w q) (hfew:q.pages.length≤1000000000):Xan Tryz.prog 159 #[vwV v,.agg (Xoc q).toArray] w (Grow (.int .i64 (XvB v.c q)) w):=by
 obtain ⟨E,F,G⟩:=XkJ h.may;refine ζe Tryz.func159 Tryz.ntmps159 rfl (ζn rfl fun qb x e1 o e z => ?_);have p:=h.grow e;refine ζl o rfl (ζv (XvQ v q x p (hq.grow e)) rfl fun H f => ?_);have b:=f.heap' o;have i:=p.grow f;have s:=e.trans f;cases n:XvE v.c q with
 |false =>
  exact ζy rfl (ζr Tryz.func159 rfl ⟨XiH (by unfold XvB; rw [n]; rfl),s⟩)
 |true =>
  refine ζf rfl (ζl b rfl (ζg rfl (fun d => ?_) fun d => ?_))
  ·have g:q.cls = -1:=by simpa using d
   have A:0≤(q.pages.length:Int)*v.c.size:=Int.mul_nonneg (by omega) (by omega);have B:(q.pages.length:Int)*v.c.size≤1000000000*4096:=Int.mul_le_mul (by omega) (by omega) (by omega) (by omega);refine Xay.drawn (q:=10) XaX hTT Xk3 (by kernel_rfl) rfl ?_;intro a;refine Xaq.loadb hTT a rfl b (by first | exact fun h=>h | (intro h; omega) | assumption) rfl rfl ?_;refine Xaq.loadb hTT a rfl i.obj (by first | exact fun h=>h | (intro h; omega) | assumption) rfl rfl ?_;refine Xaq.arith hTT a rfl (w64 (by omega)) rfl ?_;exact δn a rfl fun y l=>ζr Tryz.func159 rfl ⟨XiH (by unfold XvB; rw [if_pos n,if_pos g]),s.trans l⟩
  ·have g:¬ q.cls = -1:=by simpa using d
   obtain ⟨k,pg,ix,t,C,D,m,_,_,_,_,_,_,_⟩:=XiN h.may n g;obtain ⟨cb,off,r,u⟩:=i.cls m;obtain ⟨vb,c,⟨ca,cc,ka,kc⟩,ab,mb⟩:=v;simp only at r
   subst r;obtain ⟨cls,page,idx,pa,pc,pages⟩:=q;simp only at t
   subst t;replace m:k<c.classes.length:=m;refine ζd 10 XaX (by kernel_rfl) rfl fun a=>δl a i.obj rfl (δl a b rfl ?_);refine Xaq.index hTT a rfl (j:=k) (show (0:Int)≤k by omega) (show (k:Int)<c.classes.length by omega) (by simp) rfl ?_;exact δk a u rfl (δn a rfl fun y l=>ζr Tryz.func159 rfl ⟨XiH (by unfold XvB; rw [if_pos n]; simp only; rw [if_neg g]),s.trans l⟩)
theorem XvG (v:Vw) (q:Plc) (w:World) (h:XbS w v) (hq:Xa8 w q):Xan Tryz.prog 205 #[vwV v,.agg (Xoc q).toArray] w (Grow (.int .i64 (XvA v.c q)) w):=by
 obtain ⟨H,I,J⟩:=XkJ h.may;have e:=XrY h.may;refine ζe Tryz.func205 Tryz.ntmps205 rfl (ζn rfl fun qb E e1 n f G => ?_);have o:=h.grow f;refine ζl n rfl (ζv (XvQ v q E o (hq.grow f)) rfl fun K i => ?_);have b:=i.heap' n;have l:=o.grow i;have t:=f.trans i;cases u:XvE v.c q with
 |false =>
  exact ζy rfl (ζr Tryz.func205 rfl ⟨XiH (by unfold XvA; rw [u,if_neg (by simp)]),t⟩)
 |true =>
  refine ζf rfl (ζl b rfl (ζg rfl (fun d => ?_) fun d => ?_))
  ·have g:q.cls = -1:=by simpa using d
   exact ζr Tryz.func205 rfl ⟨XiH (by unfold XvA; rw [if_neg (fun F=>F.2 g)]),t⟩
  ·have g:¬ q.cls = -1:=by simpa using d
   obtain ⟨k,pg,ix,x,p,r,m,L,y,M,z,A,N,B⟩:=XiN h.may u g;obtain ⟨cb,off,s,C⟩:=l.cls m;obtain ⟨vb,c,⟨ca,cc,ka,kc⟩,ab,mb⟩:=v;simp only at s
   subst s;obtain ⟨cls,page,idx,pa,pc,pages⟩:=q;simp only at x p r
   subst x;subst p;subst r;replace m:k<c.classes.length:=m;replace e:64≤c.size*c.pages∧c.size*c.pages≤4194304:=e;replace z:0≤(pg:Int)*c.size:=z;replace A:0≤(ix:Int)*Xfb c k:=A;replace B:(pg:Int)*c.size+(ix:Int)*Xfb c k+Xfb c k≤c.size*c.pages:=B;replace y:8≤Xfb c k:=y;refine Xay.drawn (q:=22) XaX hTT Xk3 (by kernel_rfl) rfl ?_;intro a;refine Xaq.loadb hTT a rfl b (by first | exact fun h=>h | (intro h; omega) | assumption) rfl rfl ?_;refine Xaq.loadb hTT a rfl l.obj (by first | exact fun h=>h | (intro h; omega) | assumption) rfl rfl ?_;refine Xaq.arith hTT a rfl (w64 (by show _∧_; simp only; omega)) rfl ?_;refine Xaq.loadb hTT a rfl b (by first | exact fun h=>h | (intro h; omega) | assumption) rfl rfl ?_;refine Xaq.loadb hTT a rfl l.obj (by first | exact fun h=>h | (intro h; omega) | assumption) rfl rfl ?_;refine Xaq.loadb hTT a rfl b (by first | exact fun h=>h | (intro h; omega) | assumption) rfl rfl ?_;refine Xaq.index hTT a rfl (j:=k) (show (0:Int)≤k by omega) (show (k:Int)<c.classes.length by omega) (by simp) rfl ?_;exact δk a C rfl (Xaq.arith hTT a rfl (w64 (by show _∧_; simp only; omega)) rfl (Xaq.arith hTT a rfl (w64 (by show _∧_; simp only; omega)) rfl (δn a rfl fun O D=>ζr Tryz.func205 rfl ⟨XiH (by unfold XvA; rw [if_pos ⟨u,g⟩]),t.trans D⟩)))
theorem XvI (c:Conf) (p:Xal) (A:Ar) (V:ArV) (w:World) (hc:Xam w c p) (hA:Xag w A V):Xan Tryz.prog 89 #[.agg (Xfl c p).toArray,.pointer (some ⟨A.ab,0,none⟩),ptr A.mb] w
 (fun v w'=>Chg XaX w w'∧if XkH c=true∧(V.bs.length:Int)=c.size*c.pages then ∃ vb,v = .tuple #[.pointer (some ⟨vb,0,none⟩),.int .i64 0]∧w.heap.size≤vb∧XbS w' ⟨vb,c,p,A.ab,A.mb⟩ else v = .tuple #[.pointer none,.int .i64 1]):=by
 refine ζe Tryz.func89 Tryz.ntmps89 rfl (ζn rfl fun cb n e1 g h r => ?_);refine ζl g rfl (ζv (Xfo c p n (hc.chg h)) rfl fun t i => ?_);have e:=h.trans i;have a:=i.heap' g;cases hm:XkH c with
 |false =>
  rw [show XkK c=1 from by unfold XkK; rw [hm]; rfl];exact ζy rfl (ζr Tryz.func89 rfl ⟨e,by rw [if_neg (by simp)]⟩)
 |true =>
  rw [show XkK c=0 from by unfold XkK; rw [hm]; rfl];have o:=XrY hm;refine ζf rfl (ζd 8 XaX (by kernel_rfl) rfl fun d=>δw d (fun w' k=>XcI A V w' ((hA.grow e).grow k)) rfl (δl d a rfl (δl d a rfl (Xaq.arith hTT d rfl (w64 (by show _∧_; omega)) rfl (Xaq.adv hTT d rfl (δn d rfl fun u b => ?_))))));by_cases f:(V.bs.length:Int)=c.size*c.pages
  ·refine ζF rfl (show ((V.bs.length:Int) != c.size*c.pages)=false by rw [f]; exact bne_self_eq_false _) (ζl (b.heap' a) rfl (ζb rfl (ζn rfl fun vb x e4 l m s => ?_)));have j:=(e.trans b).trans m;exact ζr Tryz.func89 rfl ⟨j,by rw [if_pos ⟨rfl,f⟩]; exact ⟨vb,rfl,by have:=e.size; have:=b.size; omega,⟨l,hc.chg j,hm⟩⟩⟩
  ·exact ζY rfl (show ((V.bs.length:Int) != c.size*c.pages)=true by simpa using f) (ζr Tryz.func89 rfl ⟨e.trans b,by rw [if_neg (fun q=>f q.2)]⟩)
abbrev Span:=Nat × Nat × Nat
def XsE (s:Span):List Value := [.int .i64 (s.1:Nat),.int .i64 (s.2.1:Nat),.int .i64 (s.2.2:Nat)]
def XhB (at' n page:Nat):Span:=(at' / page,at' % page,min n (page - at' % page))
def XsI:Nat→Nat→Nat→Nat→List Span
 |0,_,_,_ => []
 |f+1,at',n,page=>if n=0 then [] else XhB at' n page::XsI f (at'+min n (page - at' % page)) (n - min n (page - at' % page)) page
def XsK (at' n page:Nat):List Span:=XsI n at' n page
theorem XhC {at' n page:Nat} (hp:1≤page) (hn:0<n):0<min n (page - at' % page):=by
 have:=Nat.mod_lt at' (show 0<page by omega); omega
theorem XsJ {page:Nat} (hp:1≤page):∀ (f g at' n:Nat),n≤f→n≤g→XsI f at' n page=XsI g at' n page
 |0,0,_,_,_,_=>rfl
 |0,g+1,at',n,h,_=>by
   obtain rfl:n=0:=by omega
   simp [XsI]
 |f+1,0,at',n,_,h=>by
   obtain rfl:n=0:=by omega
   simp [XsI]
 |f+1,g+1,at',n,a,b=>by
  unfold XsI;split
  ·rfl
  ·rename_i c
   have:=XhC (at':=at') hp (show 0<n by omega);rw [XsJ hp f g _ _ (by omega) (by omega)]
theorem XsN (at' page:Nat):XsK at' 0 page = []:=rfl
theorem XsL {at' n page:Nat} (hp:1≤page) (hn:0<n):XsK at' n page=XhB at' n page::XsK (at'+min n (page - at' % page)) (n - min n (page - at' % page)) page:=by
 have:=XhC (at':=at') hp hn;unfold XsK;obtain ⟨m,rfl⟩:∃ m,n=m+1:=⟨n - 1,by omega⟩;rw [show XsI (m+1) at' (m+1) page=XhB at' (m+1) page::XsI m (at'+min (m+1) (page - at' % page)) (m+1 - min (m+1) (page - at' % page)) page from by
  show (if m+1=0 then [] else _)=_
  rw [if_neg (by omega)]]
 rw [XsJ hp m _ _ _ (by omega) (Nat.le_refl _)]
theorem XsM {page:Nat} (hp:1≤page):∀ (n at':Nat),(XsK at' n page).length≤n:=by
 intro n
 induction n using Nat.strongRecOn with
 |_ n ih =>
  intro at';by_cases a:n=0
  ·subst a; exact Nat.le_refl _
  ·have:=XhC (at':=at') hp (show 0<n by omega);rw [XsL hp (by omega),List.length_cons];have:=ih (n - min n (page - at' % page)) (by omega) (at'+min n (page - at' % page));omega
abbrev XiF (w:World) (b:Nat) (x:Int):Prop:=w.heap[b]? = some (.cells ([.int .i64 x]:List Value).toArray 3 (0,0))
theorem Xet (pa pp pn at' page n:Nat) (w:World) (ha:XiF w pa at') (hp:XiF w pp page) (hn:XiF w pn n) (hb:at'+n≤16777216∧1≤page∧page≤16777216) :
 Xan Tryz.prog 328 #[.pointer (some ⟨pa,0,none⟩),.pointer (some ⟨pp,0,none⟩),.pointer (some ⟨pn,0,none⟩)] w (Grow (.agg (XsE (XhB at' n page)).toArray) w):=by
 have h:0≤(at':Int) % page∧(at':Int) % page<page:=⟨Int.emod_nonneg _ (by omega),Int.emod_lt_of_pos _ (by omega)⟩;have e3:((min n (page - at' % page):Nat):Int)=if (page:Int) - (at':Int) % page<n then (page:Int) - (at':Int) % page else n:=by
  rw [show ((at':Int) % page)=((at' % page:Nat):Int) from rfl];have:=Nat.mod_lt at' (show 0<page by omega);split <;> omega
 refine ζe Tryz.func328 Tryz.ntmps328 rfl (ζn rfl fun rb l e1 d a i=>ζl (a.heap' ha) rfl (ζl (a.heap' hp) rfl (Xay.div hTT rfl (by omega) (Xo9 (by omega)) rfl (ζd 10 XaX (by kernel_rfl) rfl fun b=>δl b (a.heap' ha) rfl (δl b (a.heap' hp) rfl (Xaq.div hTT b rfl (by omega) (XoJ (by omega) (by omega)) rfl (δl b (a.heap' hn) rfl (δl b (a.heap' hp) rfl (δj b rfl (Xaq.adv hTT b rfl (Xaq.build hTT b rfl rfl (δn b rfl fun m c=>ζs (c.heap' d) rfl fun o e f j => ?_))))))))))));have g:=(a.trans c).since f (fun x p k=>by omega);exact ζR Tryz.func328 e rfl ⟨by unfold XsE XhB; simp only; rw [e3]; rfl,g⟩
theorem Xev (l pa pp pn at0 n0 page:Nat) (w:World) (Y:Nat→Prop) (I:Nat→World→Prop) (hb:at0+n0≤16777216∧1≤page∧page≤16777216) (ha:XiF w pa at0) (hp:XiF w pp page) (hn:XiF w pn n0)
 (hne:pa≠pp∧pa≠pn∧pp≠pn) (hY:¬ Y pa ∧ ¬ Y pp ∧ ¬ Y pn) (hI:∀ k w w',I k w→Chg (fun z=>z=pa∨z=pn) w w'→I k w')
 (hy:∀ k w0 w (h:k<(XsK at0 n0 page).length),I k w0→Chg XaX w0 w→XbT Tryz.prog l [.agg (XsE (XsK at0 n0 page)[k]).toArray] w (fun v w'=>v = .bool true∧I (k+1) w'∧Chg (fun z=>Y z∧z<w0.heap.size) w w'))
 (h0:I 0 w) :
 Xan Tryz.prog 327 #[XwG l,.pointer (some ⟨pa,0,none⟩),.pointer (some ⟨pp,0,none⟩),.pointer (some ⟨pn,0,none⟩)] w (fun v w'=>v = .tuple #[]∧I (XsK at0 n0 page).length w'∧Chg (fun z=>z=pa∨z=pn∨Y z) w w'):=by
 refine ζe Tryz.func327 Tryz.ntmps327 rfl ?_;refine Xay.loop (α:=Nat × Nat × Nat) (fun _ => [(0,false,XwG l),(1,false,.pointer (some ⟨pa,0,none⟩)),(3,false,.pointer (some ⟨pn,0,none⟩)),(5,false,.func (.func 328) #[] #[.pointer (some ⟨pa,0,none⟩),.pointer (some ⟨pp,0,none⟩),.pointer (some ⟨pn,0,none⟩)])])
  (fun p w' => ∃ pre,XsK at0 n0 page=pre++XsK p.2.1 p.2.2 page∧pre.length=p.1∧p.2.1+p.2.2=at0+n0∧I p.1 w'∧XiF w' pa p.2.1∧XiF w' pp page∧XiF w' pn p.2.2∧Chg (fun z=>z=pa∨z=pn∨Y z) w w') (fun p=>p.2.2) (0,at0,n0) ⟨rfl,rfl,rfl,rfl,trivial⟩
  ⟨[],rfl,rfl,rfl,h0,ha,hp,hn,Chg.refl _ _⟩ ?_
 rintro ⟨k,at',n⟩ D ⟨pre,a,P,K,q,i,E,j,F⟩ ih;simp only at a P K q i j
 subst P;refine ζa rfl (ζl j rfl (ζg rfl (fun L => ?_) fun L => ?_))
 ·have m:0<n:=by have:=of_decide_eq_true L; omega
  have r:=XhC (at':=at') hb.2.1 m;have d:=XsL (at':=at') hb.2.1 m;refine ζv (Xet pa pp pn at' page n D i E j (by omega)) rfl fun w2 s=>ζn rfl fun sb w3 e3 Q R a8=>ζs Q rfl fun w4 t S a9 => ?_;have b:=(s.trans R).since S (fun z hz e=>by have:=s.size; omega);have T:pre.length<(XsK at0 n0 page).length:=by rw [a,d]; simp
  have U:(XsK at0 n0 page)[pre.length]=XhB at' n page:=by
   simp only [a,d]; simp
  have G:=hy pre.length D w4 T q b;rw [U] at G;refine ζl t rfl (Xay.yield rfl G ?_);rintro _ w5 ⟨rfl,V,f⟩;refine ζa rfl (ζf rfl ?_);have a7:D.heap.size≤sb:=by have:=s.size; omega
  have aa:=Xkj i;have H:=f.heap (b.heap' i) (fun h=>hY.1 h.1);have W:=f.heap (b.heap' E) (fun h=>hY.2.1 h.1);have J:=f.heap (b.heap' j) (fun h=>hY.2.2 h.1);have u:=f.heap t (fun h=>by have:=h.2; omega);refine ζd 9 (fun z=>z=pa) (by kernel_rfl) rfl fun c=>Xaq.loadbAt (4) hTT c rfl rfl rfl J (by first | exact fun h=>h | (intro h; omega) | assumption) rfl rfl (Xaq.loadbAt (2) hTT c rfl rfl rfl u (by first | exact fun h=>h | (intro h; omega) | assumption) rfl rfl (Xaq.loadbAt (6) hTT c rfl rfl rfl u (by first | exact fun h=>h | (intro h; omega) | assumption) rfl rfl (Xaq.arith hTT c rfl (w64 (by show _∧_; unfold XhB; simp only; omega)) rfl (Xaq.turn1 c rfl fun w6 x=>XbO.loadb hTT c rfl (x.heap' H) rfl rfl (Xaq.arith hTT c rfl (w64 (by show _∧_; unfold XhB; simp only; omega)) rfl (Xaq.turn1 c rfl fun a0 y=>XbO.store hTT c rfl (y.heap' (x.heap' H)) (by first | (intro h; exact rfl) | (intro h; omega)) rfl rfl rfl fun ab M A ac=>δn c rfl fun w7 o => ?_))))));have g:=x.trans y;have a1:=o.heap' M;refine ζs (o.heap' (A.heap (g.heap' J) (fun e=>hne.2.1 e.symm))) rfl fun w8 a3 B ad => ?_;have a4:=B.heap a1 hne.2.1;have a5:=B.heap (o.heap' (A.heap (g.heap' W) (fun e=>hne.1 e.symm))) hne.2.2;have N:Chg (fun z=>z=pa∨z=pn) a0 w8:=((A.mono fun _ _ h => .inl h).trans (o.mono fun _ _ h=>h.elim)).trans (B.mono fun _ _ h => .inr h);have C:=(g.mono fun _ _ h=>h.elim).trans N;have O:Chg (fun z=>z=pa∨z=pn∨Y z) D w8:=((b.mono fun _ _ h=>h.elim).trans (f.mono fun _ _ h => .inr (.inr h.1))).trans (C.mono fun _ _ h=>h.elim .inl (fun h => .inr (.inl h)));exact ih (pre.length+1,at'+min n (page - at' % page),n - min n (page - at' % page)) _ _ ⟨pre ++ [XhB at' n page],by rw [a,d]; simp,by simp,by simp only; omega,hI _ _ _ V C,by
   have e:((at':Int)+((XhB at' n page).2.2:Nat))=((at'+min n (page - at' % page):Nat):Int):=by unfold XhB; simp only; omega
   simp only
   rw [← e]; exact a4,a5,by
   have e:((n:Int) - ((XhB at' n page).2.2:Nat))=((n - min n (page - at' % page):Nat):Int):=by unfold XhB; simp only; omega
   simp only
   rw [← e]; exact a3,F.trans O⟩ (by simp only; omega) ⟨rfl,rfl,rfl,rfl,trivial⟩
 ·have m:n=0:=by have:=of_decide_eq_false L; omega
  subst m;have r:(XsK at0 n0 page).length=pre.length:=by rw [a,XsN]; simp
  exact ζr Tryz.func327 rfl ⟨rfl,by rw [r]; exact q,F⟩
theorem Xeu (at' n page:Int) (w:World):Xan Tryz.prog 315 #[.int .i64 at',.int .i64 n,.int .i64 page] w (fun v w' => ∃ pa pp pn,v = .func (.func 327) #[] #[.pointer (some ⟨pa,0,none⟩),.pointer (some ⟨pp,0,none⟩),.pointer (some ⟨pn,0,none⟩)] ∧
 w.heap.size≤pa∧w.heap.size≤pp∧w.heap.size≤pn∧(pa≠pp∧pa≠pn∧pp≠pn)∧XiF w' pa at'∧XiF w' pp page∧XiF w' pn n∧Chg XaX w w'):=by
 exact ζe Tryz.func315 Tryz.ntmps315 rfl (ζn rfl fun pa j e1 d c g=>ζn rfl fun pn k e2 e b h=>ζn rfl fun pp l e3 f a i=>ζr Tryz.func315 rfl ⟨pa,pp,pn,rfl,by omega,by omega,by omega,by omega,a.heap' (b.heap' d),f,a.heap' e,(c.trans b).trans a⟩)
theorem Xqz {base t:Nat} {w:World} {v:Value} {L:List Span} (h:Own base t 3 w v L.length (L.flatMap XsE)):∃ a cap,v = .slice a L.length cap∧Rows XsE 3 w a L ∧ ∀ b off s,a=some ⟨b,off,s⟩→base≤b:=by
 rcases h.2 with ⟨rfl,m⟩ | ⟨g,cap,cur,rfl,n,o,y,z,A,p⟩
 ·obtain rfl:L = []:=List.length_eq_zero_iff.1 m;exact ⟨none,0,rfl,fun i x c=>by simp at c,fun _ _ _ e=>by cases e⟩
 ·refine ⟨some ⟨g,0,none⟩,cap,rfl,fun i x c=>⟨g,0,rfl,fun j v f => ?_⟩,fun b off s e=>by cases e; exact n⟩;have u:=(List.getElem?_eq_some_iff.1 c).1;have q:j<3:=by have:=(List.getElem?_eq_some_iff.1 f).1; simpa [XsE] using this
  rw [Xel o];have k:∀ (L:List Span) (i:Nat) (x:Span),L[i]? = some x→(L.flatMap XsE)[i*3+j]? = (XsE x)[j]?:=by
   intro L
   induction L with
   |nil=>intro i x c; simp at c
   |cons s r ih =>
    intro i x c;rw [List.flatMap_cons];have d:(XsE s).length=3:=rfl;cases i with
    |zero =>
     simp at c; subst c;rw [Nat.zero_mul,Nat.zero_add,List.getElem?_append_left (by rw [d]; exact q)]
    |succ i =>
     rw [List.getElem?_append_right (by rw [d]; omega),d,show (i+1)*3+j - 3=i*3+j from by omega];exact ih i x (by simpa using c)
  have l:=k L i x c;rw [f,← p,List.getElem?_take,if_pos (by omega)] at l;rw [Nat.zero_add]
  simpa using l
theorem Xer (at' n page:Nat) (w:World) (hb:at'+n≤16777216∧1≤page∧page≤16777216):Xan Tryz.prog 291 #[.int .i64 at',.int .i64 n,.int .i64 page] w
 (fun v w' => ∃ a cap,v = .slice a (XsK at' n page).length cap∧Rows XsE 3 w' a (XsK at' n page)∧(∀ b off s,a=some ⟨b,off,s⟩→w.heap.size≤b)∧Chg XaX w w'):=by
 have bq:maxLen=9223372036854775807:=rfl;have br:=XsM (page:=page) hb.2.1 n at';refine ζe Tryz.func291 Tryz.ntmps291 rfl (ζf rfl (ζf rfl (ζf rfl (ζf rfl (ζj rfl (ζf rfl (ζn rfl fun lb w1 e1 an p bs=>ζc rfl (Xeu at' n page w1) ?_)))))));rintro _ w2 ⟨pa,pp,pn,rfl,bt,bu,bv,ao,R,T,U,E⟩;refine ζa rfl ?_;have b8:=Xkj R;have ba:=Xkj T;have bb:=Xkj U;have F:=p.trans E;have a9:=E.heap' an;have bw:=E.size;refine Xay.rangeFunc rfl rfl ⟨Tryz.f327,Tryz.func327,rfl,rfl⟩ ?_;intro G B tmps w3 y hB aa ap aq q bx;have ab:=F.trans q;have ac:G.state = .ready:=by rw [y]
 have bd:({G with state := .ready,pending:=none}:Loop)=G:=by rw [y]
 have ad:G.pending=none:=by rw [y]
 refine (Xev (B+1) pa pp pn at' n page w3 (fun z=>z=lb∨z=B+1∨B+2≤z)
  (fun k w'=>k≤(XsK at' n page).length ∧ ∃ v,w'.heap[lb]? = some (.cells ([v]:List Value).toArray 356 (0,0))∧Own (B+2) 359 3 w' v k (((XsK at' n page).take k).flatMap XsE) ∧
   w'.heap[B+1]? = some (.loop G)∧w'.heap[B]? = some (.deferred (some []))∧B+2≤w'.heap.size∧Chg XaX w w')
  hb (q.heap' R) (q.heap' T) (q.heap' U) ao ⟨by omega,by omega,by omega⟩ ?_ ?_ ⟨Nat.zero_le _,_,q.heap' a9,World.ownsRow_nil _ _ _ _,aq,ap,by omega,ab⟩).mono ?_
 ·rintro k w4 L ⟨H,v,t,d,x,I,h5,J⟩ D;refine ⟨H,v,D.heap t (by omega),d.chg D (fun b hb e => ?_),D.heap x (by omega),D.heap I (by omega),Nat.le_trans h5 D.size,J.since D (fun z K e=>by have:=p.size; omega)⟩;have:=(World.ownsRow.lt d b hb.symm).1;omega
 ·rintro k w4 L H ⟨bz,v,t,d,x,I,h5,J⟩ r;have af:=Xkj x;have ag:=Xkj t;subst y;refine XbT.enter (ps := [33]) (r.heap' x) rfl rfl aa rfl (ζa rfl (ζn rfl fun sb w6 e6 au V av=>ζs au rfl fun w7 ah W c0 => ?_));have c:=(r.trans V).since W (fun z K e=>by have:=r.size; omega);have bf:=r.size;refine Xay.beginRound rfl (c.heap' x) rfl fun w8 ay f c4=>ζa rfl (ζl (f.heap (c.heap' t) (by omega)) rfl (ζl (f.heap ah (by omega)) rfl (Xay.buildSlice hTT rfl fun b9 w9 e9 az g c5=>ζa rfl ?_)));have A:=((d.chg c (fun _ _ h=>h)).chg f (fun b hb e=>by have:=(World.ownsRow.lt d b hb.symm).1; omega)).chg g (fun _ _ h=>h);have b0:((XsK at' n page).take (k+1)).flatMap XsE=((XsK at' n page).take k).flatMap XsE++XsE (XsK at' n page)[k]:=by
   rw [List.take_add_one,List.getElem?_eq_getElem H,List.flatMap_append]; simp
  refine Xay.append (base:=B+2) (news:=XsE (XsK at' n page)[k]) hTT rfl A (by have:=c.size; have:=f.size; have:=g.size; omega) rfl (fun i u M=>by rw [XbV,Xel az]; simpa [XsE,XwJ] using M) (fun u M=>by simp [XsE] at M; rcases M with rfl | rfl | rfl <;> rfl) (by simp only; omega) ?_;intro c6 a0 l j bg;obtain ⟨c7,b5,b6,N,-⟩:=l.form (by omega);subst N;refine ζa rfl ?_;have O:=j.heap (g.heap' (f.heap (c.heap' t) (by omega))) (fun e=>by have:=(World.ownsRow.lt A lb e.symm).1; omega);refine ζs O rfl fun a6 P m bh => ?_;have ai:=j.heap (g.heap' ay) (fun e=>by have:=(World.ownsRow.lt A _ e.symm).1; omega);have aj:=m.heap ai (by omega);refine Xay.roundEnd rfl aj ?_;intro a7 ak o bi;have al:=o.heap (m.heap (j.heap (g.heap' (f.heap (c.heap' I) (by omega))) (fun e=>by have:=(World.ownsRow.lt A _ e.symm).1; omega)) (by omega)) (by omega);have hc:∀ S:Nat→Prop,S lb→S (B+1)→(∀ z,some z=v.ownBlock→S z)→Chg S L a7:=fun S c1 c2 c3=>by
   have a1:Chg S L w7:=(V.mono fun _ _ h=>h.elim).since W (fun z K e=>by omega);have a2:Chg S w7 w8:=f.mono fun z _ e=>by subst e; exact c2
   have a3:Chg S w8 a0:=(g.mono fun _ _ h=>h.elim).trans (j.mono fun z _ e=>c3 z e);have a4:Chg S a0 a6:=m.mono fun z _ e=>by subst e; exact c1
   have a5:Chg S a6 a7:=o.mono fun z _ e=>by subst e; exact c2
   exact (((a1.trans a2).trans a3).trans a4).trans a5
  refine ⟨_,rfl,rfl,⟨H,_,o.heap P (by omega),?_,ak,al,by have:=c.size; have:=f.size; have:=g.size; have:=j.size; omega,(J.trans r).since (hc (fun z=>z=lb∨B+1≤z) (.inl rfl) (.inr (Nat.le_refl _)) (fun z e => .inr (by have:=(World.ownsRow.lt d z e.symm).1; omega))) (fun z K e=>by have:=p.size; omega)⟩,
   hc _ ⟨.inl rfl,ag⟩ ⟨.inr (.inl rfl),af⟩ (fun z e=>⟨.inr (.inr (World.ownsRow.lt d z e.symm).1),(World.ownsRow.lt d z e.symm).2⟩)⟩
  rw [b0];exact (l.chg m (fun b hb e=>by have:=(World.ownsRow.lt l b hb.symm).1; omega)).chg o (fun b hb e=>by have:=(World.ownsRow.lt l b hb.symm).1; omega)
 ·rintro _ w4 ⟨rfl,⟨H,v,t,d,x,I,h5,J⟩,c8⟩;refine ⟨_,x,by rw [ac]; simp,?_⟩;intro L C c9;rw [ad];refine ζa rfl (ζl (C.heap t (by omega)) rfl ?_);rw [List.take_length] at d;have b3:=d.chg C (fun b hb e=>by have:=(World.ownsRow.lt d b hb.symm).1; omega);refine Xay.retM hTT rfl Tryz.func291 (C.heap I (by omega)) (vs := [v]) (fun _ _ => .tmp rfl .nil) ?_;intro w6 a8 av;have b4:=b3.chg a8 (fun b hb e=>by have:=(World.ownsRow.lt d b hb.symm).1; omega);obtain ⟨a,cap,rfl,Q,am⟩:=Xqz b4;exact ⟨a,cap,rfl,Q,fun b off s e=>by have:=am b off s e; have:=F.size; omega,(J.since C (fun z K e=>by have:=p.size; omega)).since a8 (fun z K e=>by have:=p.size; omega)⟩
theorem Rd.far' {k:IntKind} {w w':World} {a:Option Addr} {zs:List Int} {S:Nat→Prop} (h:Rd k w a zs) (hs:0<zs.length→Xa0 S a) (hc:Chg S w w'):Rd k w' a zs:=(RdS.chg ⟨h,fun b off s e c=>hs c b off s e⟩ hc).1
theorem Xa8.far {w w':World} {q:Plc} {S:Nat→Prop} (h:Xa8 w q) (hs:0<q.pages.length→Xa0 S q.pa) (hc:Chg S w w'):Xa8 w' q:=⟨h.rd.far' hs hc,h.len⟩
theorem Xam.far {w w':World} {c:Conf} {p:Xal} {S:Nat→Prop} (h:Xam w c p) (h1:0<c.classes.length→Xa0 S p.ca) (h2:0<c.keep.length→Xa0 S p.ka) (hc:Chg S w w'):Xam w' c p:=⟨h.classes.far' h1 hc,h.keep.far' h2 hc,h.lc,h.lk,h.size⟩
theorem XbS.far {w w':World} {v:Vw} {S:Nat→Prop} (h:XbS w v) (h0:¬ S v.vb) (h1:0<v.c.classes.length→Xa0 S v.p.ca) (h2:0<v.c.keep.length→Xa0 S v.p.ka) (hc:Chg S w w'):XbS w' v:=⟨hc.heap h.obj h0,h.conf.far h1 h2 hc,h.may⟩
theorem Rd.outNew {k:IntKind} {w:World} {a:Option Addr} {zs:List Int} {S S':Nat→Prop} (h:Rd k w a zs) (hs:0<zs.length→Xa0 S a) (hS:∀ z,S' z→S z∨w.heap.size≤z):0<zs.length→Xa0 S' a:=fun c b off s e d=>by
 rcases hS b d with h1 | h1
 ·exact hs c b off s e h1
 ·obtain ⟨b',off',e',f⟩:=h 0 c;rw [e] at e';cases e'
  have:=World.block_lt_of_cell? w _ f;simp only at this
  omega
theorem XsH {page:Nat} (hp:1≤page):∀ (n at':Nat),∀ s ∈ XsK at' n page,s.1*page+s.2.1+s.2.2≤at'+n∧0<s.2.2∧s.2.1+s.2.2≤page∧at'≤s.1*page+s.2.1:=by
 intro n
 induction n using Nat.strongRecOn with
 |_ n ih =>
  intro at' s hs;by_cases b:n=0
  ·subst b; cases hs
  ·have c:=XhC (at':=at') hp (show 0<n by omega);have d:=Nat.mod_lt at' (show 0<page by omega);have a:=Nat.div_add_mod at' page;rw [XsL hp (by omega)] at hs;rcases List.mem_cons.1 hs with rfl | hs
   ·unfold XhB;simp only
    rw [Nat.mul_comm] at a;omega
   ·have:=ih _ (by omega) _ s hs;omega
def Xm5 (c:Conf) (q:Plc) (at' n:Nat):List (Int × Int) :=
 if q.cls = -1 then (XsK at' n c.size.toNat).map fun s=>(q.pages.getD s.1 0*c.size+s.2.1,(s.2.2:Int)) else [(XvA c q+at',(n:Int))]
theorem Xey (A:Ar) (V:ArV) (n:Int) (w:World) (h:Xag w A V):Xan Tryz.prog 146 #[ptr A.mb,.int .i64 n] w (fun _ w'=>Xag w' A (V.charge A n)∧Chg (Xkx A) w w'):=by
 cases a:A.mb with
 |none =>
  refine (XkU n w).mono fun _ w' e => ?_;subst e;exact ⟨by unfold ArV.charge; rw [a]; exact h,Chg.refl _ _⟩
 |some b =>
  refine (XkT b V.total V.lap n w (h.met b a)).mono fun _ w' ⟨hm,c⟩ => ?_;exact ⟨by unfold ArV.charge; rw [a]; exact h.metered a hm c,c.mono fun x _ d=>by unfold Xkx; rw [d]; exact a⟩
theorem XvS (v:Vw) (q:Plc) (at' n:Int) (w:World):Xan Tryz.prog 249 #[vwV v,.agg (Xoc q).toArray,.int .i64 at',.int .i64 n] w (fun u w' => ∃ pb vb ab nb,u = .func (.func 290) #[] #[.pointer (some ⟨pb,0,none⟩),.pointer (some ⟨vb,0,none⟩),.pointer (some ⟨ab,0,none⟩),.pointer (some ⟨nb,0,none⟩)] ∧
 w.heap.size≤pb∧w.heap.size≤vb∧w.heap.size≤ab∧w.heap.size≤nb∧Xob w' pb q∧Xox w' vb v∧XiF w' ab at'∧XiF w' nb n∧Chg XaX w w'):=by
 refine ζe Tryz.func249 Tryz.ntmps249 rfl (ζn rfl fun vb o e1 f d j=>ζn rfl fun pb p e2 g e k=>ζn rfl fun ab r e3 h c l=>ζn rfl fun nb s e4 i a m => ?_);have b:=e.trans (c.trans a);exact ζr Tryz.func249 rfl ⟨pb,vb,ab,nb,rfl,by omega,by omega,by omega,by omega,(c.trans a).heap' g,b.heap' f,a.heap' h,i,d.trans b⟩
def XeL (q:Plc) (A:Ar) (V:ArV):ArV:=if q.cls = -1 then V.charge A 1 else V
theorem Xag.mlt {w:World} {A:Ar} {V:ArV} (h:Xag w A V):∀ z,Xkx A z→z<w.heap.size:=fun z a=>Xkj (h.met z a).1
theorem XvT (l:Nat) (v:Vw) (q:Plc) (at' n pb vb ab nb:Nat) (A:Ar) (Vs:Nat→ArV) (K:Nat→(Nat→Prop)→World→Prop) (Y0:Nat→Prop) (w:World)
 (hv:XbS w v) (hq:Xa8 w q) (hmb:v.mb=A.mb) (hin:XvE v.c q=true) (hr:(at':Int)+n≤XvB v.c q) (hfew:q.pages.length≤4096)
 (hpb:Xob w pb q) (hvb:Xox w vb v) (hab:XiF w ab at') (hnb:XiF w nb n)
 (hP1:∀ z,Y0 z∨Xkx A z→z≠pb∧z≠vb∧z≠v.vb) (hPq:0<q.pages.length→Xa0 (fun z=>Y0 z∨Xkx A z) q.pa) (hPc:0<v.c.classes.length→Xa0 (fun z=>Y0 z∨Xkx A z) v.p.ca) (hPk:0<v.c.keep.length→Xa0 (fun z=>Y0 z∨Xkx A z) v.p.ka)
 (hKlt:∀ k Y w,K k Y w → ∀ z,Y z→z<w.heap.size) (hK:∀ k Y w w',K k Y w→Chg (Xkx A) w w'→K k Y w')
 (hy:∀ k Y w0 w (h:k<(Xm5 v.c q at' n).length),Xag w0 A (XeL q A (Vs k))→K k Y w0→Chg XaX w0 w →
  XbT Tryz.prog l [.int .i64 (Xm5 v.c q at' n)[k].1,.int .i64 (Xm5 v.c q at' n)[k].2] w (fun u w'=>u = .bool true∧Xag w' A (Vs (k+1))∧Chg Y w w' ∧ ∃ Y',K (k+1) Y' w' ∧ ∀ z,Y' z→Y z∨w.heap.size≤z))
 (h0:Xag w A (Vs 0)) (hK0:K 0 Y0 w) :
 Xan Tryz.prog 290 #[XwG l,.pointer (some ⟨pb,0,none⟩),.pointer (some ⟨vb,0,none⟩),.pointer (some ⟨ab,0,none⟩),.pointer (some ⟨nb,0,none⟩)] w
  (fun u w'=>u = .tuple #[]∧Xag w' A (Vs (Xm5 v.c q at' n).length)∧(∃ Y',K (Xm5 v.c q at' n).length Y' w' ∧ ∀ z,Y' z→Y0 z∨w.heap.size≤z)∧Chg (fun z=>Y0 z∨Xkx A z) w w'):=by
 obtain ⟨m1,m2,m3⟩:=XkJ hv.may;have b8:=XrY hv.may;have a2:∀ {x y:World},Chg XaX x y→Chg (Xkx A) x y:=fun h=>h.mono fun _ _ h=>h.elim;refine ζe Tryz.func290 Tryz.ntmps290 rfl (ζl hpb rfl ?_);by_cases d:q.cls = -1
 ·obtain ⟨b9,I⟩:=XiL hin d;have J:XvB v.c q=(q.pages.length:Int)*v.c.size:=by unfold XvB; rw [if_pos hin,if_pos d]
  rw [J] at hr;have a3:(q.pages.length:Int)*v.c.size≤4096*4096:=Int.mul_le_mul (by omega) (by omega) (by omega) (by omega);obtain ⟨sz,a4⟩:=Int.eq_ofNat_of_zero_le (show 0≤v.c.size by omega);have a9:v.c.size.toNat=sz:=by omega
  have o:Xm5 v.c q at' n=(XsK at' n sz).map fun s=>(q.pages.getD s.1 0*v.c.size+s.2.1,(s.2.2:Int)):=by unfold Xm5; rw [if_pos d,a9]
  have B:(Xm5 v.c q at' n).length=(XsK at' n sz).length:=by rw [o,List.length_map]
  have bg:=XsM (page:=sz) (by omega) n at';refine Xay.no hTT rfl (show (q.cls != -1)=false by rw [d]; rfl) rfl ?_;refine Xay.drawn (q:=10) XaX hTT Xk3 (by kernel_rfl) rfl ?_;intro c;refine Xaq.loadb hTT c rfl hab (by first | exact fun h=>h | (intro h; omega) | assumption) rfl rfl ?_;refine Xaq.loadb hTT c rfl hnb (by first | exact fun h=>h | (intro h; omega) | assumption) rfl rfl ?_;refine Xaq.loadb hTT c rfl hvb (by first | exact fun h=>h | (intro h; omega) | assumption) rfl rfl ?_;refine Xaq.loadb hTT c rfl hv.obj (by first | exact fun h=>h | (intro h; omega) | assumption) rfl rfl ?_;have hd:∀ w',Chg XaX w w'→Xan Tryz.prog 291 #[.int .i64 at',.int .i64 n,.int .i64 v.c.size] w' (fun u m=>Chg XaX w' m ∧ ∃ a cap,u = .slice a (XsK at' n sz).length cap∧Rows XsE 3 m a (XsK at' n sz)∧(∀ b off s,a=some ⟨b,off,s⟩→w'.heap.size≤b)):=fun w' r=>by
   rw [a4];exact (Xer at' n sz w' (by omega)).mono fun u m ⟨a,cap,L,h2,h3,h4⟩=>⟨h4,a,cap,L,h2,h3⟩
  refine Xaq.callQ c rfl rfl (fun w' r=>(hd w' r).mono fun u m ⟨L,a,cap,h2,h3,h4⟩=>(⟨L,a,cap,h2,h3,fun b off s e=>Nat.le_trans r.size (h4 b off s e)⟩:Chg XaX w' m ∧ ∃ a cap,u = .slice a (XsK at' n sz).length cap∧Rows XsE 3 m a (XsK at' n sz)∧(∀ b off s,a=some ⟨b,off,s⟩→w.heap.size≤b))) ?_;rintro _ w1 al ⟨sa,scap,rfl,a1,ae⟩;refine Xaq.adv hTT c rfl (δn c rfl fun m t => ?_);have f:=al.trans t;have M:=a1.chg t;have am:Xa0 (fun z=>Y0 z∨Xkx A z) sa:=fun b off s e hb=>by
   have:=ae b off s e;rcases hb with hb | hb
   ·have:=hKlt _ _ _ hK0 b hb; omega
   ·have:=h0.mlt b hb; omega
  refine Xay.loop (α:=Nat) (fun k => [(0,false,XwG l),(1,false,.pointer (some ⟨pb,0,none⟩)),(2,false,.pointer (some ⟨vb,0,none⟩)),(26,false,.slice sa (XsK at' n sz).length scap),(27,false,.int .i64 (XsK at' n sz).length),(28,false,.int .i64 k)])
   (fun k w'=>k≤(XsK at' n sz).length∧Xag w' A (Vs k)∧(∃ Y,K k Y w' ∧ ∀ z,Y z→Y0 z∨m.heap.size≤z)∧Chg (fun z=>Y0 z∨Xkx A z) m w') (fun k=>(XsK at' n sz).length - k) 0 ⟨rfl,rfl,rfl,rfl,rfl,rfl,trivial⟩
   ⟨Nat.zero_le _,h0.grow f,⟨Y0,hK _ _ _ _ hK0 (a2 f),fun _ h => .inl h⟩,Chg.refl _ _⟩ ?_
  rintro k w3 ⟨hk,N,⟨Y,a5,O⟩,i⟩ ih;refine ζa rfl (ζg rfl (fun hc => ?_) fun hc => ?_)
  ·have C:k<(XsK at' n sz).length:=by have:=of_decide_eq_true hc; omega
   obtain ⟨s,hs⟩:∃ s,s=(XsK at' n sz)[k]:=⟨_,rfl⟩;obtain ⟨i1,i2,i3,i4⟩:=XsH (page:=sz) (by omega) n at' s (hs▸List.getElem_mem C);have G:s.1<q.pages.length:=by
    have L:(s.1*sz:Nat)<q.pages.length*sz:=by
     have:((q.pages.length*sz:Nat):Int)=(q.pages.length:Int)*v.c.size:=by rw [a4]; rfl
     omega
    exact Nat.lt_of_mul_lt_mul_right L
   obtain ⟨rb,roff,an,H⟩:=(M.at C);subst an;rw [← hs] at H;have P:∀ j u,(XsE s)[j]? = some u→w3.cell? ⟨rb,roff+k*3+j,none⟩=some u:=fun j u hu=>i.cell (H j u hu) (am rb roff none rfl);have ah:=i.heap (f.heap' hpb) (fun e=>(hP1 _ e).1 rfl);have Q:=i.heap (f.heap' hvb) (fun e=>(hP1 _ e).2.1 rfl);have a6:=(hv.grow f).far (fun e=>(hP1 _ e).2.2 rfl) hPc hPk i;have ao:=(hq.grow f).far hPq i;refine ζi (k*3) rfl (Xay.loadC hTT (XsE s) rfl (by first | rfl | (simp; done) | (simp [*]; done) | (simp; omega)) (P) rfl (ζn rfl fun sb w4 e4 ap aq bh=>ζs ap rfl fun w5 ai ar bi => ?_));have p:=aq.since ar (fun z E e=>by omega);refine ζl (p.heap' Q) rfl (ζl (a6.grow p).obj rfl ?_);rw [hmb];refine ζc rfl (Xey A (Vs k) 1 w5 (N.grow p)) ?_;rintro _ w6 ⟨au,R⟩;refine ζa rfl ?_;have av:=hK _ _ _ _ (hK _ _ _ _ a5 (a2 p)) R;have aw:∀ {x y:World},Chg (Xkx A) x y→Chg (fun z=>Y0 z∨Xkx A z) x y:=fun h=>h.mono fun _ _ h => .inr h;have g:=(p.mono fun _ _ h=>h.elim).trans (aw R);have aj:=g.heap ah (fun e=>(hP1 _ e).1 rfl);have ak:=g.heap Q (fun e=>(hP1 _ e).2.1 rfl);have ax:=a6.far (fun e=>(hP1 _ e).2.2 rfl) hPc hPk g;have ay:=ao.far hPq g;have F:=R.heap ai (fun e=>by have:=N.mlt _ e; omega);obtain ⟨gb,goff,a7,az⟩:=ay.rd s.1 G;have b0:0≤q.pages.getD s.1 0∧q.pages.getD s.1 0<v.c.pages:=I _ (by rw [List.getD_eq_getElem?_getD,List.getElem?_eq_getElem G]; exact List.getElem_mem G);have S:0≤q.pages.getD s.1 0*v.c.size∧q.pages.getD s.1 0*v.c.size≤1024*4096:=⟨Int.mul_nonneg b0.1 (by omega),Int.mul_le_mul (by omega) (by omega) (by omega) (by omega)⟩;have b1:(Xm5 v.c q at' n)[k]'(by rw [B]; exact C)=(q.pages.getD s.1 0*v.c.size+s.2.1,(s.2.2:Int)):=by
    simp only [o,List.getElem_map,← hs]
   obtain ⟨cls,page,idx,pa,pc,pages⟩:=q;simp only at a7
   subst a7;refine ζd 18 XaX (by kernel_rfl) rfl fun c=>δl c aj rfl (δl c F rfl (Xaq.index hTT c rfl (j:=s.1) (show (0:Int)≤(s.1:Nat) by omega) (show ((s.1:Nat):Int)<pages.length by have:s.1<pages.length:=G; omega) (by simp) rfl (δk c az rfl (δl c ak rfl (δl c ax.obj rfl (Xaq.arith hTT c rfl (w64 (by show _∧_; simp only at S ⊢; omega)) rfl (δl c F rfl (Xaq.arith hTT c rfl (w64 (by show _∧_; simp only at S ⊢; omega)) rfl (δl c F rfl (δn c rfl fun w7 T => ?_))))))))));have D:=hy k Y w6 w7 (by rw [B]; exact C) (by unfold XeL; rw [if_pos d]; exact au) av T;rw [b1] at D;refine Xay.yield rfl D ?_;rintro _ w8 ⟨rfl,U,V,Y',W,a0⟩;refine ζa rfl (ζf rfl (ζj rfl ?_));have b6:m.heap.size≤w7.heap.size:=by have:=i.size; have:=g.size; have:=T.size; omega
   exact ih (k+1) _ _ ⟨C,U,⟨Y',W,fun z E=>(a0 z E).elim (O z) (fun h => .inr (by omega))⟩,
    ((i.trans g).trans (T.mono fun _ _ h=>h.elim)).since V (fun z E h => .inl ((O z h).elim id (fun h=>by omega)))⟩ (by omega) ⟨rfl,rfl,rfl,rfl,rfl,rfl,trivial⟩
  ·have b3:k=(XsK at' n sz).length:=by have:=of_decide_eq_false hc; omega
   subst b3;have b7:=f.size;rw [B];exact ζr Tryz.func290 rfl ⟨rfl,N,⟨Y,a5,fun z E=>(O z E).imp id (fun h=>by omega)⟩,(f.mono fun _ _ h=>h.elim).trans i⟩
 ·have o:Xm5 v.c q at' n = [(XvA v.c q+at',(n:Int))]:=by unfold Xm5; rw [if_neg d]
  obtain ⟨kk,pg,ix,a8,I,b4,bj,g1,g2,g3,g4,g5,g6,g7⟩:=XiN hv.may hin d;have b5:XvA v.c q=(pg:Int)*v.c.size+(ix:Int)*Xfb v.c kk:=by unfold XvA; rw [if_pos ⟨hin,d⟩,a8,I,b4]
  have J:XvB v.c q=Xfb v.c kk:=by unfold XvB; rw [if_pos hin,if_neg d,a8]
  rw [J] at hr;refine ζY rfl (show (q.cls != -1)=true by simpa using d) (ζd 7 XaX (by kernel_rfl) rfl fun c=>δl c hvb rfl (δl c hpb rfl (δv c (fun w' r=>XvG v q w' (hv.grow r) (hq.grow r)) rfl (δl c hab rfl (Xaq.arith hTT c rfl (w64 (by show _∧_; rw [b5]; omega)) rfl (δl c hnb rfl (δn c rfl fun m t => ?_)))))));have D:=hy 0 Y0 w m (by rw [o]; simp) (by unfold XeL; rw [if_neg d]; exact h0) hK0 t;rw [show (Xm5 v.c q at' n)[0]'(by rw [o]; simp)=(XvA v.c q+at',(n:Int)) from by simp only [o]; rfl] at D;refine Xay.yield rfl D ?_;rintro _ w8 ⟨rfl,U,V,Y',W,a0⟩;refine ζa rfl ?_;have a3:(Xm5 v.c q at' n).length=1:=by rw [o]; rfl
  rw [a3];have:=t.size;exact ζr Tryz.func290 rfl ⟨rfl,U,⟨Y',W,fun z E=>(a0 z E).imp id (fun h=>by omega)⟩,(t.mono fun _ _ h=>h.elim).trans (V.mono fun _ _ h => .inl h)⟩
def XeG (c:Conf) (q:Plc) (at' n:Int):Int:=if XvE c q=false then 1 else if at'<0∨n<0∨XvB c q<n∨XvB c q - n<at' then 8 else 0
theorem XvC {c:Conf} {q:Plc} (hm:XkH c=true) (hfew:q.pages.length≤4096):0≤XvB c q∧XvB c q≤16777216:=by
 obtain ⟨f,g,h⟩:=XkJ hm;unfold XvB;split
 ·rename_i d
  split
  ·have i:(q.pages.length:Int)*c.size≤4096*4096:=Int.mul_le_mul (by omega) (by omega) (by omega) (by omega);exact ⟨Int.mul_nonneg (by omega) (by omega),by omega⟩
  ·rename_i a
   obtain ⟨kk,pg,ix,b,_,_,e,_,j,k,_⟩:=XiN hm d a;rw [b]; omega
 ·omega
theorem Xag.blt {w:World} {A:Ar} {V:ArV} (h:Xag w A V):∀ b,b=A.ab∨b=A.db∨b=A.mc∨A.mb=some b→b<w.heap.size:=fun b hb=>by
 rcases hb with rfl | rfl | rfl | hb
 ·exact Xkj h.obj
 ·exact Xkj h.dat
 ·exact Xkj h.cap
 ·exact Xkj (h.met b hb).1
theorem XvP (v:Vw) (q:Plc) (at' n fk:Nat) (caps:List Value) (A:Ar) (Vs:Nat→ArV) (K:Nat→(Nat→Prop)→World→Prop) (Y0:Nat→Prop) (w:World)
 (hv:XbS w v) (hq:Xa8 w q) (hmb:v.mb=A.mb) (hck:XeG v.c q at' n=0) (hfew:q.pages.length≤4096)
 (hPv:¬ (Y0 v.vb∨Xkx A v.vb)) (hPq:0<q.pages.length→Xa0 (fun z=>Y0 z∨Xkx A z) q.pa) (hPc:0<v.c.classes.length→Xa0 (fun z=>Y0 z∨Xkx A z) v.p.ca) (hPk:0<v.c.keep.length→Xa0 (fun z=>Y0 z∨Xkx A z) v.p.ka)
 (hKlt:∀ k Y w,K k Y w → ∀ z,Y z→z<w.heap.size) (hK:∀ k Y w1 w2 S,K k Y w1→Chg S w1 w2→(∀ z,S z→Xkx A z∨(¬ Y z∧w.heap.size≤z))→K k Y w2)
 (hdo:∀ k Y w0 (h:k<(Xm5 v.c q at' n).length),Xag w0 A (XeL q A (Vs k))→K k Y w0 →
  Xan Tryz.prog fk (.int .i64 (Xm5 v.c q at' n)[k].1 :: .int .i64 (Xm5 v.c q at' n)[k].2::caps).toArray w0 (fun _ w'=>Xag w' A (Vs (k+1))∧Chg Y w0 w' ∧ ∃ Y',K (k+1) Y' w' ∧ ∀ z,Y' z→Y z∨w0.heap.size≤z))
 (h0:Xag w A (Vs 0)) (hK0:K 0 Y0 w) :
 Xan Tryz.prog 192 #[vwV v,.agg (Xoc q).toArray,.int .i64 at',.int .i64 n,.func (.func fk) #[] caps.toArray] w
  (fun u w'=>u = .int .i64 0∧Xag w' A (Vs (Xm5 v.c q at' n).length)∧(∃ Y',K (Xm5 v.c q at' n).length Y' w' ∧ ∀ z,Y' z→Y0 z∨w.heap.size≤z)∧Chg (fun z=>Y0 z∨Xkx A z) w w'):=by
 have l:=XvC (c:=v.c) (q:=q) hv.may hfew;have J:XvE v.c q=true:=by
  cases J:XvE v.c q with
  |true=>rfl
  |false=>unfold XeG at hck; rw [if_pos J] at hck; cases hck
 have b3:¬ ((at':Int)<0∨(n:Int)<0∨XvB v.c q<n∨XvB v.c q - n<at'):=fun h=>by
  unfold XeG at hck; rw [if_neg (by rw [J]; decide),if_pos h] at hck; cases hck
 refine ζe Tryz.func192 Tryz.ntmps192 rfl (ζn rfl fun qb w1 e1 ag ah ai=>ζn rfl fun db w2 e2 aj a1 bh => ?_);have j:=a1.heap' ag;have hw:=ah.trans a1;refine ζl j rfl (ζv (XvQ v q w2 (hv.grow hw) (hq.grow hw)) rfl fun w3 D => ?_);have L:=hw.trans D;rw [J];refine ζf rfl (ζf rfl (ζf rfl (ζl (D.heap' j) rfl (ζv (XvH v q w3 (hv.grow L) (hq.grow L) (by omega)) rfl fun w4 M => ?_))));have N:=L.trans M;refine ζf rfl (ζl ((D.trans M).heap' j) rfl (ζv (XvH v q w4 (hv.grow N) (hq.grow N) (by omega)) rfl fun w5 a2 => ?_));have a3:=N.trans a2;refine ζj rfl (ζf rfl ?_);have O:=(D.trans M).trans a2;refine ζl (O.heap' j) rfl (ζc rfl (XvS v q at' n w5) ?_);rintro _ w6 ⟨pb,vb,ab,nb,rfl,bi,bj,bk,bl,bpb,bvb,bab,bnb,a4⟩;refine ζa rfl ?_;have ak:=a3.trans a4;have P:=(O.trans a4).heap' aj;have l1:=Xkj bpb;have l2:=Xkj bvb;have b8:=a3.size;have b9:=Xkj P;refine Xay.rangeFunc rfl rfl ⟨Tryz.f290,Tryz.func290,rfl,rfl⟩ ?_;intro Q B tmps w7 E hB a7 al am g bm;have m:=ak.trans g;have R:=hKlt _ _ _ hK0;have F:=h0.mlt;have bn:=Xkj hv.obj;have hN:∀ {x y:World} {k Y},K k Y x→Chg XaX x y→K k Y y:=fun hk hc=>hK _ _ _ _ _ hk hc (fun _ h=>h.elim);have a9:Q.state = .ready:=by rw [E]
 have bc:({Q with state := .ready,pending:=none}:Loop)=Q:=by rw [E]
 have aa:Q.pending=none:=by rw [E]
 refine (XvT (B+1) v q at' n pb vb ab nb A Vs
  (fun k T x => ∃ Y,K k Y x∧(∀ z,T z↔Y z∨z=B+1)∧x.heap[B+1]? = some (.loop Q)∧x.heap[B]? = some (.deferred (some []))∧x.heap[db]? = some (.cells ([.func (.func fk) #[] caps.toArray]:List Value).toArray 150 (0,0))∧(∀ z,Y z→z≠B∧z≠B+1∧z≠db))
  (fun z=>Y0 z∨z=B+1) w7 (hv.grow m) (hq.grow m) hmb J (by omega) hfew (g.heap' bpb) (g.heap' bvb) (g.heap' bab) (g.heap' bnb) ?_ ?_ ?_ ?_ ?_ ?_ ?_ (h0.grow m) ?_).mono ?_
 ·intro z hz;rcases hz with (hz | hz) | hz
  ·have:=R z hz;exact ⟨by omega,by omega,fun e=>hPv (.inl (e▸hz))⟩
  ·exact ⟨by omega,by omega,by omega⟩
  ·have:=F z hz;exact ⟨by omega,by omega,fun e=>hPv (.inr (e▸hz))⟩
 ·exact hq.rd.outNew hPq (fun z hz=>by rcases hz with (hz | hz) | hz; exact .inl (.inl hz); exact .inr (by omega); exact .inl (.inr hz))
 ·exact hv.conf.classes.outNew hPc (fun z hz=>by rcases hz with (hz | hz) | hz; exact .inl (.inl hz); exact .inr (by omega); exact .inl (.inr hz))
 ·exact hv.conf.keep.outNew hPk (fun z hz=>by rcases hz with (hz | hz) | hz; exact .inl (.inl hz); exact .inr (by omega); exact .inl (.inr hz))
 ·rintro k T x ⟨Y,p,d,r,I,U,f⟩ z hz;rcases (d z).1 hz with hz | rfl
  ·exact hKlt _ _ _ p z hz
  ·exact Xkj r
 ·rintro k T x y ⟨Y,p,d,r,I,U,f⟩ hs;exact ⟨Y,hK _ _ _ _ _ p hs (fun z h => .inl h),d,hs.heap r (fun e=>by have:=F _ e; omega),hs.heap I (fun e=>by have:=F _ e; omega),hs.heap U (fun e=>by have:=F _ e; omega),f⟩
 ·rintro k T x0 x hk ao ⟨Y,p,d,r,I,U,f⟩ V;have hA:=ao.grow V;have s:=V.heap' r;have ac:=V.heap' I;have t:=V.heap' U;have ap:=hN p V;subst E;refine XbT.enter (ps := [46,47]) s rfl rfl a7 rfl (ζa rfl (Xay.beginRound rfl s rfl fun x1 aq i ai=>ζa rfl ?_));have ad:=hK _ _ _ _ _ ap i (fun z e => .inr ⟨fun a=>(f z a).2.1 e,by omega⟩);have ar:=hA.chg i (fun b l e=>by have:=h0.blt b l; omega);refine ζl (i.heap t (by omega)) rfl (ζc rfl (hdo k Y x1 hk ar ad) ?_);rintro _ x2 ⟨au,G,Y',av,a5⟩;refine ζa rfl ?_;have aw:=G.heap aq (fun a=>(f _ a).2.1 rfl);refine Xay.roundEnd rfl aw ?_;intro x3 ax o bo;have bf:=Xkj t;have b4:=Xkj s;have W:∀ z,Y' z→z≠B∧z≠B+1∧z≠db:=fun z hz=>(a5 z hz).elim (f z) (fun h=>by omega);have ay:=au.chg o (fun b l e=>by have:=h0.blt b l; omega);have az:=hK _ _ _ _ _ av o (fun z e => .inr ⟨fun a=>(W z a).2.1 e,by omega⟩);refine ⟨_,rfl,rfl,ay,((i.mono fun z _ e=>(d z).2 (.inr e)).trans (G.mono fun z _ e=>(d z).2 (.inl e))).trans (o.mono fun z _ e=>(d z).2 (.inr e)),fun z=>Y' z∨z=B+1,⟨Y',az,fun z=>Iff.rfl,ax,o.heap (G.heap (i.heap ac (by omega)) (fun a=>(f _ a).1 rfl)) (by omega),o.heap (G.heap (i.heap t (by omega)) (fun a=>(f _ a).2.2 rfl)) (by omega),W⟩,fun z hz => ?_⟩;rcases hz with hz | hz
  ·exact (a5 z hz).elim (fun h => .inl ((d z).2 (.inl h))) (fun h => .inr (by omega))
  ·exact .inl ((d z).2 (.inr hz))
 ·exact ⟨Y0,hN hK0 m,fun z=>Iff.rfl,am,al,g.heap' P,fun z hz=>by have:=R z hz; omega⟩
 ·rintro _ w8 ⟨rfl,b0,⟨T,⟨Y,p,d,r,I,U,f⟩,b1⟩,b2⟩;refine ⟨_,r,by rw [a9]; simp,?_⟩;intro w9 H bp;rw [aa];refine ζa rfl (Xay.retM hTT rfl Tryz.func192 (H.heap I (by omega)) (vs := [.int .i64 0]) (fun _ _ => .tmp rfl .nil) fun bq C bg => ?_);have ae:=(b0.chg H (fun b l e=>by have:=h0.blt b l; omega)).chg C (fun b l e=>by have:=h0.blt b l; omega);have af:=hK _ _ _ _ _ (hK _ _ _ _ _ p H (fun z e => .inr ⟨fun a=>(f z a).2.1 e,by omega⟩)) C (fun z e => .inr ⟨fun a=>(f z a).1 e,by omega⟩);refine ⟨rfl,ae,⟨Y,af,fun z hz => ?_⟩,?_⟩
  ·rcases b1 z ((d z).2 (.inl hz)) with (h | h) | h
   ·exact .inl h
   ·exact .inr (by omega)
   ·exact .inr (by omega)
  ·exact ((((m.mono fun _ _ h=>h.elim).since b2 (fun z hz h=>by rcases h with (h | h) | h; exact .inl h; exact absurd hz (by omega); exact .inr h))).since H (fun z hz e=>absurd hz (by omega))).since C (fun z hz e=>absurd hz (by omega))
theorem XcP (A:Ar) (V:ArV) (i n:Nat) (w:World) (h:Xag w A V) (ht:i+n≤V.bs.length):Xan Tryz.prog 292 #[.pointer (some ⟨A.ab,0,none⟩),.int .i64 i,.int .i64 n] w
 (fun v w' => ∃ x,v = .tuple #[.slice x n (V.bs.length - i),.int .i64 0]∧(0<n→x=some ⟨A.db,i,none⟩)∧x.isSome=true∧w=w') :=
 (XcO A V i n w h ht).mono fun _ _ ⟨a,b⟩=>⟨_,a,fun c=>XsG ht c,by unfold XrR; split <;> rfl,b⟩
theorem XcG (A:Ar) (V:ArV) (t f n:Nat) (w:World) (h:Xag w A V) (hf:f+n≤V.bs.length) (ht:t+n≤V.bs.length) :
 Xan Tryz.prog 259 #[.pointer (some ⟨A.ab,0,none⟩),.int .i64 t,.int .i64 f,.int .i64 n] w (fun v w'=>v = .int .i64 0∧Xag w' A {V.charge A n with bs:=wrB V.bs t (sub V.bs f n)}∧Chg (XgK A) w w'):=by
 refine Xan.enter Tryz.func259 rfl Tryz.ntmps259 rfl rfl ?_;refine ζa rfl ?_;refine ζc rfl (XcP A V f n w h hf) ?_;rintro _ E ⟨y,rfl,u,_,rfl⟩;refine ζa rfl ?_;refine Xay.no hTT rfl rfl rfl ?_;refine ζc rfl (XcN A V t n w h ht) ?_;rintro _ z ⟨x,rfl,a,_,d,B⟩;refine ζa rfl ?_;have e:Chg (XgK A) w z:=B.mono fun b _ m => .inr m;have e1:=V.charge_bs A n;by_cases q:n=0
 ·refine Xay.copy0 hTT rfl (by simp [q]) rfl ?_;subst q;have o:sub V.bs f 0 = []:=by simp [sub]
  exact Xay.ret1 hTT rfl Tryz.func259 rfl rfl ⟨rfl,by rw [o,Xwr,← V.charge_bs A 0]; exact d,e⟩
 ·have r:=a (by omega);have s:=u (by omega);subst r s;have g:=d.sub (i:=f) (n:=n) (x:=some ⟨A.db,f,none⟩) (fun _=>rfl) (by rw [e1]; exact hf);rw [e1] at g;have j:=d.dat;rw [e1] at j;have c:=Xue hf;refine Xay.copy hTT rfl j (cs:=(sub V.bs f n).map (Value.int .u8)) (by simp [c]) g.cells (by simp [c]; omega) Xn7 ?_;intro F k l D;refine ζa rfl ?_;have p:(V.bs.map (Value.int .u8)).take t++(sub V.bs f n).map (Value.int .u8)++(V.bs.map (Value.int .u8)).drop (t+((sub V.bs f n).map (Value.int .u8)).length)=(wrB V.bs t (sub V.bs f n)).map (Value.int .u8):=by
   unfold wrB; simp [List.map_take,List.map_drop]
  rw [p] at k;have C:=d.laid k l (by rw [Xwp (by rw [c]; exact ht),e1]) (fun x a=>(Xwq a).elim (h.rng x) (fun a=>h.rng x (List.mem_of_mem_drop (List.mem_of_mem_take a))));exact Xay.ret1 hTT rfl Tryz.func259 rfl rfl ⟨rfl,C,e.trans (l.mono fun b _ m => .inl m)⟩
theorem Xwo {bs l:List Int} {i j:Nat} (h:i+l.length≤bs.length):(wrB bs i l).getD j 0=if j<i then bs.getD j 0 else if j<i+l.length then l.getD (j - i) 0 else bs.getD j 0:=by
 unfold wrB;simp only [List.getD_eq_getElem?_getD];by_cases a:j<i
 ·rw [if_pos a,List.append_assoc,List.getElem?_append_left (by simp; omega),List.getElem?_take,if_pos a]
 ·rw [if_neg a];by_cases b:j<i+l.length
  ·rw [if_pos b,List.getElem?_append_left (by simp; omega),List.getElem?_append_right (by simp; omega)];simp [show min i bs.length=i from by omega]
  ·rw [if_neg b,List.getElem?_append_right (by simp; omega)];simp only [List.length_append,List.length_take,List.getElem?_drop,show min i bs.length=i from by omega];rw [show i+l.length+(j - (i+l.length))=j from by omega]
theorem Xf6 {a b:List Int} (hl:a.length=b.length) (h:∀ j,j<a.length→a.getD j 0=b.getD j 0):a=b:=by
 apply List.ext_getElem hl
 intro j c d;have:=h j c
 simpa [List.getD,c,d] using this
theorem Xq7 {l:List Int} {i j:Nat} {x:Int} (hi:i<l.length):(l.set i x).getD j 0=if j=i then x else l.getD j 0:=by
 simp only [List.getD_eq_getElem?_getD,List.getElem?_set];by_cases h:i=j
 ·subst h; simp [hi]
 ·rw [if_neg h,if_neg (Ne.symm h)]
theorem Xq1:∀ (l:List Value) (i:Nat) (v:Value),i<l.length→XqS l i [v]=some (l.set i v)
 |x::r,0,v,_=>by simp [XqS]
 |x::r,i+1,v,h=>by simp [XqS,Xq1 r i v (by simpa using h)]
theorem XqT {l:List Int} {i:Nat} {x:Int} (hi:i<l.length):XqS (l.map (Value.int .u8)) i [.int .u8 x]=some ((l.set i x).map (Value.int .u8)):=by
 rw [Xq1 _ _ _ (by simpa using hi),List.map_set]
theorem Xwu {z:Int}:IntKind.u8.wrap z=z % 256:=by
 simp only [IntKind.wrap,IntKind.signed,IntKind.bits]
 simp
def XmU (bs:List Int) (i:Nat) (l:List Int) (k:Nat):List Int:=wrB bs i (l.take k)
theorem XmY {bs l:List Int} {i k:Nat} (h:i+l.length≤bs.length) (hk:k<l.length):(XmU bs i l k).set (i+k) (l.getD k 0)=XmU bs i l (k+1):=by
 unfold XmU;have n:(l.take k).length=k:=by simp; omega
 have o:(l.take (k+1)).length=k+1:=by simp; omega
 have c:(wrB bs i (l.take k)).length=bs.length:=Xwp (by omega);have d:(wrB bs i (l.take (k+1))).length=bs.length:=Xwp (by omega);refine Xf6 (by simp [c,d]) fun j p => ?_;have f:∀ m,m<k→(l.take k).getD m 0=l.getD m 0:=fun m hm=>by simp [List.getD,hm]
 have a:∀ m,m<k+1→(l.take (k+1)).getD m 0=l.getD m 0:=fun m hm=>by simp [List.getD,hm]
 rw [Xq7 (by omega),Xwo (by omega),Xwo (by omega),n,o];by_cases e:j=i+k
 ·subst e;rw [if_pos rfl,if_neg (by omega),if_pos (by omega),show i+k - i=k from by omega,a k (by omega)]
 ·rw [if_neg e];by_cases b:j<i
  ·rw [if_pos b,if_pos b]
  ·rw [if_neg b,if_neg b];by_cases g:j<i+k
   ·rw [if_pos g,if_pos (by omega),f _ (by omega),a _ (by omega)]
   ·rw [if_neg g,if_neg (by omega)]
theorem XmZ {bs l:List Int} {i:Nat}:XmU bs i l 0=bs:=by unfold XmU; simp [Xwr]
theorem XmV {bs l:List Int} {i:Nat}:XmU bs i l l.length=wrB bs i l:=by unfold XmU; rw [List.take_length]
theorem XmX {bs l:List Int} {i k:Nat} (h:i+l.length≤bs.length):(XmU bs i l k).length=bs.length:=Xwp (by simp; omega)
theorem XmW {bs l:List Int} {i k:Nat} (h:InB bs) (h':InB l):InB (XmU bs i l k):=fun x a=>(Xwq a).elim (h x) (fun a=>h' x (List.mem_of_mem_take a))
theorem Xmp {c:Int} (h:0≤c∧c<256):Xdr .or .u8 0 c=c:=by
 obtain ⟨c,rfl⟩:=Int.eq_ofNat_of_zero_le h.1;have a:(BitVec.ofInt 8 (0:Int) ||| BitVec.ofInt 8 (c:Int)).toNat=c:=by
  rw [BitVec.toNat_or,BitVec.toNat_ofInt,BitVec.toNat_ofInt];rw [show ((c:Int) % ((2 ^ 8:Nat):Int)).toNat=c from by omega]
  simp
 change IntKind.u8.wrap ((BitVec.ofInt 8 (0:Int) ||| BitVec.ofInt 8 (c:Int)).toNat:Int)=_
 rw [a,Xwu];omega
theorem XfB {w:World} {A:Ar} {V:ArV} {j:Nat} (h:Xag w A V) (hj:j<V.bs.length):w.cell? ⟨A.db,j,none⟩=some (.int .u8 (V.bs.getD j 0)):=by
 rw [Xel h.dat]; simp [hj]
theorem XcH (A:Ar) (V:ArV) (i n:Nat) (c:Int) (w:World) (h:Xag w A V) (ht:i+n≤V.bs.length) (hc:0≤c∧c<256) :
 Xan Tryz.prog 200 #[.pointer (some ⟨A.ab,0,none⟩),.int .i64 i,.int .i64 n,.int .u8 c] w (fun v w'=>v = .int .i64 0∧Xag w' A {V.charge A n with bs:=wrB V.bs i (List.replicate n c)}∧Chg (XgK A) w w'):=by
 have U:=h.len;refine Xan.enter Tryz.func200 rfl Tryz.ntmps200 rfl rfl ?_;refine ζa rfl ?_;refine ζc rfl (XcN A V i n w h ht) ?_;rintro _ W ⟨x,rfl,a,_,C,hs⟩;refine ζa rfl ?_;have p:Chg (XgK A) w W:=hs.mono fun b _ f => .inr f;have e1:=V.charge_bs A n;by_cases J:n=0
 ·refine Xay.clear0 hTT rfl J rfl ?_;refine Xay.unroll hTT rfl ?_;refine Xay.no hTT rfl (decide_eq_false (by omega)) rfl ?_;subst J;exact Xay.ret1 hTT rfl Tryz.func200 rfl rfl ⟨rfl,by rw [List.replicate_zero,Xwr,← V.charge_bs A 0]; exact C,p⟩
 ·have K:=a (by omega);subst K;have q:=C.dat;rw [e1] at q;have L:(List.replicate n (0:Int)).length=n:=List.length_replicate;have M:(List.replicate n c).length=n:=List.length_replicate;refine Xay.clear hTT rfl q rfl rfl (by omega) (by simp; omega) ?_;intro w2 r s a6;refine ζa rfl ?_;have D:(V.bs.map (Value.int .u8)).take i++List.replicate n (Value.int .u8 0)++(V.bs.map (Value.int .u8)).drop (i+n)=(wrB V.bs i (List.replicate n 0)).map (Value.int .u8):=by
   unfold wrB; simp [List.map_take,List.map_drop]
  rw [D] at r;have t:InB (List.replicate n (0:Int)):=fun x a=>by rw [List.eq_of_mem_replicate a]; omega
  have N:InB (List.replicate n c):=fun x a=>by rw [List.eq_of_mem_replicate a]; exact hc
  have O:=C.laid r s (by rw [Xwp (by omega),e1]) (fun x a=>(Xwq a).elim (h.rng x) (t x));have E:Chg (XgK A) w w2:=p.trans (s.mono fun b _ f => .inl f);obtain ⟨d,e⟩:∃ d,d=wrB V.bs i (List.replicate n 0):=⟨_,rfl⟩;rw [← e] at O;have g:d.length=V.bs.length:=by rw [e,Xwp (by omega)]
  have F:InB d:=fun x a=>by rw [e] at a; exact (Xwq a).elim (h.rng x) (t x)
  refine Xay.loop (α:=Nat) (fun k => [(3,false,.int .u8 c),(9,false,.slice (some ⟨A.db,i,none⟩) n (V.bs.length - i)),(10,false,.int .i64 0),(21,false,.int .i64 n),(22,false,.int .i64 k)])
   (fun k w'=>Xag w' A {V.charge A n with bs:=XmU d i (List.replicate n c) k}∧Chg (XgK A) w w'∧k≤n) (fun k=>n - k) 0 ⟨rfl,rfl,rfl,rfl,rfl,trivial⟩ ⟨by rw [XmZ]; exact O,E,by omega⟩ ?_
  rintro k w3 ⟨m,u,hk⟩ ih;refine ζa rfl ?_;refine Xay.fork hTT rfl rfl rfl (fun G => ?_) (fun G => ?_)
  ·have y:k<n:=by have:=of_decide_eq_true G; omega
   have z:(XmU d i (List.replicate n c) k).length=V.bs.length:=by rw [XmX (by omega),g]
   have P:(XmU d i (List.replicate n c) k).getD (i+k) 0=0:=by
    unfold XmU;rw [Xwo (by simp; omega),if_neg (by omega),if_neg (by simp; omega),e,Xwo (by omega),if_neg (by omega),if_pos (by omega)];simp [List.getD,y]
   have o:w3.cell? ⟨A.db,i+k,none⟩=some (.int .u8 0):=by rw [← P]; exact XfB (j:=i+k) m (by simp only [z]; omega)
   refine Xay.index hTT rfl (j:=k) (by omega) (by omega) (by first | rfl | omega | (simp; done) | (simp; omega)) rfl ?_;refine ζk rfl o rfl ?_;refine Xay.bits hTT rfl (Xmp hc) rfl ?_;refine Xay.index hTT rfl (j:=k) (by omega) (by omega) (by first | rfl | omega | (simp; done) | (simp; omega)) rfl ?_;refine Xay.store hTT rfl m.dat (XqT (by simp only [z]; omega)) rfl ?_;intro w4 Q B a7;refine ζa rfl ?_;have H:w4.heap[A.db]? = some (.cells ((XmU d i (List.replicate n c) (k+1)).map (Value.int .u8)).toArray 5 (0,0)):=by
    rw [← XmY (l:=List.replicate n c) (i:=i) (bs:=d) (k:=k) (by omega) (by omega),show (List.replicate n c).getD k 0=c from by simp [List.getD,y]]; exact Q
   have h4:=m.laid H B (by simp only; rw [XmX (by omega),XmX (by omega)]) (XmW F N);refine Xay.arith hTT rfl (w64 (by omega)) rfl ?_;exact ih (k+1) _ _ ⟨h4,u.trans (B.mono fun b _ f => .inl f),by omega⟩ (by omega) ⟨rfl,rfl,rfl,rfl,rfl,trivial⟩
  ·have R:k=n:=by have:=of_decide_eq_false G; omega
   subst R;have I:XmU d i (List.replicate k c) k=wrB V.bs i (List.replicate k c):=by
    refine Xf6 (by rw [XmX (by omega),Xwp (by omega),g]) fun j hj => ?_;have a8:=hj;unfold XmU;rw [show (List.replicate k c).take k=List.replicate k c from by simp,Xwo (by omega),Xwo (by omega),e,Xwo (by omega)];by_cases S:j<i
    ·simp only [if_pos S]
    ·simp only [if_neg S,M,L];by_cases T:j<i+k
     ·simp only [if_pos T]
     ·simp only [if_neg T]
   rw [I] at m;exact Xay.ret1 hTT rfl Tryz.func200 rfl rfl ⟨rfl,m,u⟩
theorem Xm7 {c:Conf} {q:Plc} {at' n:Nat} (hm:XkH c=true) (hck:XeG c q at' n=0) (hfew:q.pages.length≤4096) :
 ∀ p ∈ Xm5 c q at' n,∃ i m:Nat,p=((i:Int),(m:Int))∧((i+m:Nat):Int)≤c.size*c.pages:=by
 obtain ⟨C,D,E⟩:=XkJ hm;have d:XvE c q=true:=by
  cases d:XvE c q with
  |true=>rfl
  |false=>unfold XeG at hck; rw [if_pos d] at hck; cases hck
 have v:¬ ((at':Int)<0∨(n:Int)<0∨XvB c q<n∨XvB c q - n<at'):=fun h=>by
  unfold XeG at hck; rw [if_neg (by rw [d]; decide),if_pos h] at hck; cases hck
 intro p e;unfold Xm5 at e;split at e
 ·rename_i b
  obtain ⟨s,o,rfl⟩:=List.mem_map.1 e;obtain ⟨w,f⟩:=XiL d b;have r:XvB c q=(q.pages.length:Int)*c.size:=by unfold XvB; rw [if_pos d,if_pos b]
  obtain ⟨sz,j⟩:=Int.eq_ofNat_of_zero_le (show 0≤c.size by omega);rw [show c.size.toNat=sz from by omega] at o;obtain ⟨F,G,H,I⟩:=XsH (page:=sz) (by omega) n at' s o;have k:s.1<q.pages.length:=by
   have x:(s.1*sz:Nat)<q.pages.length*sz:=by
    have:((q.pages.length*sz:Nat):Int)=(q.pages.length:Int)*c.size:=by rw [j]; rfl
    omega
   exact Nat.lt_of_mul_lt_mul_right x
  have t:=f _ (show q.pages.getD s.1 0 ∈ q.pages by rw [List.getD_eq_getElem?_getD,List.getElem?_eq_getElem k]; exact List.getElem_mem k);obtain ⟨g,y⟩:=Int.eq_ofNat_of_zero_le t.1;refine ⟨g*sz+s.2.1,s.2.2,?_,?_⟩
  ·rw [y,j]; rfl
  ·have e2:(g:Int)*c.size+c.size≤c.size*c.pages:=by
    have:((g:Int)+1)*c.size≤c.pages*c.size:=Int.mul_le_mul_of_nonneg_right (by omega) (by omega);rw [Int.add_mul,Int.one_mul,Int.mul_comm c.pages] at this;exact this
   have e3:((g*sz:Nat):Int)=(g:Int)*c.size:=by rw [j]; rfl
   omega
 ·rename_i b
  simp at e;subst e;obtain ⟨kk,pg,ix,l,f,u,A,J,K,L,M,N,O,P⟩:=XiN hm d b;have B:XvA c q=(pg:Int)*c.size+(ix:Int)*Xfb c kk:=by unfold XvA; rw [if_pos ⟨d,b⟩,l,f,u]
  have r:XvB c q=Xfb c kk:=by unfold XvB; rw [if_pos d,if_neg b,l]
  obtain ⟨a,z⟩:=Int.eq_ofNat_of_zero_le (show 0≤XvA c q by omega);exact ⟨a+at',n,by rw [z]; rfl,by omega⟩
def vsT (q:Plc) (A:Ar) (V:ArV) (ps:List (Int × Int)):Nat→ArV
 |0=>V
 |k+1=>(XeL q A (vsT q A V ps k)).charge A (ps.getD k (0,0)).2
theorem XeM (q:Plc) (A:Ar) (V:ArV):(XeL q A V).bs=V.bs:=by unfold XeL; split; exact V.charge_bs A 1; rfl
theorem XvX (q:Plc) (A:Ar) (V:ArV) (ps:List (Int × Int)):∀ k,(vsT q A V ps k).bs=V.bs
 |0=>rfl
 |k+1=>by unfold vsT; rw [ArV.charge_bs,XeM,XvX q A V ps k]
def XoP (bs:List Int) (ps:List (Int × Int)):List Int:=ps.flatMap fun p=>sub bs p.1.toNat p.2.toNat
theorem XvK (v:Vw) (vb ob:Nat) (A:Ar) (V:ArV) (i m base j:Nat) (u:Value) (xs:List Int) (w:World) (hvb:Xox w vb v) (hv:w.heap[v.vb]? = some (.cells (vwL v).toArray 211 (0,0))) (hab:v.ab=A.ab)
 (hob:w.heap[ob]? = some (.cells ([u]:List Value).toArray 32 (0,0))) (hown:Own base 5 1 w u j (xs.map (Value.int .u8))) (hbase:base≤w.heap.size) (hobb:ob<base) (hA:Xag w A V) (him:i+m≤V.bs.length) (hj:j+m≤16777216)
 (hmo:∀ z,Xkx A z→z≠ob∧z<base) (hArow:∀ b,b=A.ab∨b=A.db∨b=A.mc∨A.mb=some b→some b=u.ownBlock→False) (hAob:∀ b,b=A.ab∨b=A.db∨b=A.mc∨A.mb=some b→b=ob→False) :
 Xan Tryz.prog 193 #[.int .i64 i,.int .i64 m,.pointer (some ⟨vb,0,none⟩),.pointer (some ⟨ob,0,none⟩)] w (fun _ w'=>Xag w' A (V.charge A m)∧Chg (fun z=>z=ob∨some z=u.ownBlock∨Xkx A z) w w' ∧
  ∃ u',w'.heap[ob]? = some (.cells ([u']:List Value).toArray 32 (0,0))∧Own base 5 1 w' u' (j+m) ((xs++sub V.bs i m).map (Value.int .u8)) ∧ ∀ z,some z=u'.ownBlock→some z=u.ownBlock∨w.heap.size≤z):=by
 have R:maxLen=9223372036854775807:=rfl;refine ζe Tryz.func193 Tryz.ntmps193 rfl (ζl hvb rfl (ζl hv rfl ?_));rw [hab];refine ζc rfl (XcK A V i m w hA him) ?_;rintro _ M ⟨T,rfl,⟨g,cap,cur,rfl,U,J,K,D⟩,E,f⟩;refine ζa rfl ?_;have s:=Xue him;have n:=f.heap hob (fun e=>(hmo _ e).1 rfl);have t:=hown.chg f (fun b a e=>by have:=(World.ownsRow.lt hown b a.symm).1; have:=(hmo _ e).2; omega);rw [s] at K D ⊢;have N:=f.size;refine ζl n rfl ?_;have C:∀ k x,((sub V.bs i m).map (Value.int .u8))[k]? = some x→M.cell? ((⟨g,0,none⟩:Addr).add k)=some x:=fun k x G=>by
  rw [XbV,Xel J];have O:k<m:=by have:=(List.getElem?_eq_some_iff.1 G).1; simpa [s] using this
  rw [← D,List.getElem?_take,if_pos O] at G
  simpa using G
 refine Xay.append (base:=base) (news:=(sub V.bs i m).map (Value.int .u8)) hTT rfl t (by omega) (by simp [s]) C Xn7 (by simp only; omega) ?_;intro W w2 l d F;rcases l.2 with ⟨o,S⟩ | ⟨g2,P,Q,o,_⟩
 ·subst o;refine ζa rfl ?_;have p:=d.heap n (fun e=>by have:=(World.ownsRow.lt t _ e.symm).1; omega);refine ζs p rfl fun H q c L => ?_;have y:=l.chg c (fun b a e=>by have:=(World.ownsRow.lt l b a.symm).1; omega);have B:=(E.chg d (fun b a e=>hArow b a e)).chg c (fun b a e=>hAob b a e);have I:Chg (fun z=>z=ob∨some z=u.ownBlock∨Xkx A z) w H:=((f.mono fun z _ h => .inr (.inr h)).trans (d.mono fun z _ h => .inr (.inl h))).trans (c.mono fun z _ h => .inl h);exact ζr Tryz.func193 rfl ⟨B,I,_,q,by rw [List.map_append]; exact y,fun z r=>by rcases F.2 with h | h; exact .inl (r.trans h); exact .inr (by rw [h] at r; cases r; omega)⟩
 ·subst o;refine ζa rfl ?_;have p:=d.heap n (fun e=>by have:=(World.ownsRow.lt t _ e.symm).1; omega);refine ζs p rfl fun H q c L => ?_;have y:=l.chg c (fun b a e=>by have:=(World.ownsRow.lt l b a.symm).1; omega);have B:=(E.chg d (fun b a e=>hArow b a e)).chg c (fun b a e=>hAob b a e);have I:Chg (fun z=>z=ob∨some z=u.ownBlock∨Xkx A z) w H:=((f.mono fun z _ h => .inr (.inr h)).trans (d.mono fun z _ h => .inr (.inl h))).trans (c.mono fun z _ h => .inl h);exact ζr Tryz.func193 rfl ⟨B,I,_,q,by rw [List.map_append]; exact y,fun z r=>by rcases F.2 with h | h; exact .inl (r.trans h); exact .inr (by rw [h] at r; cases r; omega)⟩
theorem XsO {page:Nat} (hp:1≤page):∀ (n at':Nat),((XsK at' n page).map fun s=>s.2.2).sum=n:=by
 intro n
 induction n using Nat.strongRecOn with
 |_ n ih =>
  intro at';by_cases a:n=0
  ·subst a; rfl
  ·have b:=XhC (at':=at') hp (show 0<n by omega);rw [XsL hp (by omega),List.map_cons,List.sum_cons,ih _ (by omega)];unfold XhB;simp only
   omega
def Xvd (ps:List (Int × Int)):Nat:=(ps.map fun p=>p.2.toNat).sum
theorem Xvf (p:Int × Int) (ps:List (Int × Int)):Xvd (p::ps)=p.2.toNat+Xvd ps:=by simp [Xvd]
theorem Xve (a b:List (Int × Int)):Xvd (a++b)=Xvd a+Xvd b:=by simp [Xvd]
theorem Xm9 {c:Conf} {q:Plc} {at' n:Nat} (hm:XkH c=true):Xvd (Xm5 c q at' n)=n:=by
 obtain ⟨a,b,d⟩:=XkJ hm;unfold Xm5;split
 ·unfold Xvd;rw [List.map_map];have:=XsO (page:=c.size.toNat) (by omega) n at';exact this
 ·simp [Xvd]
theorem Xvh {ps:List (Int × Int)} {k:Nat} (h:k<ps.length):Xvd (ps.take k)+ps[k].2.toNat≤Xvd ps:=by
 have e:ps=ps.take k++ps[k]::ps.drop (k+1):=by rw [← List.drop_eq_getElem_cons h,List.take_append_drop]
 have e2:Xvd ps=Xvd (ps.take k)+(ps[k].2.toNat+Xvd (ps.drop (k+1))):=by
  conv=>lhs; rw [e]
  rw [Xve,Xvf]
 omega
theorem XoQ {bs:List Int} {N:Nat} (hN:bs.length=N):∀ {ps:List (Int × Int)},(∀ p ∈ ps,∃ i m:Nat,p=((i:Int),(m:Int))∧i+m≤N)→(XoP bs ps).length=Xvd ps
 |[],_=>rfl
 |p::r,h=>by
  obtain ⟨i,m,rfl,b⟩:=h p List.mem_cons_self;rw [Xvf];unfold XoP;rw [List.flatMap_cons,List.length_append];have:=XoQ hN (ps:=r) (fun p a=>h p (List.mem_cons_of_mem _ a));unfold XoP at this;rw [this];simp only [Int.toNat_natCast];rw [Xue (by omega)]
theorem XvZ {q:Plc} {A:Ar} {V:ArV} {ps:List (Int × Int)} {k:Nat} (h:k<ps.length):vsT q A V ps (k+1)=(XeL q A (vsT q A V ps k)).charge A ps[k].2:=by
 show (XeL q A (vsT q A V ps k)).charge A (ps.getD k (0,0)).2=_
 rw [List.getD_eq_getElem?_getD,List.getElem?_eq_getElem h]; rfl
theorem XvJ (v:Vw) (q:Plc) (at' n:Nat) (A:Ar) (V:ArV) (w:World) (hv:XbS w v) (hq:Xa8 w q) (hmb:v.mb=A.mb) (hab:v.ab=A.ab) (hck:XeG v.c q at' n=0) (hfew:q.pages.length≤4096)
 (hPv:¬ Xkx A v.vb) (hPq:0<q.pages.length→Xa0 (Xkx A) q.pa) (hPc:0<v.c.classes.length→Xa0 (Xkx A) v.p.ca) (hPk:0<v.c.keep.length→Xa0 (Xkx A) v.p.ka) (hA:Xag w A V) (hlen:(V.bs.length:Int)=v.c.size*v.c.pages) :
 Xan Tryz.prog 126 #[vwV v,.agg (Xoc q).toArray,.int .i64 at',.int .i64 n] w (fun u w' => ∃ u1,u = .tuple #[u1,.int .i64 0]∧Xag w' A (vsT q A V (Xm5 v.c q at' n) (Xm5 v.c q at' n).length)∧Chg (Xkx A) w w' ∧
  Own w.heap.size 5 1 w' u1 (XoP V.bs (Xm5 v.c q at' n)).length ((XoP V.bs (Xm5 v.c q at' n)).map (Value.int .u8))):=by
 obtain ⟨ps,l⟩:∃ ps,ps=Xm5 v.c q at' n:=⟨_,rfl⟩;have E:∀ p ∈ ps,∃ i m:Nat,p=((i:Int),(m:Int))∧i+m≤V.bs.length:=fun p r=>by
  obtain ⟨i,m,o,d⟩:=Xm7 hv.may hck hfew p (l▸r);exact ⟨i,m,o,by omega⟩
 have af:Xvd ps=n:=by rw [l]; exact Xm9 hv.may
 have ak:=XvC (c:=v.c) (q:=q) hv.may hfew;have hn:n≤16777216:=by
  unfold XeG at hck;split at hck
  ·cases hck
  ·split at hck
   ·cases hck
   ·omega
 rw [← l];refine Xan.enter Tryz.func126 rfl Tryz.ntmps126 rfl rfl ?_;refine ζa rfl ?_;refine Xay.alloc hTT rfl ?_;intro vb w1 e1 W a0 al;refine ζa rfl ?_;refine Xay.alloc hTT rfl ?_;intro qb w2 e2 F N am;refine ζa rfl ?_;refine Xay.alloc hTT rfl ?_;intro ob s e3 a6 G an;refine ζa rfl ?_;replace F:Xob w2 qb q:=F;have H:=(a0.trans N).trans G;have I:Xox s vb v:=(N.trans G).heap' W;refine Xay.loadb hTT rfl I rfl rfl ?_;refine Xay.loads hTT rfl (G.heap' F) rfl rfl ?_;have f:=hA.mlt;have ao:=Xkj hv.obj;have hE:=XvP v q at' n 193 [.pointer (some ⟨vb,0,none⟩),.pointer (some ⟨ob,0,none⟩)] A (vsT q A V ps)
  (fun k Y x => ∃ u,x.heap[ob]? = some (.cells ([u]:List Value).toArray 32 (0,0))∧Own s.heap.size 5 1 x u (XoP V.bs (ps.take k)).length ((XoP V.bs (ps.take k)).map (Value.int .u8)) ∧
   (∀ z,Y z↔z=ob∨some z=u.ownBlock∨Xkx A z)∧Xox x vb v∧x.heap[v.vb]? = some (.cells (vwL v).toArray 211 (0,0))∧s.heap.size≤x.heap.size)
  (fun z=>z=ob∨Xkx A z) s (hv.grow H) (hq.grow H) hmb hck hfew
  (by rintro ((h | h) | h); omega; exact hPv h; exact hPv h)
  (hq.rd.outNew hPq (fun z a=>by rcases a with (h | h) | h; exact .inr (by omega); exact .inl h; exact .inl h))
  (hv.conf.classes.outNew hPc (fun z a=>by rcases a with (h | h) | h; exact .inr (by omega); exact .inl h; exact .inl h))
  (hv.conf.keep.outNew hPk (fun z a=>by rcases a with (h | h) | h; exact .inr (by omega); exact .inl h; exact .inl h))
  (by
   rintro k Y x ⟨u,o,d,j,t,B,C⟩ z a;rcases (j z).1 a with rfl | h | h
   ·exact Xkj o
   ·exact (World.ownsRow.lt d z h.symm).2
   ·have:=f z h; omega)
  (by
   rintro k Y x y S ⟨u,o,d,j,t,B,C⟩ J hS;have no:∀ z,z<s.heap.size → ¬ Xkx A z → ¬ S z:=fun z a hm h=>(hS z h).elim hm (fun h=>by omega);exact ⟨u,J.heap o (no _ (by omega) (fun h=>by have:=f _ h; omega)),d.chg J (fun b D h=>by
    have ap:=World.ownsRow.lt d b D.symm;rcases hS b h with hm | hm
    ·have:=f b hm; omega
    ·exact hm.1 ((j b).2 (.inr (.inl D)))),j,J.heap t (no _ (by omega) (fun h=>by have:=f _ h; omega)),J.heap B (no _ (by omega) hPv),Nat.le_trans C J.size⟩)
  (by
   rintro k Y x K a9 ⟨u,o,d,j,t,B,C⟩;rw [← l] at K;obtain ⟨i,m,r,O⟩:=E ps[k] (List.getElem_mem K);have P:(XeL q A (vsT q A V ps k)).bs=V.bs:=by rw [XeM,XvX]
   have aq:(XoP V.bs (ps.take k)).length=Xvd (ps.take k):=XoQ rfl (fun p r=>E p (List.mem_of_mem_take r));have Q:=Xvh K;rw [r] at Q;simp only [Int.toNat_natCast] at Q;have R:∀ b,b=A.ab∨b=A.db∨b=A.mc∨A.mb=some b→b<w.heap.size:=hA.blt;have hR:=XvK v vb ob A (XeL q A (vsT q A V ps k)) i m s.heap.size (XoP V.bs (ps.take k)).length u (XoP V.bs (ps.take k)) x t B hab o d C (by omega) a9 (by rw [P]; exact O) (by omega)
    (fun z a=>by have:=f z a; omega) (fun b D e=>by have:=R b D; have:=(World.ownsRow.lt d b e.symm).1; omega) (fun b D e=>by have:=R b D; omega)
   simp only [← l];rw [r];refine hR.mono fun _ y ⟨T,L,u',U,a4,a5⟩ => ?_;rw [P] at a4;have M:XoP V.bs (ps.take (k+1))=XoP V.bs (ps.take k)++sub V.bs i m:=by
    rw [List.take_add_one,List.getElem?_eq_getElem K,r];unfold XoP;rw [List.flatMap_append]
    simp
   refine ⟨by rw [XvZ K,r]; exact T,L.mono fun z _ a=>(j z).2 a,fun z=>z=ob∨some z=u'.ownBlock∨Xkx A z,⟨u',U,?_,fun z=>Iff.rfl,?_,?_,Nat.le_trans C L.size⟩,fun z a => ?_⟩
   ·rw [M,List.length_append,Xue O];exact a4
   ·exact L.heap t (fun h=>by rcases h with h | h | h; omega; have:=(World.ownsRow.lt d _ h.symm).1; omega; have:=f _ h; omega)
   ·exact L.heap B (fun h=>by rcases h with h | h | h; omega; have:=(World.ownsRow.lt d _ h.symm).1; omega; exact hPv h)
   ·rcases a with h | h | h
    ·exact .inl ((j z).2 (.inl h))
    ·rcases a5 z h with h | h
     ·exact .inl ((j z).2 (.inr (.inl h)))
     ·exact .inr h
    ·exact .inl ((j z).2 (.inr (.inr h))))
  (hA.grow H) ⟨.slice none 0 0,a6,World.ownsRow_nil _ _ _ _,fun z=>⟨fun h=>h.elim .inl (fun h => .inr (.inr h)),fun h=>by rcases h with h | h | h; exact .inl h; cases h; exact .inr h⟩,I,H.heap' hv.obj,Nat.le_refl _⟩
 rw [← l] at hE;refine ζc rfl (hE) ?_;rintro _ w4 ⟨rfl,ac,⟨Y',⟨u,o,d,j,t,B,C⟩,ar⟩,ad⟩;refine ζa rfl ?_;rw [List.take_length] at d;have ae:Chg (Xkx A) w w4:=(H.mono fun _ _ h=>h.elim).since ad (fun z a h=>by rcases h with (h | h) | h; omega; exact h; exact h);have ho:Own w.heap.size 5 1 w4 u (XoP V.bs ps).length ((XoP V.bs ps).map (Value.int .u8)):=by
  refine ⟨d.1,?_⟩;rcases d.2 with h | ⟨g,cap,cur,T,L,U⟩
  ·exact .inl h
  ·exact .inr ⟨g,cap,cur,T,by omega,U⟩
 refine Xay.loadb hTT rfl o rfl rfl ?_;exact Xay.ret2 hTT rfl Tryz.func126 rfl rfl rfl ⟨u,rfl,ac,ae,ho⟩
def vsW (q:Plc) (A:Ar) (V:ArV) (ps:List (Int × Int)) (l:List Int):Nat→ArV
 |0=>V
 |k+1=>{(XeL q A (vsW q A V ps l k)).charge A (ps.getD k (0,0)).2 with bs:=wrB (vsW q A V ps l k).bs (ps.getD k (0,0)).1.toNat (sub l (Xvd (ps.take k)) (ps.getD k (0,0)).2.toNat)}
theorem Xv2 {q:Plc} {A:Ar} {V:ArV} {ps:List (Int × Int)} {l:List Int} {k i m:Nat} (h:k<ps.length) (hp:ps[k]=((i:Int),(m:Int))) :
 vsW q A V ps l (k+1)={(XeL q A (vsW q A V ps l k)).charge A m with bs:=wrB (vsW q A V ps l k).bs i (sub l (Xvd (ps.take k)) m)}:=by
 have a:ps.getD k (0,0)=((i:Int),(m:Int)):=by rw [List.getD_eq_getElem?_getD,List.getElem?_eq_getElem h,hp]; rfl
 show ({(XeL q A (vsW q A V ps l k)).charge A (ps.getD k (0,0)).2 with bs:=wrB (vsW q A V ps l k).bs (ps.getD k (0,0)).1.toNat (sub l (Xvd (ps.take k)) (ps.getD k (0,0)).2.toNat)}:ArV)=_
 rw [a];rfl
theorem Xv1 {q:Plc} {A:Ar} {V:ArV} {ps:List (Int × Int)} {l:List Int} (hpin:∀ p ∈ ps,∃ i m:Nat,p=((i:Int),(m:Int))∧i+m≤V.bs.length) (htot:Xvd ps=l.length):∀ {k:Nat},k≤ps.length→(vsW q A V ps l k).bs.length=V.bs.length
 |0,_=>rfl
 |k+1,h=>by
  obtain ⟨i,m,b,c⟩:=hpin ps[k] (List.getElem_mem h);have ih:=Xv1 (q:=q) (A:=A) hpin htot (k:=k) (by omega);have a:=Xvh h;rw [b] at a;simp only [Int.toNat_natCast] at a;rw [Xv2 h b];show (wrB _ _ _).length=_
  rw [Xwp (by rw [Xue (by omega),ih]; exact c),ih]
theorem XrU {S:Nat→Prop} {a:Option Addr} {cap l sz:Nat} (h:Xa0 S a):Xa0 S (XrR a cap l sz):=by
 intro b off s e;unfold XrR at e;by_cases c:cap=l
 ·rw [if_pos c] at e; exact h b off s e
 ·rw [if_neg c] at e;cases a with
  |none=>cases e
  |some x =>
   obtain ⟨xb,xo,xs⟩:=x;have d:=h xb xo xs rfl;simp only [Option.map_some,Option.some.injEq] at e;unfold Addr.add at e;have f:xb=b:=by
    split at e <;> (cases e; rfl)
   rw [← f]; exact d
theorem XvM (v:Vw) (vb bb:Nat) (A:Ar) (V:ArV) (i m:Nat) (a:Option Addr) (cap:Nat) (l:List Int) (w:World) (hvb:Xox w vb v) (hv:w.heap[v.vb]? = some (.cells (vwL v).toArray 211 (0,0))) (hab:v.ab=A.ab)
 (hbb:w.heap[bb]? = some (.cells ([.slice a l.length cap]:List Value).toArray 32 (0,0))) (hr:Rd .u8 w a l) (hlc:l.length≤cap) (hin:InB l) (hm:m≤l.length) (hA:Xag w A V) (him:i+m≤V.bs.length)
 (hfo:∀ z,XgK A z→z≠bb) (hAb:∀ b,b=A.ab∨b=A.db∨b=A.mc∨A.mb=some b→b≠bb) (S:Nat→Prop) (hS:∀ z,z=bb∨XgK A z→S z) (hout:0<l.length→Xa0 S a) :
 Xan Tryz.prog 195 #[.int .i64 i,.int .i64 m,.pointer (some ⟨vb,0,none⟩),.pointer (some ⟨bb,0,none⟩)] w (fun _ w'=>Xag w' A {V.charge A m with bs:=wrB V.bs i (l.take m)}∧Chg (fun z=>z=bb∨XgK A z) w w' ∧
  ∃ a' cap',w'.heap[bb]? = some (.cells ([.slice a' (l.drop m).length cap']:List Value).toArray 32 (0,0))∧Rd .u8 w' a' (l.drop m)∧(l.drop m).length≤cap'∧(0<(l.drop m).length→Xa0 S a')):=by
 have j:(l.take m).length=m:=by simp; omega
 refine Xan.enter Tryz.func195 rfl Tryz.ntmps195 rfl rfl ?_;refine ζa rfl ?_;refine Xay.drawn (q:=8) XaX hTT Xk3 (by kernel_rfl) rfl ?_;intro d;refine Xaq.loadb hTT d rfl hvb (by first | exact fun h=>h | (intro h; omega) | assumption) rfl rfl ?_;refine Xaq.loadb hTT d rfl hv (by first | exact fun h=>h | (intro h; omega) | assumption) rfl rfl ?_;refine Xaq.loadb hTT d rfl hbb (by first | exact fun h=>h | (intro h; omega) | assumption) rfl rfl ?_;refine Xaq.slice hTT d rfl (l:=0) (h:=m) (by first | rfl | omega | simp [loV]) (by first | rfl | omega | simp [hiV]) (by omega) (by omega) rfl ?_;refine Xaq.nil d ?_;intro D c;refine ζa rfl ?_;rw [hab];have s:=hr.chg c;have k:=s.shift (l:=0) (m:=m) (by omega) hlc;rw [List.drop_zero] at k;have t:=XcL A V i (XrR a cap 0 1) (cap - 0) (l.take m) D (hA.grow c) k (fun x E=>hin x (List.mem_of_mem_take E)) (by rw [j]; exact him);rw [j] at t;refine ζc rfl t ?_;rintro _ H ⟨rfl,u,n⟩;refine ζa rfl ?_;have f:=n.heap (c.heap' hbb) (fun e=>hfo _ e rfl);refine Xay.loadb hTT rfl f rfl rfl ?_;refine Xay.slice hTT rfl (l:=m) (h:=l.length) (by first | rfl | omega | simp [loV]) (by first | rfl | omega | simp [hiV]) (by omega) (by omega) rfl ?_;refine Xay.store hTT rfl f rfl rfl ?_;intro y r o G;refine ζa rfl ?_;have g:(l.drop m).length=l.length - m:=by simp
 have B:Chg (fun z=>z=bb∨XgK A z) w y:=((c.mono fun _ _ h=>h.elim).trans (n.mono fun _ _ h => .inr h)).trans (o.mono fun _ _ h => .inl h);have C:Rd .u8 y a l:=hr.far' hout (B.mono fun z _ h=>hS z h);have p:=C.shift (l:=m) (m:=l.length - m) (by omega) hlc;rw [List.take_of_length_le (by rw [g]; exact Nat.le_refl _)] at p;exact Xay.ret0 hTT rfl Tryz.func195 rfl ⟨u.chg o (fun b F e=>hAb b F e),B,_,_,by rw [g]; exact r,p,by rw [g]; omega,fun h=>XrU (hout (by omega))⟩
theorem foot_lt {w:World} {A:Ar} {V:ArV} (h:Xag w A V):∀ z,XgK A z→z<w.heap.size:=fun z a=>h.blt z (a.elim (fun e => .inr (.inl e)) (fun e => .inr (.inr (.inr e))))
theorem XvL (v:Vw) (q:Plc) (at':Nat) (a:Option Addr) (cap:Nat) (l:List Int) (A:Ar) (V:ArV) (w:World) (hv:XbS w v) (hq:Xa8 w q) (hmb:v.mb=A.mb) (hab:v.ab=A.ab) (hck:XeG v.c q at' l.length=0) (hfew:q.pages.length≤4096)
 (hPv:¬ XgK A v.vb) (hPq:0<q.pages.length→Xa0 (XgK A) q.pa) (hPc:0<v.c.classes.length→Xa0 (XgK A) v.p.ca) (hPk:0<v.c.keep.length→Xa0 (XgK A) v.p.ka) (hA:Xag w A V) (hlen:(V.bs.length:Int)=v.c.size*v.c.pages)
 (hr:Rd .u8 w a l) (hlc:l.length≤cap) (hin:InB l) (hout:0<l.length→Xa0 (XgK A) a) :
 Xan Tryz.prog 128 #[vwV v,.agg (Xoc q).toArray,.int .i64 at',.slice a l.length cap] w (fun u w'=>u = .int .i64 0∧Xag w' A (vsW q A V (Xm5 v.c q at' l.length) l (Xm5 v.c q at' l.length).length)∧Chg (XgK A) w w'):=by
 obtain ⟨ps,g⟩:∃ ps,ps=Xm5 v.c q at' l.length:=⟨_,rfl⟩;have C:∀ p ∈ ps,∃ i m:Nat,p=((i:Int),(m:Int))∧i+m≤V.bs.length:=fun p t=>by
  obtain ⟨i,m,n,D⟩:=Xm7 hv.may hck hfew p (g▸t);exact ⟨i,m,n,by omega⟩
 have T:Xvd ps=l.length:=by rw [g]; exact Xm9 hv.may
 rw [← g];refine Xan.enter Tryz.func128 rfl Tryz.ntmps128 rfl rfl ?_;refine ζa rfl ?_;refine Xay.alloc hTT rfl ?_;intro vb w1 e1 a4 a5 ar;refine ζa rfl ?_;refine Xay.alloc hTT rfl ?_;intro qb w2 e2 E P au;refine ζa rfl ?_;refine Xay.alloc hTT rfl ?_;intro bb j e3 r F av;refine ζa rfl ?_;replace E:Xob w2 qb q:=E;replace r:j.heap[bb]? = some (.cells ([.slice a l.length cap]:List Value).toArray 32 (0,0)):=r;have o:=(a5.trans P).trans F;have G:Xox j vb v:=(P.trans F).heap' a4;refine Xay.loadb hTT rfl G rfl rfl ?_;refine Xay.loads hTT rfl (F.heap' E) rfl rfl ?_;refine Xay.loadb hTT rfl r rfl rfl ?_;have f:=foot_lt hA;have d:∀ z,Xkx A z→XgK A z:=fun z h => .inr h;have aw:=Xkj hv.obj;have a6:=hA.blt;have hE:=XvP v q at' l.length 195 [.pointer (some ⟨vb,0,none⟩),.pointer (some ⟨bb,0,none⟩)] A (vsW q A V ps l)
  (fun k Y x => ∃ a' cap',x.heap[bb]? = some (.cells ([.slice a' (l.drop (Xvd (ps.take k))).length cap']:List Value).toArray 32 (0,0))∧Rd .u8 x a' (l.drop (Xvd (ps.take k)))∧(l.drop (Xvd (ps.take k))).length≤cap' ∧
   (0<(l.drop (Xvd (ps.take k))).length→Xa0 (fun z=>z=bb∨XgK A z∨j.heap.size≤z) a')∧(∀ z,Y z↔z=bb∨XgK A z)∧Xox x vb v∧x.heap[v.vb]? = some (.cells (vwL v).toArray 211 (0,0))∧j.heap.size≤x.heap.size)
  (fun z=>z=bb∨XgK A z) j (hv.grow o) (hq.grow o) hmb hck hfew
  (by rintro ((h | h) | h); omega; exact hPv h; exact hPv (d _ h))
  (hq.rd.outNew hPq (fun z c=>by rcases c with (h | h) | h; exact .inr (by omega); exact .inl h; exact .inl (d _ h)))
  (hv.conf.classes.outNew hPc (fun z c=>by rcases c with (h | h) | h; exact .inr (by omega); exact .inl h; exact .inl (d _ h)))
  (hv.conf.keep.outNew hPk (fun z c=>by rcases c with (h | h) | h; exact .inr (by omega); exact .inl h; exact .inl (d _ h)))
  (by
   rintro k Y x ⟨a',cap',n,D,M,H,B,I,J,N⟩ z c;rcases (B z).1 c with rfl | h
   ·exact Xkj n
   ·have:=f z h; omega)
  (by
   rintro k Y x y S ⟨a',cap',n,D,M,H,B,I,J,N⟩ K hS;have no:∀ z,z<j.heap.size → ¬ Xkx A z → ¬ S z:=fun z c hm h=>(hS z h).elim hm (fun h=>by omega);refine ⟨a',cap',K.heap n (no _ (by omega) (fun h=>by have:=f _ (d _ h); omega)),D.far' (fun hl b off s e U=>H hl b off s e ((hS b U).elim (fun h => .inr (.inl (d _ h))) (fun h => .inr (.inr h.2)))) K,M,H,B,K.heap I (no _ (by omega) (fun h=>by have:=f _ (d _ h); omega)),K.heap J (no _ (by omega) (fun h=>hPv (d _ h))),Nat.le_trans N K.size⟩)
  (by
   rintro k Y x L a9 ⟨a',cap',n,D,M,H,B,I,J,N⟩;rw [← g] at L;obtain ⟨i,m,t,aa⟩:=C ps[k] (List.getElem_mem L);have Q:(XeL q A (vsW q A V ps l k)).bs=(vsW q A V ps l k).bs:=XeM _ _ _;have W:(vsW q A V ps l k).bs.length=V.bs.length:=Xv1 C T (by omega);have R:=Xvh L;rw [t] at R;simp only [Int.toNat_natCast] at R;have ax:(l.drop (Xvd (ps.take k))).length=l.length - Xvd (ps.take k):=by simp
   have hR:=XvM v vb bb A (XeL q A (vsW q A V ps l k)) i m a' cap' (l.drop (Xvd (ps.take k))) x I J hab n D M (fun y hy=>hin y (List.mem_of_mem_drop hy)) (by omega) a9 (by rw [Q,W]; exact aa)
    (fun z c=>by have:=f z c; omega) (fun b U=>by have:=a6 b U; omega) (fun z=>z=bb∨XgK A z∨j.heap.size≤z) (fun z h=>h.imp id .inl) H
   simp only [← g];rw [t];refine hR.mono fun _ y ⟨a1,O,a3,c3,b1,b2,b3,b4⟩ => ?_;rw [Q] at a1;have a0:Xvd (ps.take (k+1))=Xvd (ps.take k)+m:=by
    rw [List.take_add_one,List.getElem?_eq_getElem L,t,Xve]; simp [Xvd]
   have ag:(l.drop (Xvd (ps.take k))).drop m=l.drop (Xvd (ps.take (k+1))):=by rw [List.drop_drop,a0]
   rw [ag] at b1 b2 b3 b4;refine ⟨by rw [Xv2 L t]; exact a1,O.mono fun z _ c=>(B z).2 c,fun z=>z=bb∨XgK A z,⟨a3,c3,b1,b2,b3,b4,fun z=>Iff.rfl,?_,?_,Nat.le_trans N O.size⟩,fun z c => .inl ((B z).2 c)⟩
   ·exact O.heap I (fun h=>by rcases h with h | h; omega; have:=f _ h; omega)
   ·exact O.heap J (fun h=>by rcases h with h | h; omega; exact hPv h))
  (hA.grow o) ⟨a,cap,by simpa [Xvd] using r,by simpa [Xvd] using hr.chg o,by simpa [Xvd] using hlc,fun h=>by
   have:=hr.outNew hout (S':=fun z=>z=bb∨XgK A z∨j.heap.size≤z) (fun z c=>by rcases c with h | h | h; exact .inr (by omega); exact .inl h; exact .inr (by have:=o.size; omega));exact this (by simpa [Xvd] using h),fun z=>Iff.rfl,G,o.heap' hv.obj,Nat.le_refl _⟩
 rw [← g] at hE;refine ζc rfl (hE) ?_;rintro _ w4 ⟨rfl,ah,_,ai⟩;refine ζa rfl ?_;have aj:Chg (XgK A) w w4:=(o.mono fun _ _ h=>h.elim).since ai (fun z c h=>by rcases h with (h | h) | h; omega; exact h; exact d _ h);exact Xay.ret1 hTT rfl Tryz.func128 rfl rfl ⟨rfl,ah,aj⟩

structure RA where
 a:Option Addr
 cap:Nat
 bs:List Int
 steps:Int
def raL (r:RA):List Value := [.slice r.a r.bs.length r.cap,.int .i64 r.steps]
structure Xbc (w:World) (r:RA):Prop where
 rd:Rd .u8 w r.a r.bs
 len:r.bs.length≤4194304
 lc:r.bs.length≤r.cap
 rng:InB r.bs
theorem Xbc.grow {w w':World} {r:RA} (h:Xbc w r) (hc:Chg XaX w w'):Xbc w' r:=⟨h.rd.chg hc,h.len,h.lc,h.rng⟩
theorem RdU.of {w:World} {b:Nat} {c:Array Value} {t:TypeId} {fz:Nat × Nat} {zs:List Int} (h:w.heap[b]? = some (.cells c t fz)) (hc:c=(zs.map (Value.int .u8)).toArray):Rd .u8 w (some ⟨b,0,none⟩) zs:=fun i a =>
 ⟨b,0,rfl,by rw [Xel h,hc]; simp [a]⟩
theorem Xo2 (p s:Int) (w:World) (ht:XcE p s=true):Xan Tryz.prog 161 #[.int .i64 p,.int .i64 s] w
 (fun v w' => ∃ b,v = .tuple #[.agg (raL ⟨some ⟨b,0,none⟩,(p*s).toNat,XwU (p*s).toNat,0⟩).toArray,.int .i64 0]∧w.heap.size≤b∧Xbc w' ⟨some ⟨b,0,none⟩,(p*s).toNat,XwU (p*s).toNat,0⟩∧Chg XaX w w'):=by
 have g:=XcF.1 ht;have A:0≤p*s:=Int.mul_nonneg (by omega) (by omega);have B:p*s≤1024*4096:=Int.mul_le_mul (by omega) (by omega) (by omega) (by omega);have a:(XwU (p*s).toNat).length=(p*s).toNat:=List.length_replicate;refine Xan.enter Tryz.func161 rfl Tryz.ntmps161 rfl rfl ?_;refine ζa rfl ?_;refine Xay.alloc hTT rfl ?_;intro rb C e1 e f t;refine ζa rfl ?_;refine Xay.no hTT rfl (decide_eq_false (by omega)) rfl ?_;refine Xay.no hTT rfl (decide_eq_false (by omega)) rfl ?_;refine Xay.no hTT rfl (decide_eq_false (by omega)) rfl ?_;refine Xay.no hTT rfl (decide_eq_false (by omega)) rfl ?_;refine Xay.div hTT rfl (by omega) (Xo9 (by omega)) rfl ?_;refine Xay.no hTT rfl (by simp; omega) rfl ?_;refine Xay.arith hTT rfl (w64 (by omega)) rfl ?_;refine Xay.make hTT (m:=(p*s).toNat) (k:=(p*s).toNat) rfl (by omega) (by omega) (Nat.le_refl _) (by simp only; omega) (by omega) ?_;intro b D e2 h c u;refine ζa rfl ?_;refine Xay.build hTT rfl rfl ?_;refine Xay.store hTT rfl (c.heap' e) rfl rfl ?_;intro i j d y;refine ζa rfl ?_;have l:Chg XaX w i:=(f.trans c).since d (fun x n z=>by omega);have o:(XwJ (Xen (Value.int .u8 0)) (p*s).toNat)=(XwU (p*s).toNat).map (Value.int .u8):=XwQ _;rw [o] at h;have q:=d.heap h (by omega);have r:Xbc i ⟨some ⟨b,0,none⟩,(p*s).toNat,XwU (p*s).toNat,0⟩:=⟨RdU.of q rfl,by simp only [a]; omega,by simp only [a]; omega,fun x n=>by rw [List.eq_of_mem_replicate n]; omega⟩;exact ζq rfl Tryz.func161 (Xbd.cell rfl rfl rfl j rfl (.tmp rfl .nil)) ⟨b,by unfold raL; simp only [a]; rfl,by omega,r,l⟩
def Xga (c:Conf):Bool:=XkH c && decide (c.size≤256) && decide (c.pages≤24) && decide (c.slots≤20)
theorem XoZ (c:Conf) (p:Xal) (w:World) (hc:Xam w c p):Xan Tryz.prog 15 #[.agg (Xfl c p).toArray] w (Grow (.bool (Xga c)) w):=by
 refine ζe Tryz.func15 Tryz.ntmps15 rfl (ζn rfl fun cb i e1 d e j => ?_);refine ζl d rfl (ζv (Xo1 c p i (hc.chg e)) rfl fun k f => ?_);have b:=e.trans f;have a:=f.heap' d;unfold Xga;cases hm:XkH c with
 |false =>
  rw [show XkK c=1 from by unfold XkK; rw [hm]; rfl];exact ζf rfl (ζr Tryz.func15 rfl ⟨rfl,b⟩)
 |true =>
  rw [show XkK c=0 from by unfold XkK; rw [hm]; rfl];refine ζy rfl (ζl a rfl (ζg rfl (fun g => ?_) fun g => ?_))
  ·refine ζl a rfl ?_;rw [g];refine ζg rfl (fun h => ?_) fun h => ?_
   ·refine ζl a rfl ?_;rw [h];exact ζr Tryz.func15 rfl ⟨rfl,b⟩
   ·rw [h];exact ζr Tryz.func15 rfl ⟨rfl,b⟩
  ·rw [g];exact ζr Tryz.func15 rfl ⟨rfl,b⟩
theorem Xgb {c:Conf} (h:Xga c=true):XkH c=true∧c.size≤256∧c.pages≤24:=by
 unfold Xga at h;simp only [Bool.and_eq_true,decide_eq_true_eq] at h;exact ⟨h.1.1.1,h.1.1.2,h.1.2⟩


def Xv5 (c:Conf) (q:Plc) (i:Nat):Int:=if q.cls = -1 then q.pages.getD (i / c.size.toNat) 0*c.size+((i % c.size.toNat:Nat):Int) else XvA c q+i

def Xew (c:Conf) (q:Plc) (at' n:Nat):Int:=n+(if q.cls = -1 then ((XsK at' n c.size.toNat).length:Int) else 0)
theorem Xv8 {c:Conf} {q:Plc} {i:Nat} (hm:XkH c=true) (hin:XvE c q=true) (hi:(i:Int)<XvB c q):0≤Xv5 c q i∧Xv5 c q i<c.size*c.pages:=by
 obtain ⟨t,u,v⟩:=XkJ hm;unfold Xv5;by_cases a:q.cls = -1
 ·rw [if_pos a];obtain ⟨n,b⟩:=XiL hin a;have e:XvB c q=(q.pages.length:Int)*c.size:=by unfold XvB; rw [if_pos hin,if_pos a]
  rw [e] at hi;obtain ⟨sz,h⟩:=Int.eq_ofNat_of_zero_le (show 0≤c.size by omega);have f:c.size.toNat=sz:=by omega
  rw [f];have d:i / sz<q.pages.length:=by
   apply Nat.div_lt_of_lt_mul
   have:((sz*q.pages.length:Nat):Int)=(q.pages.length:Int)*c.size:=by rw [h,Int.mul_comm]; rfl
   omega
  have g:=Nat.mod_lt i (show 0<sz by omega);obtain ⟨D,o⟩:∃ D,D=i / sz:=⟨_,rfl⟩;obtain ⟨M,p⟩:∃ M,M=i % sz:=⟨_,rfl⟩;rw [← o] at d ⊢;rw [← p] at g ⊢;have j:0≤q.pages.getD D 0∧q.pages.getD D 0<c.pages:=b _ (by rw [List.getD_eq_getElem?_getD,List.getElem?_eq_getElem d]; exact List.getElem_mem d);have w:0≤q.pages.getD D 0*c.size:=Int.mul_nonneg j.1 (by omega);have e2:q.pages.getD D 0*c.size+c.size≤c.size*c.pages:=by
   have:(q.pages.getD D 0+1)*c.size≤c.pages*c.size:=Int.mul_le_mul_of_nonneg_right (by omega) (by omega);rw [Int.add_mul,Int.one_mul,Int.mul_comm c.pages] at this;exact this
  omega
 ·rw [if_neg a];obtain ⟨k,pg,ix,l,b,m,r,x,y,z,A,B,C,E⟩:=XiN hm hin a;have s:XvA c q=(pg:Int)*c.size+(ix:Int)*Xfb c k:=by unfold XvA; rw [if_pos ⟨hin,a⟩,l,b,m]
  have e:XvB c q=Xfb c k:=by unfold XvB; rw [if_pos hin,if_neg a,l]
  omega
def Xu9 (c:Conf) (q:Plc) (bs:List Int) (at' n:Nat):List Int:=(List.range n).map fun i=>bs.getD (Xv5 c q (at'+i)).toNat 0
theorem XeK {c:Conf} {q:Plc} {at' n:Int} (h:XeG c q at' n=0):XvE c q=true∧0≤at'∧0≤n∧at'+n≤XvB c q:=by
 have a:XvE c q=true:=by
  cases a:XvE c q with
  |true=>rfl
  |false=>unfold XeG at h; rw [if_pos a] at h; cases h
 have b:¬ (at'<0∨n<0∨XvB c q<n∨XvB c q - n<at'):=fun d=>by
  unfold XeG at h; rw [if_neg (by rw [a]; decide),if_pos d] at h; cases h
 exact ⟨a,by omega,by omega,by omega⟩

def Xjc (c:Conf) (q:Plc) (bs:List Int) (at':Nat) (l:List Int):Nat→List Int
 |0=>bs
 |k+1=>(Xjc c q bs at' l k).set (Xv5 c q (at'+k)).toNat (l.getD k 0)
theorem Xje (c:Conf) (q:Plc) (bs:List Int) (at':Nat) (l:List Int):∀ k,(Xjc c q bs at' l k).length=bs.length
 |0=>rfl
 |k+1=>by show (List.set _ _ _).length=_; rw [List.length_set,Xje c q bs at' l k]

theorem Xud {bs:List Int} {i n j:Nat} (hj:j<n):(sub bs i n).getD j 0=bs.getD (i+j) 0:=by
 unfold sub; simp [List.getD,hj]
theorem Xa1.rd {base:Nat} {w:World} {v:Value} {l:List Int} (h:Xa1 base w v l):∃ g cap cur,v = .slice (some ⟨g,0,none⟩) l.length cap∧base≤g∧w.heap[g]? = some (.cells cur 5 (0,0))∧l.length≤cap∧cur.toList.take l.length=l.map (Value.int .u8)∧Rd .u8 w (some ⟨g,0,none⟩) l:=by
 obtain ⟨g,cap,cur,c,d,a,e,b⟩:=h;exact ⟨g,cap,cur,c,d,a,e,b,Rd.of_take a b⟩
theorem Rd.at {k:IntKind} {w:World} {a:Option Addr} {l:List Int} (h:Rd k w a l) (hl:0<l.length):∃ b off,a=some ⟨b,off,none⟩ ∧ ∀ j,j<l.length→w.cell? ⟨b,off+j,none⟩=some (.int k (l.getD j 0)):=by
 obtain ⟨b,off,e,_⟩:=h 0 hl;refine ⟨b,off,e,fun j c => ?_⟩;obtain ⟨b',off',e',d⟩:=h j c;rw [e] at e'; cases e'; exact d
structure Mv where
 mv:Nat
 f:Nat
 t:Nat
 size:Nat
def Xlh (A:Ar) (M:Mv) (gone:Nat):List Value := [.func (.func 259) #[.pointer (some ⟨A.ab,0,none⟩)] #[],.int .i64 M.f,.int .i64 M.t,.int .i64 M.size,.int .i64 gone]
structure XaU (w:World) (A:Ar) (V:ArV) (M:Mv) (gone:Nat):Prop where
 ar:Xag w A V
 obj:w.heap[M.mv]? = some (.cells (Xlh A M gone).toArray 258 (0,0))
 pos:1≤M.size
 gone:gone≤M.size
 f:M.f+M.size≤V.bs.length
 t:M.t+M.size≤V.bs.length
theorem XaU.nfoot {w:World} {A:Ar} {V:ArV} {M:Mv} {g:Nat} (h:XaU w A V M g):¬ XgK A M.mv:=by
 rintro (e | e)
 ·exact XdO h.obj h.ar.dat (by decide) e
 ·exact XdO h.obj (h.ar.met _ e).1 (by decide) rfl
theorem XaU.grow {w w':World} {A:Ar} {V:ArV} {M:Mv} {g:Nat} (h:XaU w A V M g) (hc:Chg XaX w w'):XaU w' A V M g:=⟨h.ar.grow hc,hc.heap' h.obj,h.pos,h.gone,h.f,h.t⟩
def Xkw (A:Ar) (M:Mv):Nat→Prop:=fun b=>b=A.ab∨b=A.db∨b=A.mc∨A.mb=some b∨b=M.mv
theorem XaU.lt {w:World} {A:Ar} {V:ArV} {M:Mv} {g:Nat} (h:XaU w A V M g):∀ x,Xkw A M x→x<w.heap.size:=fun x hx=>by
 rcases hx with rfl | rfl | rfl | hx | rfl
 ·exact Xkj h.ar.obj
 ·exact Xkj h.ar.dat
 ·exact Xkj h.ar.cap
 ·exact Xkj (h.ar.met _ hx).1
 ·exact Xkj h.obj
theorem XaU.far {w w':World} {A:Ar} {V:ArV} {M:Mv} {g:Nat} {S:Nat→Prop} (h:XaU w A V M g) (hc:Chg S w w') (hs:∀ x,Xkw A M x → ¬ S x):XaU w' A V M g :=
 ⟨h.ar.chg hc (fun b a=>hs b (by rcases a with h | h | h | h; exact .inl h; exact .inr (.inl h); exact .inr (.inr (.inl h)); exact .inr (.inr (.inr (.inl h))))),hc.heap h.obj (hs _ (.inr (.inr (.inr (.inr rfl))))),h.pos,h.gone,h.f,h.t⟩
theorem XaU.laid {w w':World} {A:Ar} {V V':ArV} {M:Mv} {g:Nat} (h:XaU w A V M g) (hA:Xag w' A V') (hc:Chg (XgK A) w w') (hl:V'.bs.length=V.bs.length):XaU w' A V' M g :=
 ⟨hA,hc.heap h.obj h.nfoot,h.pos,h.gone,by rw [hl]; exact h.f,by rw [hl]; exact h.t⟩
def cpB (bs:List Int) (t f n:Nat):List Int:=wrB bs t (sub bs f n)
theorem Xfw {bs:List Int} {t f n:Nat} (h:f+n≤bs.length) (h':t+n≤bs.length):(cpB bs t f n).length=bs.length:=Xwp (by rw [Xue h]; exact h')
def mFt (A:Ar) (M:Mv):Nat→Prop:=fun b=>XgK A b∨b=M.mv
theorem Xk8 (A:Ar) (V:ArV) (M:Mv) (g:Nat) (w:World) (h:XaU w A V M g):Xan Tryz.prog 137 #[.pointer (some ⟨M.mv,0,none⟩)] w (Grow (.int .i64 (M.size - g:Nat)) w):=by
 have b:=h.ar.len;have c:=h.gone;have ht:=h.t;exact ζe Tryz.func137 Tryz.ntmps137 rfl (Xay.quiet rfl Xk3 (by kernel_rfl) (Xba.adv hTT rfl (Xba.loadb hTT rfl h.obj rfl rfl (Xba.loadb hTT rfl h.obj rfl rfl (Xba.arith hTT rfl (w64 (by omega)) rfl (Xba.nil fun d a=>ζa rfl (ζr Tryz.func137 rfl ⟨XiH (by omega),a⟩)))))))
theorem Xle (A:Ar) (V:ArV) (M:Mv) (g i n:Nat) (w:World) (h:XaU w A V M g) (hi:i+n≤M.size) (hn:0<n):Xan Tryz.prog 252 #[.pointer (some ⟨M.mv,0,none⟩),.int .i64 i,.int .i64 n] w
 (fun _ w'=>XaU w' A {V.charge A n with bs:=cpB V.bs (M.t+i) (M.f+i) n} M g∧Chg (XgK A) w w'):=by
 have q:=h.ar.len;have ht:=h.t;have hf:=h.f;have l:=h.nfoot;have e1:((M.t:Int)+i)=((M.t+i:Nat):Int):=by omega
 have e2:((M.f:Int)+i)=((M.f+i:Nat):Int):=by omega
 refine ζe Tryz.func252 Tryz.ntmps252 rfl (ζy rfl (ζd 18 (XgK A) (by kernel_rfl) rfl fun a=>δl a h.obj rfl (δl a h.obj rfl (δj a rfl (δl a h.obj rfl (δj a rfl ?_))))));rw [e1,e2];refine Xaq.turn1 a rfl ?_;intro j e;have k:=h.grow e;refine XbO.call rfl (XcG A V (M.t+i) (M.f+i) n j k.ar (by omega) (by omega)).fn (Post:=fun v d=>v = .int .i64 0∧Xag d A {V.charge A n with bs:=cpB V.bs (M.t+i) (M.f+i) n}∧Chg (XgK A) j d)
  (fun p=>(XcG A V (M.t+i) (M.f+i) n j k.ar (by omega) (by omega)).mono fun v d m=>⟨p.trans m.2.2,m⟩) ?_
 rintro _ d _ ⟨rfl,o,f⟩;refine δn a rfl fun r b => ?_;have c:(cpB V.bs (M.t+i) (M.f+i) n).length=V.bs.length:=Xfw (by omega) (by omega);exact ζr Tryz.func252 rfl ⟨⟨o.grow b,b.heap' (f.heap k.obj l),h.pos,h.gone,by simp only [c]; exact hf,by simp only [c]; exact ht⟩,(e.mono fun _ _ h=>h.elim).trans (f.trans (b.mono fun _ _ h=>h.elim))⟩
theorem Xlf (M:Mv) (i n:Int) (w:World) (hn:n≤0):Xan Tryz.prog 252 #[.pointer (some ⟨M.mv,0,none⟩),.int .i64 i,.int .i64 n] w (fun _ w'=>w=w'):=by
 exact ζe Tryz.func252 Tryz.ntmps252 rfl (ζf rfl (ζr Tryz.func252 rfl rfl))
def Xtv (n:Int) (left:Nat):Nat:=(min n left).toNat
def Xtw (A:Ar) (V:ArV) (M:Mv) (g k:Nat):ArV:=if k=0 then V else {V.charge A k with bs:=cpB V.bs (M.t+g) (M.f+g) k}
theorem Xla (A:Ar) (V:ArV) (M:Mv) (g:Nat) (n:Int) (w:World) (h:XaU w A V M g):Xan Tryz.prog 207 #[.pointer (some ⟨M.mv,0,none⟩),.int .i64 n] w
 (fun v w'=>v = .int .i64 (Xtv n (M.size - g))∧XaU w' A (Xtw A V M g (Xtv n (M.size - g))) M (g+Xtv n (M.size - g))∧Chg (mFt A M) w w'):=by
 have z:=h.ar.len;have B:=h.gone;have ht:=h.t;obtain ⟨k,j⟩:∃ k,k=Xtv n (M.size - g):=⟨_,rfl⟩;rw [← j];unfold Xtv at j;have x:k≤M.size - g:=by omega
 have m:(if (0:Int) > (if ((M.size - g:Nat):Int)<n then ((M.size - g:Nat):Int) else n) then 0 else (if ((M.size - g:Nat):Int)<n then ((M.size - g:Nat):Int) else n))=(k:Int):=by
  subst j;split <;> split <;> omega
 refine ζe Tryz.func207 Tryz.ntmps207 rfl (ζv (Xk8 A V M g w h) rfl fun r c => ?_);rw [m];have l:=h.grow c;by_cases f:k=0
 ·refine ζf rfl ?_;subst f;exact ζr Tryz.func207 rfl ⟨rfl,by unfold Xtw; rw [if_pos rfl]; exact l,c.mono fun _ _ h=>h.elim⟩
 ·refine ζy rfl (ζl l.obj rfl (ζc rfl (Xle A V M g g k r l (by omega) (by omega)) ?_));rintro _ C ⟨a,o⟩;refine ζa rfl (ζl a.obj rfl (ζj rfl ?_));rw [show ((g:Int)+k)=((g+k:Nat):Int) from by omega];refine ζs a.obj rfl fun s p i y => ?_;have q:=a.ar.chg i (fun b d e=>by
   subst e;rcases d with e | e | e | e
   ·exact XdO a.obj a.ar.obj (by decide) e
   ·exact XdO a.obj a.ar.dat (by decide) e
   ·exact XdO a.obj a.ar.cap (by decide) e
   ·exact XdO a.obj (a.ar.met _ e).1 (by decide) rfl)
  have t:Chg (mFt A M) w s:=(c.mono fun _ _ h=>h.elim).trans ((o.mono fun b _ d => .inl d).trans (i.mono fun b _ d => .inr d));have u:Xtw A V M g k={V.charge A k with bs:=cpB V.bs (M.t+g) (M.f+g) k}:=by unfold Xtw; rw [if_neg f]
  exact ζr Tryz.func207 rfl ⟨rfl,by rw [u]; exact ⟨q,p,h.pos,by omega,a.f,a.t⟩,t⟩
def Xwz (i n g:Nat):Nat:=min (i+n) g - i
def XwA (A:Ar) (V:ArV) (M:Mv) (g i n:Nat):ArV:=if Xwz i n g=0 then V else {V.charge A (Xwz i n g) with bs:=cpB V.bs (M.t+i) (M.f+i) (Xwz i n g)}
theorem Xlb (A:Ar) (V:ArV) (M:Mv) (g i n:Nat) (w:World) (h:XaU w A V M g) (hi:i+n≤M.size):Xan Tryz.prog 197 #[.pointer (some ⟨M.mv,0,none⟩),.int .i64 i,.int .i64 n] w
 (fun v w'=>v = .int .i64 0∧XaU w' A (XwA A V M g i n) M g∧Chg (XgK A) w w'):=by
 have j:=h.ar.len;have k:=h.gone;have ht:=h.t;refine ζe Tryz.func197 Tryz.ntmps197 rfl (ζf rfl (ζf rfl (ζl h.obj rfl (ζf rfl (ζl h.obj rfl (ζj rfl (ζf rfl (ζj rfl (ζl h.obj rfl (ζJ rfl (by split <;> omega) ?_))))))))));by_cases a:Xwz i n g=0
 ·refine ζc rfl (Xlf M i _ w (by unfold Xwz at a; split <;> omega)) ?_;rintro _ d rfl;refine ζa rfl ?_;have b:XwA A V M g i n=V:=by unfold XwA; rw [if_pos a]
  exact ζr Tryz.func197 rfl ⟨rfl,by rw [b]; exact h,Chg.refl _ _⟩
 ·have e:(if (g:Int)<(i:Int)+n then (g:Int) else (i:Int)+n) - i=((Xwz i n g:Nat):Int):=by unfold Xwz at a ⊢; split <;> omega
  rw [e];refine ζc rfl (Xle A V M g i (Xwz i n g) w h (by unfold Xwz; omega) (by omega)) ?_;rintro _ d ⟨f,c⟩;refine ζa rfl ?_;have b:XwA A V M g i n={V.charge A (Xwz i n g) with bs:=cpB V.bs (M.t+i) (M.f+i) (Xwz i n g)}:=by unfold XwA; rw [if_neg a]
  exact ζr Tryz.func197 rfl ⟨rfl,by rw [b]; exact f,c⟩
def Xli (N:Nat) (f t size:Int):Bool:=decide (1≤size) && (decide (0≤f) && decide (size≤N) && decide (f≤N - size)) && (decide (0≤t) && decide (size≤N) && decide (t≤N - size)) && (decide (f+size≤t) || decide (t+size≤f))
theorem Xlj {N:Nat} {f t size:Int}:Xli N f t size=true↔1≤size∧(0≤f∧size≤N∧f≤N - size)∧(0≤t∧t≤N - size)∧(f+size≤t∨t+size≤f):=by
 unfold Xli;simp only [Bool.and_eq_true,Bool.or_eq_true,decide_eq_true_eq];constructor
 ·rintro ⟨⟨⟨b,⟨c,a⟩,d⟩,⟨e,_⟩,g⟩,h⟩; exact ⟨b,⟨c,a,d⟩,⟨e,g⟩,h⟩
 ·rintro ⟨b,⟨c,a,d⟩,⟨e,g⟩,h⟩; exact ⟨⟨⟨b,⟨c,a⟩,d⟩,⟨e,a⟩,g⟩,h⟩
def inB (N:Nat) (size at':Int):Bool:=decide (0≤at') && decide (size≤N) && decide (at'≤N - size)
theorem Xld (A:Ar) (V:ArV) (x size:Int) (sb pb:Nat) (w:World) (hA:Xag w A V) (hs:w.heap[sb]? = some (.cells #[.int .i64 size] 3 (0,0))) (hp:w.heap[pb]? = some (.cells #[.pointer (some ⟨A.ab,0,none⟩)] 131 (0,0))) (hsz:1≤size) :
 Xan Tryz.prog 258 #[.int .i64 x,.pointer (some ⟨sb,0,none⟩),.pointer (some ⟨pb,0,none⟩)] w (Grow (.bool (inB V.bs.length size x)) w):=by
 have f:=hA.len;refine ζe Tryz.func258 Tryz.ntmps258 rfl (Xay.quiet rfl Xk3 (by kernel_rfl) (Xba.adv hTT rfl ?_));refine Xba.fork hTT rfl rfl rfl (fun c => ?_) (fun c => ?_)
 ·refine Xba.loadb hTT rfl hs rfl rfl (Xba.loadb hTT rfl hp rfl rfl (Xba.call hTT rfl (fun w' b=>(XcI A V w' (hA.grow b)).grow) rfl ?_));refine Xba.fork hTT rfl rfl rfl (fun d => ?_) (fun d => ?_)
  ·have g:=of_decide_eq_true d;exact Xba.loadb hTT rfl hp rfl rfl (Xba.call hTT rfl (fun w' b=>(XcI A V w' (hA.grow b)).grow) rfl (Xba.loadb hTT rfl hs rfl rfl (Xba.arith hTT rfl (w64 (by omega)) rfl (Xba.nil fun e a=>ζa rfl (ζr Tryz.func258 rfl ⟨XdW (by unfold inB; rw [show decide (0≤x)=true from c,show decide (size≤(V.bs.length:Int))=true from d]; rfl),a⟩)))))
  ·exact Xba.nil fun e a=>ζa rfl (ζr Tryz.func258 rfl ⟨XdW (by unfold inB; rw [show decide (0≤x)=true from c,show decide (size≤(V.bs.length:Int))=false from d]; rfl),a⟩)
 ·exact Xba.nil fun e a=>ζa rfl (ζr Tryz.func258 rfl ⟨XdW (by unfold inB; rw [show decide (0≤x)=false from c]; rfl),a⟩)
theorem Xiu {N:Nat} {size x:Int}:inB N size x=true↔0≤x∧size≤N∧x≤N - size:=by unfold inB; simp [and_assoc]
theorem Xk9 (A:Ar) (V:ArV) (f t size:Nat) (w:World) (hA:Xag w A V) (hm:Xli V.bs.length f t size=true):Xan Tryz.prog 206 #[.pointer (some ⟨A.ab,0,none⟩),.int .i64 f,.int .i64 t,.int .i64 size] w
 (fun v w' => ∃ M:Mv,v = .tuple #[.pointer (some ⟨M.mv,0,none⟩),.int .i64 0]∧M.f=f∧M.t=t∧M.size=size∧w.heap.size≤M.mv∧XaU w' A V M 0∧Chg XaX w w'):=by
 have z:=hA.len;have g:=Xlj.1 hm;have l:inB V.bs.length size f=true:=Xiu.2 (by omega);have m:inB V.bs.length size t=true:=Xiu.2 (by omega);refine ζe Tryz.func206 Tryz.ntmps206 rfl (ζn rfl fun pb B e1 n h u=>ζn rfl fun sb r e2 c d x => ?_);have j:=(hA.grow h).grow d;have b:=d.heap' n;refine ζl b rfl (ζl c rfl (ζf rfl (ζv (Xld A V f size sb pb r j c b (by omega)) rfl fun s a=>ζF rfl (by rw [l]; rfl) (ζv (Xld A V t size sb pb s (j.grow a) (a.heap' c) (a.heap' b) (by omega)) rfl fun C e=>ζF rfl (by rw [m]; rfl) (ζJ rfl (by split <;> split <;> omega) ?_)))));have i:=e.heap' (a.heap' c);have k:=e.heap' (a.heap' b);refine ζl i rfl (ζF rfl (decide_eq_false (by split <;> split <;> omega)) (ζl k rfl (ζl i rfl (ζb rfl (ζn rfl fun mv D e5 o p y => ?_)))));have q:=(((h.trans d).trans a).trans e).trans p;exact ζr Tryz.func206 rfl ⟨⟨mv,f,t,size⟩,rfl,rfl,rfl,rfl,by have:=((h.trans d).trans a).trans e; have:=this.size; simp only; omega,⟨hA.grow q,o,by simp only; omega,Nat.zero_le _,by simp only; omega,by simp only; omega⟩,q⟩
theorem XkW (b cb:Nat) (total lap:Int) (w:World) (h:XaO w b total lap) (hc:w.heap[cb]? = some (.cells #[.pointer (some ⟨b,0,none⟩)] 127 (0,0))) :
 Xao Tryz.prog 160 #[.pointer (some ⟨cb,0,none⟩)] w (fun _ w'=>XaO w' b total total∧Chg (fun x=>x=b) w w'):=by
 obtain ⟨d,j,k,g⟩:=h;exact Xao.enter Tryz.func160 rfl Tryz.ntmps160 rfl rfl (ζa rfl (ζd 5 XaX (by kernel_rfl) rfl fun a=>δk a (Xek (off:=0) hc rfl) rfl (δk a (Xek (off:=0) hc rfl) rfl (δl a d rfl (δn a rfl fun l c=>ζs (c.heap' d) rfl fun m e f i=>ζr Tryz.func160 rfl ⟨⟨e,by omega,by omega,g⟩,(c.mono fun _ _ h=>h.elim).trans f⟩)))))
theorem XkV (b:Nat) (total lap:Int) (w:World) (h:XaO w b total lap):Xan Tryz.prog 101 #[.pointer (some ⟨b,0,none⟩)] w (fun v w'=>v = .int .i64 (total - lap)∧XaO w' b total total∧Chg (fun x=>x=b) w w'):=by
 have k:=h;obtain ⟨i,s,t,u⟩:=h;refine ζe Tryz.func101 Tryz.ntmps101 rfl (ζn rfl fun cb y e1 a d r=>ζl a rfl (Xay.defer rfl rfl (ζa rfl (Xay.quiet rfl Xk3 (by kernel_rfl) (Xba.adv hTT rfl (Xba.loadb hTT rfl a rfl rfl (Xba.loadb hTT rfl (d.heap' i) rfl rfl (Xba.loadb hTT rfl a rfl rfl (Xba.loadb hTT rfl (d.heap' i) rfl rfl (Xba.arith hTT rfl (w64 (by omega)) rfl (Xba.nil fun l e=>ζa rfl ?_)))))))))));have g:=XkW b cb total lap l ((k.chg d).chg e) (e.heap' a);refine Xay.ret1D hTT rfl Tryz.func101 rfl rfl rfl (XiJ (args := []) (captured := [.pointer (some ⟨cb,0,none⟩)]) g.fn) ⟨g.fn,?_⟩;have m:=g.calls;intro c cs n;obtain ⟨en,u',w',fr,⟨o,v,p,q,j⟩,f⟩:=m c cs n;exact ⟨en,u',w',fr,⟨o,v,p,rfl,q,((d.trans e).mono fun _ _ h=>h.elim).trans j⟩,f⟩

theorem Rd.keepU {w w':World} {a:Option Addr} {l:List Int} {q t:Nat} {c:Array Value} {fz:Nat × Nat} (hr:Rd .u8 w a l) (hq:w.heap[q]? = some (.cells c t fz)) (hc:∀ x ∈ c.toList,∀ z,x ≠ .int .u8 z) (hs:Chg (fun b=>b=q) w w'):Rd .u8 w' a l:=fun j f=>by
 obtain ⟨b,off,e,d⟩:=hr j f;refine ⟨b,off,e,hs.cell d (fun g => ?_)⟩;subst g;rw [Xel hq] at d;exact hc _ (Array.mem_toList_iff.2 (Array.mem_of_getElem? d)) _ rfl
def XaV (w:World) (r:RA):Prop := ∃ g,r.a=some ⟨g,0,none⟩∧w.heap.size≤g

structure Use where
 kind:Int
 at':Int
 frm:Int
 n:Int
 w:Int
 a:Option Addr
 cap:Nat
 bs:List Int
structure XbQ (w:World) (u:Use):Prop where
 kind:0≤u.kind∧u.kind<256
 w64:0≤u.w∧u.w<18446744073709551616
 rd:Rd .u8 w u.a u.bs
 rng:InB u.bs
 len:u.bs.length≤9223372036854775807
theorem XbQ.chg {w w':World} {u:Use} (h:XbQ w u) (hc:Chg XaX w w'):XbQ w' u:=⟨h.kind,h.w64,h.rd.chg hc,h.rng,h.len⟩
structure Out where
 err:Int
 bs:List Int
 n:Nat
 told:List Int
 word:Int
def Xmq (bs:List Int) (e:Int):Out:=⟨e,bs,0,[],0⟩
theorem ArV.charge_zero {V:ArV} {A:Ar}:{V.charge A 0 with bs:=V.bs}=V:=by
 unfold ArV.charge;split
 ·rfl
 ·simp [XeA]
theorem ArV.charge_zero' {V:ArV} {A:Ar}:{V.charge A ((0:Nat):Int) with bs:=V.bs}=V:=ArV.charge_zero
theorem Xa1.rdS {base:Nat} {w:World} {v:Value} {l:List Int} {S:Nat→Prop} (h:Xa1 base w v l) (hS:∀ b,S b→b<base):∃ a cap,v = .slice a l.length cap∧RdS S .u8 w a l:=by
 obtain ⟨g,cap,cur,c,i,j,k,m,d⟩:=h.rd;exact ⟨_,cap,c,d,fun b off s e _ f=>by cases e; have:=hS _ f; omega⟩
theorem Xag.foot_lt {w:World} {A:Ar} {V:ArV} (h:Xag w A V):∀ b,XgK A b→b<w.heap.size:=fun b hb=>by
 rcases hb with rfl | hb
 ·exact Xkj h.dat
 ·exact Xkj (h.met b hb).1
theorem RdS.nil {S:Nat→Prop} {k:IntKind} {w:World} {a:Option Addr}:RdS S k w a []:=⟨Rd.nil _ _ _,fun _ _ _ _ h=>absurd h (by simp)⟩
def XbR (A:Ar) (V:ArV) (w:World) (o:Out):Value→World→Prop:=fun v w' =>
 ∃ a cap,v = .tuple #[.slice a o.told.length cap,.int .u64 o.word,.int .i64 o.err]∧RdS (XgK A) .u8 w' a o.told∧Xag w' A {V.charge A o.n with bs:=o.bs}∧Chg (XgK A) w w'
theorem XbR.no {A:Ar} {V:ArV} {w:World} {e:Int} {a:Option Addr} {cap:Nat} (h:Xag w A V):XbR A V w (Xmq V.bs e) (.tuple #[.slice a 0 cap,.int .u64 0,.int .i64 e]) w :=
 ⟨a,cap,rfl,RdS.nil,by show Xag w A {V.charge A ((0:Nat):Int) with bs:=V.bs}; rw [ArV.charge_zero']; exact h,Chg.refl _ _⟩
theorem Xbc.keep {w w':World} {r:RA} {q t:Nat} {c:Array Value} {fz:Nat × Nat} (h:Xbc w r) (hq:w.heap[q]? = some (.cells c t fz)) (hc:∀ x ∈ c.toList,∀ z,x ≠ .int .u8 z) (hs:Chg (fun b=>b=q) w w'):Xbc w' r :=
 ⟨h.rd.keepU hq hc hs,h.len,h.lc,h.rng⟩
theorem Xbc.rdS {w:World} {r:RA} {S:Nat→Prop} (h:Xbc w r) (hs:∀ b off s,r.a=some ⟨b,off,s⟩ → ¬ S b):RdS S .u8 w r.a r.bs:=⟨h.rd,fun b off s e _=>hs b off s e⟩
theorem Xbc.far {w w':World} {r:RA} {S:Nat→Prop} (h:Xbc w r) (hs:∀ b off s,r.a=some ⟨b,off,s⟩ → ¬ S b) (hc:Chg S w w'):Xbc w' r :=
 ⟨((h.rdS hs).chg hc).1,h.len,h.lc,h.rng⟩
structure Act where
 step:Bool
 at':Int
 n:Int
 a:Option Addr
 cap:Nat
 bs:List Int
structure Xac (w:World) (x:Act):Prop where
 rd:Rd .u8 w x.a x.bs
 rng:InB x.bs
 len:x.bs.length≤9223372036854775807
theorem Xac.chg {w w':World} {x:Act} (h:Xac w x) (hc:Chg XaX w w'):Xac w' x:=⟨h.rd.chg hc,h.rng,h.len⟩
structure RM where
 ra:RA
 f:Nat
 t:Nat
 size:Nat
 gone:Nat
structure XaS (w:World) (m:RM):Prop where
 ra:Xbc w m.ra
 pos:1≤m.size
 gone:m.gone≤m.size
 f:m.f+m.size≤m.ra.bs.length
 t:m.t+m.size≤m.ra.bs.length
theorem XaS.grow {w w':World} {m:RM} (h:XaS w m) (hc:Chg XaX w w'):XaS w' m:=⟨h.ra.grow hc,h.pos,h.gone,h.f,h.t⟩
def XaT (m:RM) (w:World) (bs:List Int) (st:Int) (g:Nat) (m':RM) (w':World):Prop :=
 m'.ra.bs=bs∧m'.ra.steps=st∧m'.f=m.f∧m'.t=m.t∧m'.size=m.size∧m'.gone=g∧Xbc w' m'.ra∧Chg XaX w w'∧(XaV w m'.ra∨m'.ra.a=m.ra.a)
theorem XaT.self {m:RM} {w w':World} (h:Xbc w' m.ra) (hc:Chg XaX w w'):XaT m w m.ra.bs m.ra.steps m.gone m w':=⟨rfl,rfl,rfl,rfl,rfl,rfl,h,hc,.inr rfl⟩
def Xtr (bs:List Int) (f t g k:Nat):List Int:=if k=0 then bs else cpB bs (t+g) (f+g) k
def Xwy (bs:List Int) (f t g i n:Nat):List Int:=if Xwz i n g=0 then bs else cpB bs (t+i) (f+i) (Xwz i n g)
theorem Xtt {bs:List Int} {f t g k size:Nat} (hk:g+k≤size) (hf:f+size≤bs.length) (ht:t+size≤bs.length):(Xtr bs f t g k).length=bs.length:=by
 unfold Xtr;split
 ·rfl
 ·exact Xfw (by omega) (by omega)
structure ThM where
 size:Int
 q:PlcM
structure MvM where
 who:Int
 pf:Int
 fa:Int
 pt:Int
 ta:Int
 f:Nat
 t:Nat
 size:Nat
 gone:Nat
structure StM where
 keep:List Int
 bs:List Int
 rm:RmM
 th:List (Option ThM)
 mv:List (Option MvM)
def PlcM.plc (q:PlcM):Plc:=⟨q.cls,q.page,q.idx,none,0,q.pages⟩
theorem XvF (c:Conf) (q:Plc):XvE c q=XvE c (Xoe q).plc:=by cases q; rfl
theorem XvD (c:Conf) (q:Plc):XvB c q=XvB c (Xoe q).plc:=by cases q; rfl
theorem XeH (c:Conf) (q:Plc) (i n:Int):XeG c q i n=XeG c (Xoe q).plc i n:=by cases q; rfl
theorem Xv6 (c:Conf) (q:Plc) (i:Nat):Xv5 c q i=Xv5 c (Xoe q).plc i:=by cases q; rfl
theorem Xvc (c:Conf) (q:Plc) (bs:List Int) (i n:Nat):Xu9 c q bs i n=Xu9 c (Xoe q).plc bs i n:=by cases q; rfl
theorem Xjf (c:Conf) (q:Plc) (bs:List Int) (i:Nat) (l:List Int):∀ k,Xjc c q bs i l k=Xjc c (Xoe q).plc bs i l k
 |0=>rfl
 |k+1=>by unfold Xjc; rw [Xjf c q bs i l k,Xv6]
theorem Xex (c:Conf) (q:Plc) (i n:Nat):Xew c q i n=Xew c (Xoe q).plc i n:=by cases q; rfl
def Xs8 (s:StM) (k:Int):Option MvM:=if 0≤k then s.mv.getD k.toNat none else none
def Xtl (s:StM) (o:Int):Option ThM:=if 0≤o then s.th.getD o.toNat none else none
def XfP (opn keep:Int):Bool:=decide (keep<opn) && decide (keep+1<opn)
def XdM (c:Conf) (k page idx:Int):Int:=XvA c ⟨k,page,idx,none,0,[]⟩
def XeQ (s:StM) (n:Int):StM:={s with rm:={s.rm with tot:=XeA s.rm.tot n}}
def XlG (c:Conf) (M:RmM) (k:Nat):MvM:=⟨XpS M k (Xp5 M k).1 (Xp5 M k).2.1,(Xp5 M k).1,(Xp5 M k).2.1,(Xp5 M k).2.2.1,(Xp5 M k).2.2.2,(XdM c k (Xp5 M k).1 (Xp5 M k).2.1).toNat,(XdM c k (Xp5 M k).2.2.1 (Xp5 M k).2.2.2).toNat,(Xfb c k).toNat,0⟩
def Xdj (s:StM) (k:Nat):Bool:=(Xs8 s k).isNone && XfP (XpO s.rm k:Nat) (s.keep.getD k 0) && Xp2 s.rm k
def XsV (c:Conf) (s:StM) (k:Nat):StM:=if Xdj s k=true then {s with rm:=Xqa s.rm k (XpS s.rm k (Xp5 s.rm k).1 (Xp5 s.rm k).2.1),mv:=s.mv.set k (some (XlG c s.rm k))} else s
def goN (m:MvM) (n:Int):Nat:=Xtv n (m.size - m.gone)
def Xti (s:StM) (o:Int):Int:=match Xtl s o with | some t=>t.size | none=>0
def Xtk (s:StM) (m:MvM) (n:Int):StM:=XeQ {s with bs:=Xtr s.bs m.f m.t m.gone (goN m n)} (goN m n)
def Xs3 (s:StM) (k:Nat) (n:Int):StM:=match Xs8 s k with
 |none=>s
 |some m=>if m.gone+goN m n<m.size then {Xtk s m n with mv:=s.mv.set k (some {m with gone:=m.gone+goN m n})}
  else {Xtk s m n with mv:=s.mv.set k none,th:=s.th.set m.who.toNat (some ⟨Xti s m.who,⟨k,m.pt,m.ta,[]⟩⟩),rm:=XpJ (Xtk s m n).rm k m.pf m.fa}
def Xs0 (s:StM) (k:Int):StM:=match Xs8 s k with | none=>s | some m=>Xs3 s k.toNat m.size
def XuB (c:Conf) (s:StM) (size:Int):Option MvM:=match Xs8 s (XnI c.classes size) with
 |some m=>if XpO s.rm (XnI c.classes size)=0 then some m else none
 |none=>none
def Xjg (c:Conf) (s:StM) (who size:Int):PlcM:=match XuB c s size with
 |some m=>⟨XnI c.classes size,m.pt,m.ta,[]⟩
 |none=>XpZ c s.rm who size
def Xjh (c:Conf) (s:StM) (who size:Int):StM:=match XuB c s size with
 |some m=>XeQ {s with mv:=s.mv.set (XnI c.classes size).toNat none,rm:=XpP s.rm (XnI c.classes size) m.pt m.ta who} 3
 |none=>{s with rm:=XpX c s.rm who size}
def Xs9 (c:Conf) (s:StM) (q:PlcM) (at':Nat) (l:List Int):StM:=XeQ {s with bs:=Xjc c q.plc s.bs at' l l.length} (Xew c q.plc at' l.length)
def Xs6 (c:Conf) (s:StM) (who size:Int):StM :=
 {Xs9 c (Xjh c s who size) (Xjg c s who size) 0 (XwU (XvB c (Xjg c s who size).plc).toNat) with th:=s.th.set who.toNat (some ⟨size,Xjg c s who size⟩)}
def XsZ (c:Conf) (s:StM) (q:PlcM):StM :=
 if q.cls<0 then {s with rm:=Xpw s.rm q} else
  Xs3 (XsV c {s with rm:=Xpw s.rm q} q.cls.toNat) q.cls.toNat c.step
def XmC (s:StM) (o:Int):Int:=if o<0∨(s.th.length:Int)≤o then 1 else match Xtl s o with | none=>9 | some _=>0
def Xs1 (c:Conf) (s:StM) (size:Int):Int:=if size<1∨c.most<size then 3 else if (Xs8 s (XnI c.classes size)).isSome then 0 else XpA c s.rm size
def XsU (c:Conf) (s:StM) (o size:Int):Int:=if XmC s o=1 then 1 else if XmC s o=0 then 10 else Xs1 c s size
def XsT (c:Conf) (s:StM) (o size:Int):StM:=if XsU c s o size=0 then Xs6 c s o size else s
def stQ (s:StM) (o:Int):PlcM:=match Xtl s o with | some t=>t.q | none=>⟨0,0,0,[]⟩
def Xs2 (c:Conf) (s:StM) (o:Int):StM:=if XmC s o≠0 then s else
 XsZ c {Xs0 s (stQ s o).cls with th:=(Xs0 s (stQ s o).cls).th.set o.toNat none} (stQ (Xs0 s (stQ s o).cls) o)
def Xtp (c:Conf) (old size:Int):Bool:=decide (XnI c.classes old=XnI c.classes size) && (decide (XnI c.classes old ≠ -1) || decide (XkA old c.size=XkA size c.size))
def Xto (s:StM) (o:Int) (at' n:Nat):StM:=match Xs8 s (stQ s o).cls with
 |some m=>if m.who=o then XeQ {s with bs:=Xwy s.bs m.f m.t m.gone at' n} (Xwz at' n m.gone) else s
 |none=>s
def Xte (c:Conf) (s:StM) (o size:Int):Int:=if XmC s o≠0 then XmC s o else if size<1∨c.most<size then 3 else if Xtp c (Xti s o) size=true then 0 else Xs1 c s size
def Xth (s:StM) (o:Int) (t:ThM):StM:={s with th:=s.th.set o.toNat (some t)}
def Xs7 (c:Conf) (s:StM) (o size:Int):StM :=
 let s1:=Xs0 s (stQ s o).cls
 let m:=(min (Xti s o) size).toNat
 let s2:=Xs6 c (XeQ s1 (Xew c (stQ s1 o).plc 0 m)) o size
 XsZ c (Xs9 c s2 (stQ s2 o) 0 (Xu9 c (stQ s1 o).plc s1.bs 0 m)) (stQ s1 o)
def Xtd (c:Conf) (s:StM) (o size:Int):StM :=
 if Xte c s o size≠0 then s
 else if Xtp c (Xti s o) size=true then
  (if size<Xti s o then Xto (Xth (Xs9 c s (stQ s o) size.toNat (XwU (Xti s o - size).toNat)) o ⟨size,stQ s o⟩) o size.toNat (Xti s o - size).toNat
   else Xth s o ⟨size,stQ s o⟩)
 else Xs7 c s o size
def Xwd (s:StM) (o at' n:Int):Int:=if XmC s o≠0 then XmC s o else if at'<0∨n<0∨Xti s o<n∨Xti s o - n<at' then 8 else 0
def Xtc (c:Conf) (s:StM) (o at' n:Int):List Int:=if Xwd s o at' n=0 then Xu9 c (stQ s o).plc s.bs at'.toNat n.toNat else []
def Xtb (c:Conf) (s:StM) (o at' n:Int):StM:=if Xwd s o at' n=0 then XeQ s (Xew c (stQ s o).plc at'.toNat n.toNat) else s
def Xtn (c:Conf) (s:StM) (o at':Int) (l:List Int):StM:=if Xwd s o at' l.length=0 then Xto (Xs9 c s (stQ s o) at'.toNat l) o at'.toNat l.length else s
def tickK (c:Conf) (x:StM × Int) (k:Nat):StM × Int :=
 if x.2<1 then x else match Xs8 (XsV c x.1 k) k with
  |none=>(XsV c x.1 k,x.2)
  |some m=>(Xs3 (XsV c x.1 k) k x.2,x.2 - goN m x.2)
def tickTo (c:Conf) (s:StM) (n:Nat):StM × Int:=(List.range n).foldl (tickK c) (s,c.step)
def Xtm (c:Conf) (s:StM):StM:=(tickTo c s s.mv.length).1
def Xtg (s:StM) (k keep:Int):Int:=if k<0∨(s.mv.length:Int)≤k∨keep<0∨1024<keep then 1 else 0
def Xtf (s:StM) (k keep:Int):StM:=if Xtg s k keep=0 then {s with keep:=s.keep.set k.toNat keep} else s
def XuR (l:List (Option ThM)):List Int:=l.filterMap fun t=>t.map (·.size)
def XsW (s:StM):Int:=(XuR s.th).sum
def XlO (c:Conf):StM:=⟨c.keep,XwU (c.size*c.pages).toNat,XlH c 0,List.replicate c.slots.toNat none,List.replicate c.classes.length none⟩
structure StM.OkP (c:Conf) (s:StM) (pd:Option (Nat × PlcM)):Prop where
 may:XkH c=true
 rm:Xbg c s.rm
 kl:s.keep.length=c.classes.length
 kr:∀ x ∈ s.keep,0≤x∧x≤1024
 bl:(s.bs.length:Int)=c.size*c.pages
 bi:InB s.bs
 tl:(s.th.length:Int)=c.slots
 ml:s.mv.length=c.classes.length
 size:∀ (o:Nat) t,s.th[o]? = some (some t)→1≤t.size∧t.size≤c.most
 small:∀ (o:Nat) t,s.th[o]? = some (some t)→XnI c.classes t.size ≠ -1→t.q.cls=XnI c.classes t.size∧t.q.pages = []∧XpS s.rm t.q.cls t.q.page t.q.idx=o
 large:∀ (o:Nat) t,s.th[o]? = some (some t)→XnI c.classes t.size = -1 → ∃ n r,(n,r) ∈ s.rm.lg∧t.q=⟨-1,(n:Nat),0,Xly r⟩∧(r.length+1:Int)=Xce t.size c.size
 linj:∀ (o o':Nat) t t',s.th[o]? = some (some t)→s.th[o']? = some (some t')→t.q.cls = -1→t'.q.cls = -1→t.q.page=t'.q.page→o=o'
 mv:∀ (k:Nat) m,s.mv[k]? = some (some m)→(∃ (o:Nat),∃ t,m.who=o∧s.th[o]? = some (some t)∧t.q=⟨(k:Nat),m.pf,m.fa,[]⟩)∧XpS s.rm k m.pt m.ta=m.who ∧ ¬ (m.pf=m.pt∧m.fa=m.ta)∧(m.f:Int)=XdM c k m.pf m.fa∧(m.t:Int)=XdM c k m.pt m.ta∧(m.size:Int)=Xfb c k∧m.gone<m.size
 own:∀ k n a:Int,XpS s.rm k n a ≠ -1→(∃ (o:Nat),∃ t,XpS s.rm k n a=o∧s.th[o]? = some (some t)∧(t.q=⟨k,n,a,[]⟩ ∨ ∃ m,Xs8 s k=some m∧m.pt=n∧m.ta=a)) ∨ ∃ o,pd=some (o,⟨k,n,a,[]⟩)
 ps:∀ o q,pd=some (o,q)→q.cls ≠ -1→q.pages = []∧XpS s.rm q.cls q.page q.idx=o∧(∀ m,Xs8 s q.cls=some m → ¬ (m.pt=q.page∧m.ta=q.idx)) ∧ ∀ (o':Nat) t,s.th[o']? = some (some t)→t.q≠q
 pl:∀ o q,pd=some (o,q)→q.cls = -1 → ∃ n r,(n,r) ∈ s.rm.lg∧q=⟨-1,(n:Nat),0,Xly r⟩ ∧ ∀ (o':Nat) t,s.th[o']? = some (some t)→t.q.cls = -1→t.q.page≠(n:Nat)
abbrev StM.Ok (c:Conf) (s:StM):Prop:=s.OkP c none
section
variable {c:Conf} {s:StM} {pd:Option (Nat × PlcM)}
theorem Xlu {k:Int} {m:MvM} (h:Xs8 s k=some m):∃ j:Nat,k=j∧j<s.mv.length∧s.mv[j]? = some (some m):=by
 unfold Xs8 at h;split at h
 ·rename_i b
  obtain ⟨j,rfl⟩:=Int.eq_ofNat_of_zero_le b;rw [Int.toNat_natCast,List.getD_eq_getElem?_getD] at h;cases a:s.mv[j]? with
  |none=>rw [a] at h; cases h
  |some x =>
   rw [a] at h;have:x=some m:=h;subst this;exact ⟨j,rfl,(List.getElem?_eq_some_iff.1 a).1,a⟩
 ·cases h
theorem Xlr {j:Nat} {m:MvM} (h:s.mv[j]? = some (some m)):Xs8 s (j:Nat)=some m:=by
 unfold Xs8;rw [if_pos (by omega),Int.toNat_natCast,List.getD_eq_getElem?_getD,h]; rfl
theorem XuU {o:Int} {t:ThM} (h:Xtl s o=some t):∃ j:Nat,o=j∧j<s.th.length∧s.th[j]? = some (some t):=by
 unfold Xtl at h;split at h
 ·rename_i b
  obtain ⟨j,rfl⟩:=Int.eq_ofNat_of_zero_le b;rw [Int.toNat_natCast,List.getD_eq_getElem?_getD] at h;cases a:s.th[j]? with
  |none=>rw [a] at h; cases h
  |some x =>
   rw [a] at h;have:x=some t:=h;subst this;exact ⟨j,rfl,(List.getElem?_eq_some_iff.1 a).1,a⟩
 ·cases h
theorem XuT {j:Nat} {t:ThM} (h:s.th[j]? = some (some t)):Xtl s (j:Nat)=some t:=by
 unfold Xtl;rw [if_pos (by omega),Int.toNat_natCast,List.getD_eq_getElem?_getD,h]; rfl
theorem Xq8 {α:Type} {l:List (Option α)} {k j:Nat} {v:Option α} {x:α} (h:(l.set k v)[j]? = some (some x)):(j=k∧v=some x∧k<l.length)∨(j≠k∧l[j]? = some (some x)):=by
 by_cases e:k=j
 ·subst e;by_cases a:k<l.length
  ·rw [List.getElem?_set_self a] at h;exact .inl ⟨rfl,Option.some.inj h,a⟩
  ·rw [List.getElem?_eq_none (by rw [List.length_set]; omega)] at h; cases h
 ·rw [List.getElem?_set_ne e] at h; exact .inr ⟨fun h=>e h.symm,h⟩
theorem Xlt {k:Nat} {v:Option MvM} {j:Int} {m:MvM} {s':StM} (hs:s'.mv=s.mv.set k v) (h:Xs8 s' j=some m):(j=k∧v=some m)∨(j≠k∧Xs8 s j=some m):=by
 obtain ⟨i,rfl,_,a⟩:=Xlu h;rw [hs] at a;rcases Xq8 a with ⟨rfl,e,_⟩ | ⟨b,a⟩
 ·exact .inl ⟨rfl,e⟩
 ·exact .inr ⟨by omega,Xlr a⟩
theorem Xlo {k:Nat} {v:Option MvM} {j:Int} {m:MvM} {s':StM} (hs:s'.mv=s.mv.set k v) (hj:j≠k) (h:Xs8 s j=some m):Xs8 s' j=some m:=by
 obtain ⟨i,rfl,_,a⟩:=Xlu h;refine Xlr ?_;rw [hs,List.getElem?_set_ne (by omega)]; exact a
theorem XdN (h:XkH c=true) {k n a:Int} (hk:0≤k∧k<c.classes.length) (hn:0≤n∧n<c.pages) (ha:0≤a∧a<XdS c k):XvE c ⟨k,n,a,none,0,[]⟩=true:=by
 unfold XvE;rw [if_neg (by simp only; omega)];simp only [Bool.and_eq_true,Xiw];exact ⟨⟨hk,hn⟩,ha⟩
theorem XmI (h:s.OkP c pd) {k n a:Int} (ho:XpS s.rm k n a ≠ -1):XvE c ⟨k,n,a,none,0,[]⟩=true∧0≤k∧k<c.classes.length:=by
 obtain ⟨j,x,rfl,g,_,_,b,d,e,f⟩:=XpU h.rm ho;exact ⟨XdN h.may (by omega) ⟨b,d⟩ ⟨e,f⟩,by omega,by omega⟩
theorem XdR (h:XkH c=true) {k n a:Int} (hv:XvE c ⟨k,n,a,none,0,[]⟩=true) (hk:k ≠ -1):0≤XdM c k n a∧XdM c k n a+Xfb c k≤c.size*c.pages∧8≤Xfb c k∧Xfb c k≤c.size:=by
 obtain ⟨j,pg,ix,e1,e2,e3,b,d,e,f,g,i,l,m⟩:=XiN h hv hk;unfold XdM XvA;rw [if_pos ⟨hv,hk⟩];simp only at e1 e2 e3
 subst e1;subst e2;subst e3;simp only
 omega
theorem StM.OkP.bytes (h:s.OkP c pd) {bs:List Int} (hl:bs.length=s.bs.length) (hb:InB bs) (n:Int):(XeQ {s with bs:=bs} n).OkP c pd :=
 ⟨h.may,h.rm.charge n,h.kl,h.kr,by show (bs.length:Int)=_; rw [hl]; exact h.bl,hb,h.tl,h.ml,h.size,h.small,h.large,h.linj,h.mv,h.own,h.ps,h.pl⟩
theorem StM.OkP.tot (h:s.OkP c pd) (n:Int):(XeQ s n).OkP c pd:=h.bytes (bs:=s.bs) rfl h.bi n
theorem Xfd (h:s.OkP c pd) {o:Nat} {t:ThM} (ht:s.th[o]? = some (some t)) (hc:t.q.cls ≠ -1):XnI c.classes t.size ≠ -1:=fun e=>by
 obtain ⟨n,r,_,e2,_⟩:=h.large o t ht e;rw [e2] at hc;exact hc rfl
theorem Xqf (M:RmM) (k who:Int):(Xqa M k who).lg=M.lg:=by unfold Xqa; split; rfl; split <;> rfl
theorem XpL (M:RmM) (k n i:Int):(XpJ M k n i).lg=M.lg:=by unfold XpJ; split; rfl; split <;> rfl
theorem XpR (M:RmM) (k n i who:Int):(XpP M k n i who).lg=M.lg:=by unfold XpP; split <;> rfl
structure Xah (c:Conf) (s:StM) (k:Nat):Prop where
 plan:Xa7 s.rm k
 kl:k<c.classes.length
 nomv:Xs8 s (k:Nat)=none
 who:∃ (o:Nat),∃ t,XpS s.rm k (Xp5 s.rm k).1 (Xp5 s.rm k).2.1=o∧s.th[o]? = some (some t)∧t.q=⟨(k:Nat),(Xp5 s.rm k).1,(Xp5 s.rm k).2.1,[]⟩
 f:XvE c ⟨(k:Nat),(Xp5 s.rm k).1,(Xp5 s.rm k).2.1,none,0,[]⟩=true
 t:XvE c ⟨(k:Nat),(Xp5 s.rm k).2.2.1,(Xp5 s.rm k).2.2.2,none,0,[]⟩=true
theorem Xdh (h:s.Ok c) {k:Nat} (hB:Xdj s k=true):Xah c s k:=by
 unfold Xdj at hB;simp only [Bool.and_eq_true] at hB;obtain ⟨⟨r,A⟩,u⟩:=hB;have P:=Xoa h.rm u;have l:Xs8 s (k:Nat)=Option.none:=by simpa using r
 obtain ⟨f1,f2,B⟩:=XmI h P.own;have d:∃ (o:Nat),∃ t,XpS s.rm k (Xp5 s.rm k).1 (Xp5 s.rm k).2.1=o∧s.th[o]? = some (some t)∧t.q=⟨(k:Nat),(Xp5 s.rm k).1,(Xp5 s.rm k).2.1,[]⟩:=by
  rcases h.own _ _ _ P.own with ⟨o,t,f,i,b | ⟨m,b,_⟩⟩ | ⟨o,g⟩
  ·exact ⟨o,t,f,i,b⟩
  ·rw [l] at b; cases b
  ·cases g
 obtain ⟨o,t,f,i,b⟩:=d;refine ⟨P,by omega,l,⟨o,t,f,i,b⟩,f1,?_⟩;obtain ⟨p,C⟩:=Xuz h.rm (P.e (o:Int) (by omega));rw [P.n _ (by omega),P.a _ (by omega)] at p;have q:=p k (Xp5 s.rm k).2.2.1 (Xp5 s.rm k).2.2.2;rw [if_pos ⟨rfl,rfl,rfl⟩] at q;obtain ⟨j,x,e,D,_,_,v,w,y,z⟩:=XpU (h.rm.take k (o:Int)) (k:=k) (n:=(Xp5 s.rm k).2.2.1) (a:=(Xp5 s.rm k).2.2.2) (by rw [q]; omega);exact XdN h.may (by omega) ⟨v,w⟩ ⟨y,z⟩
theorem StM.OkP.begin (h:s.Ok c) (k:Nat):(XsV c s k).Ok c:=by
 unfold XsV;by_cases v:Xdj s k=true
 ·rw [if_pos v];obtain ⟨P,F,G,⟨o,t,w,A,H⟩,hf,ht⟩:=Xdh h v;rw [w];obtain ⟨i,B⟩:=Xuz h.rm (P.e (o:Int) (by omega));rw [P.n _ (by omega),P.a _ (by omega)] at i B;obtain ⟨pf,fa,pt,ta⟩:True∧True∧True∧True:=⟨trivial,trivial,trivial,trivial⟩;have C:∀ (s':StM),s'.mv=s.mv.set k (some (XlG c s.rm k)) → ∀ j m,Xs8 s j=some m→Xs8 s' j=some m:=fun s' I j m b=>Xlo I (fun e=>by rw [e,G] at b; cases b) b;have keep:∀ {j n a:Int},XpS s.rm j n a ≠ -1→XpS (Xqa s.rm k o) j n a=XpS s.rm j n a:=fun u=>by
   rw [i,if_neg];rintro ⟨rfl,rfl,rfl⟩;exact u B
  refine ⟨h.may,h.rm.take _ _,h.kl,h.kr,h.bl,h.bi,h.tl,by show (s.mv.set _ _).length=_; rw [List.length_set]; exact h.ml,h.size,fun d f x y => ?_,fun d f x y => ?_,h.linj,fun j m b => ?_,fun j n a b => .inl ?_,(by rintro _ _ ⟨⟩),(by rintro _ _ ⟨⟩)⟩
  ·obtain ⟨l,p,q⟩:=h.small d f x y;exact ⟨l,p,(keep (by rw [q]; omega)).trans q⟩
  ·show ∃ n r,(n,r) ∈ (Xqa s.rm k o).lg∧_
   rw [Xqf];exact h.large d f x y
  ·rcases Xq8 b with ⟨rfl,e,_⟩ | ⟨u,b⟩
   ·have em:=Option.some.inj e;subst em;obtain ⟨J,O,Q,R⟩:=XdR h.may hf (by omega);obtain ⟨K,S,_,_⟩:=XdR h.may ht (by omega);refine ⟨⟨o,t,w,A,H⟩,?_,fun e=>P.ne e.1,?_,?_,?_,?_⟩
    ·show XpS (Xqa s.rm j o) j _ _=XpS s.rm j _ _
     rw [w,i,if_pos ⟨rfl,rfl,rfl⟩]
    ·show (((XdM c j _ _).toNat:Nat):Int)=_
     exact Int.toNat_of_nonneg J
    ·show (((XdM c j _ _).toNat:Nat):Int)=_
     exact Int.toNat_of_nonneg K
    ·show (((Xfb c j).toNat:Nat):Int)=_
     exact Int.toNat_of_nonneg (by omega)
    ·show 0<(Xfb c j).toNat
     omega
   ·obtain ⟨l,p,q⟩:=h.mv j m b;have L:=l;obtain ⟨d,f,M,_⟩:=l;exact ⟨L,(keep (by rw [p,M]; omega)).trans p,q⟩
  ·by_cases e:j=k∧n=(Xp5 s.rm k).2.2.1∧a=(Xp5 s.rm k).2.2.2
   ·obtain ⟨rfl,rfl,rfl⟩:=e;refine ⟨o,t,?_,A,.inr ⟨XlG c s.rm k,?_,rfl,rfl⟩⟩
    ·show XpS (Xqa s.rm k o) k _ _=_
     rw [i,if_pos ⟨rfl,rfl,rfl⟩]
    ·refine Xlr ?_;show (s.mv.set k _)[k]? = _
     rw [List.getElem?_set_self (by rw [h.ml]; exact F)]
   ·have e1:XpS (Xqa s.rm k o) j n a=XpS s.rm j n a:=by rw [i,if_neg e]
    rw [e1] at b;show ∃ (d:Nat),∃ t,XpS (Xqa s.rm k o) j n a=d∧_
    rw [e1];rcases h.own j n a b with ⟨d,f,D,E,z | ⟨m,z,N⟩⟩ | ⟨_,g⟩
    ·exact ⟨d,f,D,E,.inl z⟩
    ·exact ⟨d,f,D,E,.inr ⟨m,C _ rfl j m z,N⟩⟩
    ·cases g
 ·rw [if_neg v]; exact h
theorem Xlp (h:s.OkP c pd) {k:Nat} {m:MvM} (hm:s.mv[k]? = some (some m)):m.f+m.size≤s.bs.length∧m.t+m.size≤s.bs.length∧0<m.size∧(m.f+m.size≤m.t∨m.t+m.size≤m.f):=by
 obtain ⟨⟨o,t,e1,e2,e3⟩,y,z,D,E,F,G⟩:=h.mv k m hm;have H:k<c.classes.length:=by have:=(List.getElem?_eq_some_iff.1 hm).1; have:=h.ml; omega
 have l:=h.small o t e2 (Xfd h e2 (by rw [e3]; simp only; omega));rw [e3] at l;have d:=(XmI h (k:=(k:Nat)) (n:=m.pf) (a:=m.fa) (by rw [l.2.2]; omega)).1;have e:=(XmI h (k:=(k:Nat)) (n:=m.pt) (a:=m.ta) (by rw [y,e1]; omega)).1;have I:=XdR h.may d (by omega);have J:=XdR h.may e (by omega);have C:=h.bl;refine ⟨by omega,by omega,by omega,?_⟩;obtain ⟨A,f,g,B,q,r,K,L,M,N,O,P,Q,R⟩:=XiN h.may d (by simp only; omega);obtain ⟨b,i,j,f1,f2,u,S,T,U,V,W,g6,g7,g8⟩:=XiN h.may e (by simp only; omega);simp only at B q r f1 f2 u
 have v:A=k:=by omega
 have w:b=k:=by omega
 subst v;subst w;have x1:XdM c (b:Nat) m.pf m.fa=(f:Int)*c.size+(g:Int)*Xfb c (b:Nat):=by unfold XdM XvA; rw [if_pos ⟨d,by simp only; omega⟩]; simp only; rw [q,r]
 have x2:XdM c (b:Nat) m.pt m.ta=(i:Int)*c.size+(j:Int)*Xfb c (b:Nat):=by unfold XdM XvA; rw [if_pos ⟨e,by simp only; omega⟩]; simp only; rw [f2,u]
 have p:0≤c.size:=by have:=(XkJ h.may).1; omega
 rcases Nat.lt_trichotomy f i with x | heq | hgt
 ·have:((f:Int)+1)*c.size≤i*c.size:=Int.mul_le_mul_of_nonneg_right (by omega) p;rw [Int.add_mul,Int.one_mul] at this;omega
 ·subst heq;rcases Nat.lt_trichotomy g j with x | heq | hgt
  ·have:((g:Int)+1)*Xfb c (b:Nat)≤j*Xfb c (b:Nat):=Int.mul_le_mul_of_nonneg_right (by omega) (by omega);rw [Int.add_mul,Int.one_mul] at this;omega
  ·exact absurd ⟨by omega,by omega⟩ z
  ·have:((j:Int)+1)*Xfb c (b:Nat)≤g*Xfb c (b:Nat):=Int.mul_le_mul_of_nonneg_right (by omega) (by omega);rw [Int.add_mul,Int.one_mul] at this;omega
 ·have:((i:Int)+1)*c.size≤f*c.size:=Int.mul_le_mul_of_nonneg_right (by omega) p;rw [Int.add_mul,Int.one_mul] at this;omega
theorem Xfv {bs:List Int} {t f n:Nat} (h:InB bs):InB (cpB bs t f n):=fun x hx=>by
 rcases Xwq hx with hx | hx
 ·exact h x hx
 ·unfold sub at hx;exact h x (List.mem_of_mem_drop (List.mem_of_mem_take hx))
theorem Xhl (m:MvM) (n:Int):goN m n≤m.size - m.gone:=by unfold goN Xtv; omega
theorem StM.OkP.step (h:s.OkP c pd) {k:Nat} {m:MvM} (hm:s.mv[k]? = some (some m)) (n:Int):(Xtk s m n).OkP c pd:=by
 obtain ⟨a,b,e,_⟩:=Xlp h hm;have f:=Xhl m n;have d:=(h.mv k m hm).2.2.2.2.2.2;refine h.bytes ?_ ?_ _
 ·exact Xtt (size:=m.size) (by omega) a b
 ·unfold Xtr;split
  ·exact h.bi
  ·exact Xfv h.bi
theorem StM.OkP.go (h:s.Ok c) (k:Nat) (n:Int):(Xs3 s k n).Ok c:=by
 unfold Xs3;cases M:Xs8 s (k:Nat) with
 |none=>exact h
 |some m =>
  obtain ⟨j,ej,p,hm⟩:=Xlu M;obtain rfl:k=j:=by omega
  have C:=StM.OkP.step h hm n;obtain ⟨⟨o,t,e1,e2,e3⟩,N,P,a4,a5,a6,a7⟩:=h.mv k m hm;have Q:=p;simp only
  by_cases I:m.gone+goN m n<m.size
  ·rw [if_pos I];have R:∀ j m',Xs8 s j=some m' → ∃ J,Xs8 {Xtk s m n with mv:=s.mv.set k (some {m with gone:=m.gone+goN m n})} j=some J∧J.pt=m'.pt∧J.ta=m'.ta:=fun j m' p=>by
    by_cases e:j=k
    ·subst e;rw [M] at p;cases p
     refine ⟨{m with gone:=m.gone+goN m n},Xlr ?_,rfl,rfl⟩;show (s.mv.set k _)[k]? = _
     rw [List.getElem?_set_self Q]
    ·exact ⟨m',Xlo (s:=s) rfl e p,rfl,rfl⟩
   refine ⟨h.may,C.rm,h.kl,h.kr,C.bl,C.bi,h.tl,by show (s.mv.set _ _).length=_; rw [List.length_set]; exact h.ml,h.size,h.small,h.large,h.linj,fun j m' p => ?_,fun j n' a p => ?_,(by rintro _ _ ⟨⟩),(by rintro _ _ ⟨⟩)⟩
   ·rcases Xq8 p with ⟨rfl,e,_⟩ | ⟨u,p⟩
    ·have em:=Option.some.inj e;subst em;exact ⟨⟨o,t,e1,e2,e3⟩,N,P,a4,a5,a6,I⟩
    ·exact h.mv j m' p
   ·rcases h.own j n' a p with ⟨f,l,z,D,v | ⟨m',v,E,F⟩⟩ | ⟨_,g⟩
    ·exact .inl ⟨f,l,z,D,.inl v⟩
    ·obtain ⟨J,y,w,x⟩:=R j m' v;exact .inl ⟨f,l,z,D,.inr ⟨J,y,w.trans E,x.trans F⟩⟩
    ·cases g
  ·rw [if_neg I];have L:=Xfd h e2 (by rw [e3]; simp only; omega);obtain ⟨O,s2,K⟩:=h.small o t e2 L;rw [e3] at O K;simp only at O K
   have S:∀ j n' a,XpS (Xtk s m n).rm j n' a=XpS s.rm j n' a:=fun _ _ _=>rfl;obtain ⟨G1,T⟩:=Xhi C.rm (k:=(k:Nat)) (n:=m.pf) (i:=m.fa) (by rw [S,K]; omega);have keep:∀ {j n' a:Int},¬ (j=k∧n'=m.pf∧a=m.fa)→XpS (XpJ (Xtk s m n).rm k m.pf m.fa) j n' a=XpS s.rm j n' a:=fun u=>by rw [T,if_neg u]; rfl
   have U:m.who.toNat=o:=by omega
   have V:=(List.getElem?_eq_some_iff.1 e2).1;have W:Xti s m.who=t.size:=by unfold Xti; rw [e1,XuT e2]
   rw [U,W];have Xvj:∀ {f:Nat} {l:ThM},(s.th.set o (some ⟨t.size,⟨(k:Nat),m.pt,m.ta,[]⟩⟩))[f]? = some (some l)→(f=o∧l=⟨t.size,⟨(k:Nat),m.pt,m.ta,[]⟩⟩)∨(f≠o∧s.th[f]? = some (some l)):=fun h=>by
    rcases Xq8 h with ⟨a,b,_⟩ | hb
    ·exact .inl ⟨a,(Option.some.inj b).symm⟩
    ·exact .inr hb
   have Xu7:∀ {f:Nat} {l:ThM},f≠o→s.th[f]? = some (some l)→(s.th.set o (some ⟨t.size,⟨(k:Nat),m.pt,m.ta,[]⟩⟩))[f]? = some (some l):=fun u h=>by rw [List.getElem?_set_ne (Ne.symm u)]; exact h
   have tnew:(s.th.set o (some ⟨t.size,⟨(k:Nat),m.pt,m.ta,[]⟩⟩))[o]? = some (some ⟨t.size,⟨(k:Nat),m.pt,m.ta,[]⟩⟩):=by rw [List.getElem?_set_self V]
   refine ⟨h.may,C.rm.give _ _ _,h.kl,h.kr,C.bl,C.bi,by show ((s.th.set _ _).length:Int)=_; rw [List.length_set]; exact h.tl,by show (s.mv.set _ _).length=_; rw [List.length_set]; exact h.ml,fun f l q => ?_,fun f l q A => ?_,fun f l q A => ?_,fun f G l t2 q A c1 H hp => ?_,fun j m' p => ?_,fun j n' a p => .inl ?_,(by rintro _ _ ⟨⟩),(by rintro _ _ ⟨⟩)⟩
   ·rcases Xvj q with ⟨rfl,rfl⟩ | ⟨_,q⟩
    ·exact h.size f t e2
    ·exact h.size f l q
   ·rcases Xvj q with ⟨rfl,rfl⟩ | ⟨u,q⟩
    ·refine ⟨O,rfl,?_⟩;refine (keep ?_).trans (N.trans e1);rintro ⟨_,y,w⟩;exact P ⟨y.symm,w.symm⟩
    ·obtain ⟨y,w,x⟩:=h.small f l q A;refine ⟨y,w,(keep ?_).trans x⟩;rintro ⟨d1,d2,d3⟩;rw [d1,d2,d3,K] at x;omega
   ·show ∃ n' r,(n',r) ∈ (XpJ (Xtk s m n).rm k m.pf m.fa).lg∧_
    rw [XpL];rcases Xvj q with ⟨rfl,rfl⟩ | ⟨_,q⟩
    ·exact absurd A L
    ·exact h.large f l q A
   ·rcases Xvj q with ⟨rfl,rfl⟩ | ⟨_,q⟩
    ·exact absurd c1 (by simp only; omega)
    ·rcases Xvj A with ⟨rfl,rfl⟩ | ⟨_,A⟩
     ·exact absurd H (by simp only; omega)
     ·exact h.linj f G l t2 q A c1 H hp
   ·rcases Xq8 p with ⟨_,e,_⟩ | ⟨u,p⟩
    ·cases e
    ·obtain ⟨⟨f,l,y,w,x⟩,H,c3⟩:=h.mv j m' p;have B:f≠o:=fun e=>by
      subst e;rw [e2] at w;cases w
      rw [e3] at x;have:=congrArg PlcM.cls x;simp only at this
      omega
     refine ⟨⟨f,l,y,Xu7 B w,x⟩,(keep ?_).trans H,c3⟩;rintro ⟨d,_⟩;omega
   ·replace p:XpS (XpJ (Xtk s m n).rm k m.pf m.fa) j n' a ≠ -1:=p;have u:¬ (j=k∧n'=m.pf∧a=m.fa):=fun e=>by rw [T,if_pos e] at p; exact p rfl
    show ∃ (f:Nat),∃ l,XpS (XpJ (Xtk s m n).rm k m.pf m.fa) j n' a=f∧_
    rw [keep u] at p ⊢;rcases h.own j n' a p with ⟨f,l,z,D,v | ⟨m',v,E,F⟩⟩ | ⟨_,g⟩
    ·have B:f≠o:=fun e=>by
      subst e;rw [e2] at D;cases D
      rw [e3] at v;exact u ⟨(congrArg PlcM.cls v).symm,(congrArg PlcM.page v).symm,(congrArg PlcM.idx v).symm⟩
     exact ⟨f,l,z,Xu7 B D,.inl v⟩
    ·by_cases ek:j=k
     ·subst ek;rw [M] at v;cases v
      have:(f:Int)=o:=by rw [← z,← E,← F,N,e1]
      obtain rfl:f=o:=by omega
      exact ⟨f,_,z,tnew,.inl (by rw [E,F])⟩
     ·obtain ⟨i,ei,_,hi⟩:=Xlu v;subst ei;obtain ⟨⟨G,t2,y,w,x⟩,H,_⟩:=h.mv i m' hi;have a8:G=f:=by
       have:(G:Int)=f:=by rw [← y,← H,E,F]; exact z
       omega
      subst a8;have B:G≠o:=fun e=>by
       subst e;rw [e2] at w;cases w
       rw [e3] at x;have:=congrArg PlcM.cls x;simp only at this
       omega
      exact ⟨G,l,z,Xu7 B D,.inr ⟨m',Xlo (s:=s) rfl ek v,E,F⟩⟩
    ·cases g
theorem StM.OkP.finish (h:s.Ok c) (k:Int):(Xs0 s k).Ok c:=by
 unfold Xs0;split
 ·exact h
 ·exact StM.OkP.go h _ _
end
section
variable {c:Conf} {s:StM} {pd:Option (Nat × PlcM)}
theorem Xjd {q:Plc} {bs l:List Int} {i:Nat} (hb:InB bs) (hl:InB l):∀ k,InB (Xjc c q bs i l k)
 |0=>hb
 |k+1=>fun x hx=>by
  unfold Xjc at hx;rcases List.mem_or_eq_of_mem_set hx with hx | rfl
  ·exact Xjd hb hl k x hx
  ·rw [List.getD_eq_getElem?_getD];cases hg:l[k]? with
   |none=>exact ⟨Int.le_refl _,by decide⟩
   |some y=>exact hl y (List.mem_of_getElem? hg)
theorem XwV (n:Nat):InB (XwU n):=fun x a=>by
 unfold XwU at a;rw [List.mem_replicate] at a;omega
theorem StM.OkP.put (h:s.OkP c pd) (q:PlcM) (i:Nat) {l:List Int} (hl:InB l):(Xs9 c s q i l).OkP c pd :=
 h.bytes (Xje _ _ _ _ _ _) (Xjd h.bi hl _) _
theorem Xp1 {M:RmM} {who size:Int} (hw:0≤who) (hf:XpA c M size=0) (hp:XnI c.classes size ≠ -1):XpX c M who size=Xqa M (XnI c.classes size) who∧XpZ c M who size=⟨XnI c.classes size,Xqd M (XnI c.classes size) who,Xqb M (XnI c.classes size) who,[]⟩∧XpY c M who size=Xqc M (XnI c.classes size) who:=by
 refine ⟨?_,?_,?_⟩
 ·unfold XpX; rw [if_neg (by omega),if_neg (by omega),if_neg hp]
 ·unfold XpZ; rw [if_neg (by omega),if_neg (by omega),if_neg hp]
 ·unfold XpY; rw [if_neg (by omega),if_neg (by omega),if_neg hp]
theorem Xp0 {M:RmM} {who size:Int} (hw:0≤who) (hf:XpA c M size=0) (hp:XnI c.classes size = -1):XpX c M who size=Xpv M (Xce size c.size).toNat∧XpZ c M who size=⟨-1,(M.pl.free.getD 0 0:Nat),0,Xly (M.pl.free.take (Xce size c.size).toNat).tail⟩:=by
 refine ⟨?_,?_⟩
 ·unfold XpX; rw [if_neg (by omega),if_neg (by omega),if_pos hp]
 ·unfold XpZ; rw [if_neg (by omega),if_neg (by omega),if_pos hp]
theorem Xgs {size:Int} (hf:Xs1 c s size=0):(1≤size∧size≤c.most)∧(XuB c s size=none→XpA c s.rm size=0):=by
 unfold Xs1 at hf;split at hf
 ·exact absurd hf (by decide)
 ·rename_i d
  refine ⟨by omega,fun a => ?_⟩;split at hf
  ·rename_i b
   unfold XuB at a;cases hm:Xs8 s (XnI c.classes size) with
   |none=>rw [hm] at b; cases b
   |some m =>
    rw [hm] at a;simp only at a
    split at a
    ·cases a
    ·rename_i e
     obtain ⟨j,ej,_⟩:=Xlu hm;unfold XpA;rw [if_neg d,if_neg];unfold XpN;rw [if_neg (by omega)];omega
  ·exact hf
theorem Xvj {l:List (Option ThM)} {o o1:Nat} {t t1:ThM} (h:(l.set o (some t))[o1]? = some (some t1)):(o1=o∧t1=t)∨(o1≠o∧l[o1]? = some (some t1)):=by
 rcases Xq8 h with ⟨a,b,_⟩ | hb
 ·exact .inl ⟨a,(Option.some.inj b).symm⟩
 ·exact .inr hb
theorem Xu7 {l:List (Option ThM)} {o o1:Nat} {v:Option ThM} {t1:ThM} (hne:o1≠o) (h:l[o1]? = some (some t1)):(l.set o v)[o1]? = some (some t1):=by rw [List.getElem?_set_ne (Ne.symm hne)]; exact h
theorem StM.OkP.over (h:s.OkP c pd) {o k:Nat} {size:Int} {m:MvM} (ho:s.th[o]? = some none) (hs:1≤size∧size≤c.most) (hk:XnI c.classes size=(k:Nat)) (hm:s.mv[k]? = some (some m)) (hpd:∀ o' q,pd=some (o',q)→o'=o) :
 StM.OkP c {s with mv:=s.mv.set k none,rm:=XpP s.rm k m.pt m.ta o,th:=s.th.set o (some ⟨size,⟨(k:Nat),m.pt,m.ta,[]⟩⟩)} pd:=by
 have M:=(List.getElem?_eq_some_iff.1 ho).1;obtain ⟨⟨D,U,e1,e2,e3⟩,N,V,_⟩:=h.mv k m hm;have a8:D≠o:=fun e=>by subst e; rw [ho] at e2; cases e2
 obtain ⟨W1,E⟩:=Xmz h.rm (k:=(k:Nat)) (n:=m.pt) (i:=m.ta) (who:=(o:Nat)) (by omega) (by rw [N,e1]; omega);have keep:∀ {j n a:Int},¬ (j=k∧n=m.pt∧a=m.ta)→XpS (XpP s.rm k m.pt m.ta o) j n a=XpS s.rm j n a:=fun v=>by rw [E,if_neg v]
 have W:=h.small D U e2 (Xfd h e2 (by rw [e3]; simp only; omega));have other:∀ {l:Nat} {b:ThM},s.th[l]? = some (some b)→XpS s.rm b.q.cls b.q.page b.q.idx=l→b.q.pages = [] → ¬ (b.q.cls=k∧b.q.page=m.pt∧b.q.idx=m.ta):=fun {l b} f p z=>by
  rintro ⟨d1,F,G⟩;rw [d1,F,G,N,e1] at p;obtain rfl:D=l:=by omega
  rw [e2] at f;cases f
  rw [e3] at F G;exact V ⟨F,G⟩
 have O:∀ {j:Int} {m':MvM},Xs8 {s with mv:=s.mv.set k none,rm:=XpP s.rm k m.pt m.ta o,th:=s.th.set o (some ⟨size,⟨(k:Nat),m.pt,m.ta,[]⟩⟩)} j=some m'→j≠k∧Xs8 s j=some m':=fun hj=>by
  rcases Xlt (s:=s) rfl hj with ⟨_,e⟩ | hj
  ·cases e
  ·exact hj
 refine ⟨h.may,h.rm.own _ _ _ _,h.kl,h.kr,h.bl,h.bi,by show ((s.th.set _ _).length:Int)=_; rw [List.length_set]; exact h.tl,by show (s.mv.set _ _).length=_; rw [List.length_set]; exact h.ml,fun l b f => ?_,fun l b f p => ?_,fun l b f p => ?_,fun l o3 b t3 f z w A hp => ?_,fun j m' hj => ?_,fun j n a hj => ?_,fun o' q H I => ?_,fun o' q H I => ?_⟩
 ·rcases Xvj f with ⟨rfl,rfl⟩ | ⟨_,f⟩
  ·exact hs
  ·exact h.size l b f
 ·rcases Xvj f with ⟨rfl,rfl⟩ | ⟨v,f⟩
  ·refine ⟨hk.symm,rfl,?_⟩;show XpS (XpP s.rm k m.pt m.ta l) k m.pt m.ta=l
   rw [E,if_pos ⟨rfl,rfl,rfl⟩]
  ·obtain ⟨J,t,B⟩:=h.small l b f p;exact ⟨J,t,(keep (other f B t)).trans B⟩
 ·show ∃ n' r,(n',r) ∈ (XpP s.rm k m.pt m.ta o).lg∧_
  rw [XpR];rcases Xvj f with ⟨rfl,rfl⟩ | ⟨_,f⟩
  ·rw [hk] at p; omega
  ·exact h.large l b f p
 ·rcases Xvj f with ⟨rfl,rfl⟩ | ⟨_,f⟩
  ·exact absurd w (by simp only; omega)
  ·rcases Xvj z with ⟨rfl,rfl⟩ | ⟨_,z⟩
   ·exact absurd A (by simp only; omega)
   ·exact h.linj l o3 b t3 f z w A hp
 ·rcases Xq8 hj with ⟨_,e,_⟩ | ⟨v,hj⟩
  ·cases e
  ·obtain ⟨⟨l,b,J,t,B⟩,c2,A⟩:=h.mv j m' hj;exact ⟨⟨l,b,J,Xu7 (fun e=>by subst e; rw [ho] at t; cases t) t,B⟩,(keep (fun d=>by have:=d.1; omega)).trans c2,A⟩
 ·replace hj:XpS (XpP s.rm k m.pt m.ta o) j n a ≠ -1:=hj;show (∃ (l:Nat),∃ b,XpS (XpP s.rm k m.pt m.ta o) j n a=l∧_)∨_
  by_cases e:j=k∧n=m.pt∧a=m.ta
  ·obtain ⟨rfl,rfl,rfl⟩:=e;exact .inl ⟨o,_,by rw [E,if_pos ⟨rfl,rfl,rfl⟩],List.getElem?_set_self M,.inl rfl⟩
  ·rw [keep e] at hj ⊢;rcases h.own j n a hj with ⟨l,b,P,u,x | ⟨m',x,Q,R⟩⟩ | g
   ·exact .inl ⟨l,b,P,Xu7 (fun e=>by subst e; rw [ho] at u; cases u) u,.inl x⟩
   ·have S:j≠k:=fun e2=>by
     subst e2;rw [Xlr hm] at x;cases x
     exact e ⟨rfl,Q.symm,R.symm⟩
    exact .inl ⟨l,b,P,Xu7 (fun e=>by subst e; rw [ho] at u; cases u) u,.inr ⟨m',Xlo (s:=s) rfl S x,Q,R⟩⟩
   ·exact .inr g
 ·obtain ⟨K,L,C,p4⟩:=h.ps o' q H I;have y:¬ (q.cls=k∧q.page=m.pt∧q.idx=m.ta):=fun e=>by
   refine C m ?_ ⟨e.2.1.symm,e.2.2.symm⟩;rw [e.1]; exact Xlr hm
  refine ⟨K,(keep y).trans L,fun m' T=>C m' (O T).2,fun l b f => ?_⟩;rcases Xvj f with ⟨rfl,rfl⟩ | ⟨_,f⟩
  ·intro e;rw [← e] at y;exact y ⟨rfl,rfl,rfl⟩
  ·exact p4 l b f
 ·obtain ⟨n,r,K,L,C⟩:=h.pl o' q H I;refine ⟨n,r,by show (n,r) ∈ (XpP s.rm k m.pt m.ta o).lg; rw [XpR]; exact K,L,fun l b f w => ?_⟩;rcases Xvj f with ⟨rfl,rfl⟩ | ⟨_,f⟩
  ·exact absurd w (by simp only; omega)
  ·exact C l b f w
theorem StM.OkP.block (h:s.OkP c pd) {o k:Nat} {size:Int} (ho:s.th[o]? = some none) (hs:1≤size∧size≤c.most) (hk:XnI c.classes size=(k:Nat)) (hE:Xqc s.rm k o=0) :
 StM.OkP c {s with rm:=Xqa s.rm k o,th:=s.th.set o (some ⟨size,⟨(k:Nat),Xqd s.rm k o,Xqb s.rm k o,[]⟩⟩)} pd:=by
 have F:=(List.getElem?_eq_some_iff.1 ho).1;obtain ⟨t,G⟩:=Xuz h.rm hE;have keep:∀ {j n a:Int},XpS s.rm j n a ≠ -1→XpS (Xqa s.rm k o) j n a=XpS s.rm j n a:=fun y=>by
  rw [t,if_neg];rintro ⟨rfl,rfl,rfl⟩;exact y G
 refine ⟨h.may,h.rm.take _ _,h.kl,h.kr,h.bl,h.bi,by show ((s.th.set _ _).length:Int)=_; rw [List.length_set]; exact h.tl,h.ml,fun d f b => ?_,fun d f b u => ?_,fun d f b u => ?_,fun d I f J b z m v K => ?_,fun j m' l => ?_,fun j n a l => ?_,fun o' q A B => ?_,fun o' q A B => ?_⟩
 ·rcases Xvj b with ⟨rfl,rfl⟩ | ⟨_,b⟩
  ·exact hs
  ·exact h.size d f b
 ·rcases Xvj b with ⟨rfl,rfl⟩ | ⟨y,b⟩
  ·refine ⟨hk.symm,rfl,?_⟩;show XpS (Xqa s.rm k d) k _ _=d
   rw [t,if_pos ⟨rfl,rfl,rfl⟩]
  ·obtain ⟨w,p,x⟩:=h.small d f b u;exact ⟨w,p,(keep (by rw [x]; omega)).trans x⟩
 ·show ∃ n' r,(n',r) ∈ (Xqa s.rm k o).lg∧_
  rw [Xqf];rcases Xvj b with ⟨rfl,rfl⟩ | ⟨_,b⟩
  ·rw [hk] at u; omega
  ·exact h.large d f b u
 ·rcases Xvj b with ⟨rfl,rfl⟩ | ⟨_,b⟩
  ·exact absurd m (by simp only; omega)
  ·rcases Xvj z with ⟨rfl,rfl⟩ | ⟨_,z⟩
   ·exact absurd v (by simp only; omega)
   ·exact h.linj d I f J b z m v K
 ·obtain ⟨⟨d,f,w,p,x⟩,H,v⟩:=h.mv j m' l;exact ⟨⟨d,f,w,Xu7 (fun e=>by subst e; rw [ho] at p; cases p) p,x⟩,(keep (by rw [H,w]; omega)).trans H,v⟩
 ·replace l:XpS (Xqa s.rm k o) j n a ≠ -1:=l;show (∃ (d:Nat),∃ f,XpS (Xqa s.rm k o) j n a=d∧_)∨_
  by_cases e:j=k∧n=Xqd s.rm k o∧a=Xqb s.rm k o
  ·obtain ⟨rfl,rfl,rfl⟩:=e;exact .inl ⟨o,_,by rw [t,if_pos ⟨rfl,rfl,rfl⟩],List.getElem?_set_self F,.inl rfl⟩
  ·have e1:XpS (Xqa s.rm k o) j n a=XpS s.rm j n a:=by rw [t,if_neg e]
   rw [e1] at l ⊢;rcases h.own j n a l with ⟨d,f,L,C,M⟩ | g
   ·exact .inl ⟨d,f,L,Xu7 (fun e=>by subst e; rw [ho] at C; cases C) C,M⟩
   ·exact .inr g
 ·obtain ⟨D,i,E,N⟩:=h.ps o' q A B;refine ⟨D,(keep (by rw [i]; omega)).trans i,E,fun d f b => ?_⟩;rcases Xvj b with ⟨rfl,rfl⟩ | ⟨_,b⟩
  ·intro e;rw [← e] at i;simp only at i
   rw [G] at i;omega
  ·exact N d f b
 ·obtain ⟨n,r,D,i,E⟩:=h.pl o' q A B;refine ⟨n,r,by show (n,r) ∈ (Xqa s.rm k o).lg; rw [Xqf]; exact D,i,fun d f b m => ?_⟩;rcases Xvj b with ⟨rfl,rfl⟩ | ⟨_,b⟩
  ·exact absurd m (by simp only; omega)
  ·exact E d f b m
theorem StM.OkP.pages (h:s.OkP c pd) {o:Nat} {size:Int} (ho:s.th[o]? = some none) (hs:1≤size∧size≤c.most) (hf:XpA c s.rm size=0) (hp:XnI c.classes size = -1) :
 StM.OkP c {s with rm:=Xpv s.rm (Xce size c.size).toNat,th:=s.th.set o (some ⟨size,⟨-1,(s.rm.pl.free.getD 0 0:Nat),0,Xly (s.rm.pl.free.take (Xce size c.size).toNat).tail⟩⟩)} pd:=by
 have V:=(List.getElem?_eq_some_iff.1 ho).1;obtain ⟨f1,f2,_,_⟩:=Xgq h.may hf hp;obtain ⟨many,B⟩:∃ many,many=(Xce size c.size).toNat:=⟨_,rfl⟩;have M:Xce size c.size=many:=by omega
 rw [← B] at f1 f2 ⊢;obtain ⟨m,u⟩:∃ m,m=s.rm.pl.free.getD 0 0:=⟨_,rfl⟩;obtain ⟨t,v⟩:∃ t,t=(s.rm.pl.free.take many).tail:=⟨_,rfl⟩;have F:m ∈ s.rm.pl.free:=by
  rw [u,List.getD_eq_getElem?_getD,List.getElem?_eq_getElem (show 0<s.rm.pl.free.length by omega)];exact List.getElem_mem _
 have i:∀ {n:Nat} {r:List Nat},(n,r) ∈ s.rm.lg→n≠m:=fun {n r} hm e=>by
  subst e;have b:=(h.rm.ok.lg n (XkP hm (List.mem_cons_self ..))).2;have w:=(h.rm.mok.good.free _ F).2;omega
 have D:(Xpv s.rm many).lg=s.rm.lg ++ [(m,t)]:=by rw [u,v]; rfl
 have N:t.length+1=many:=by rw [v,List.length_tail,List.length_take]; omega
 rw [← u,← v];refine ⟨h.may,h.rm.big (by omega) f2,h.kl,h.kr,h.bl,h.bi,by show ((s.th.set _ _).length:Int)=_; rw [List.length_set]; exact h.tl,h.ml,fun f d b => ?_,fun f d b w => ?_,fun f d b w => ?_,fun f O d P b K x L k => ?_,fun j m' y => ?_,fun j n a y => ?_,fun o' q G z => ?_,fun o' q G z => ?_⟩
 ·rcases Xvj b with ⟨rfl,rfl⟩ | ⟨_,b⟩
  ·exact hs
  ·exact h.size f d b
 ·rcases Xvj b with ⟨rfl,rfl⟩ | ⟨E,b⟩
  ·exact absurd hp w
  ·exact h.small f d b w
 ·show ∃ n' r,(n',r) ∈ (Xpv s.rm many).lg∧_
  rw [D];rcases Xvj b with ⟨rfl,rfl⟩ | ⟨_,b⟩
  ·exact ⟨m,t,by simp,rfl,by show ((t.length:Int)+1)=Xce size c.size; omega⟩
  ·obtain ⟨n',r,l,p⟩:=h.large f d b w;exact ⟨n',r,List.mem_append_left _ l,p⟩
 ·have page:∀ {f:Nat} {d:ThM},s.th[f]? = some (some d)→d.q.cls = -1→d.q.page≠(m:Int):=fun {f d} b x=>by
   have Q:=Decidable.byContradiction fun E=>by
    have:=(h.small f d b E).1;omega
   obtain ⟨n',r,l,p,_⟩:=h.large f d b Q;have:=i l;rw [p];simp only
   omega
  rcases Xvj b with ⟨e1,e2⟩ | ⟨_,l⟩
  ·rcases Xvj K with ⟨e3,_⟩ | ⟨_,A⟩
   ·exact e1.trans e3.symm
   ·rw [e2] at k;exact absurd k.symm (page A L)
  ·rcases Xvj K with ⟨e3,e4⟩ | ⟨_,A⟩
   ·rw [e4] at k;exact absurd k (page l x)
   ·exact h.linj f O d P l A x L k
 ·obtain ⟨⟨f,d,R,H,S⟩,T⟩:=h.mv j m' y;exact ⟨⟨f,d,R,Xu7 (fun e=>by subst e; rw [ho] at H; cases H) H,S⟩,T⟩
 ·replace y:XpS s.rm j n a ≠ -1:=y;rcases h.own j n a y with ⟨f,d,l,p,A⟩ | g
  ·exact .inl ⟨f,d,l,Xu7 (fun e=>by subst e; rw [ho] at p; cases p) p,A⟩
  ·exact .inr g
 ·obtain ⟨C,I,J,U⟩:=h.ps o' q G z;refine ⟨C,I,J,fun f d b => ?_⟩;rcases Xvj b with ⟨rfl,rfl⟩ | ⟨_,b⟩
  ·intro e;rw [← e] at z;exact z rfl
  ·exact U f d b
 ·obtain ⟨n,r,C,I,J⟩:=h.pl o' q G z;refine ⟨n,r,by show (n,r) ∈ (Xpv s.rm many).lg; rw [D]; exact List.mem_append_left _ C,I,fun f d b x => ?_⟩;rcases Xvj b with ⟨rfl,rfl⟩ | ⟨_,b⟩
  ·have:=i C;simp only
   omega
  ·exact J f d b x
theorem StM.OkP.lay (h:s.OkP c pd) {o:Nat} {size:Int} (ho:s.th[o]? = some none) (hf:Xs1 c s size=0) (hpd:∀ o' q,pd=some (o',q)→o'=o):(Xs6 c s o size).OkP c pd:=by
 obtain ⟨f,g⟩:=Xgs hf;have base:StM.OkP c {Xjh c s o size with th:=s.th.set o (some ⟨size,Xjg c s o size⟩)} pd:=by
  cases ht:XuB c s size with
  |some m =>
   have e1:Xjh c s o size=XeQ {s with mv:=s.mv.set (XnI c.classes size).toNat none,rm:=XpP s.rm (XnI c.classes size) m.pt m.ta o} 3:=by unfold Xjh; rw [ht]
   have e2:Xjg c s o size=⟨XnI c.classes size,m.pt,m.ta,[]⟩:=by unfold Xjg; rw [ht]
   unfold XuB at ht;cases hm:Xs8 s (XnI c.classes size) with
   |none=>rw [hm] at ht; cases ht
   |some m' =>
    rw [hm] at ht;simp only at ht
    split at ht
    ·cases ht
     obtain ⟨k,b,_,n⟩:=Xlu hm;rw [e1,e2,b,Int.toNat_natCast];exact (h.over ho f b n hpd).tot 3
    ·cases ht
  |none =>
   have e1:Xjh c s o size={s with rm:=XpX c s.rm o size}:=by unfold Xjh; rw [ht]
   have e2:Xjg c s o size=XpZ c s.rm o size:=by unfold Xjg; rw [ht]
   have a:=g ht;rw [e1,e2];by_cases d:XnI c.classes size = -1
   ·obtain ⟨i,j⟩:=Xp0 (c:=c) (who:=(o:Nat)) (by omega) a d;rw [i,j];exact h.pages ho f a d
   ·obtain ⟨i,j,p⟩:=Xp1 (c:=c) (who:=(o:Nat)) (by omega) a d;have l:=Xgu (who:=(o:Nat)) h.rm.ok (by omega) a;rw [p] at l;obtain ⟨r,t⟩:=XnK d;obtain ⟨k,b⟩:=Int.eq_ofNat_of_zero_le r;rw [i,j];rw [b] at l ⊢;exact h.block ho f b l
 have e:Xs6 c s o size=Xs9 c {Xjh c s o size with th:=s.th.set o (some ⟨size,Xjg c s o size⟩)} (Xjg c s o size) 0 (XwU (XvB c (Xjg c s o size).plc).toNat):=by
  unfold Xs6 Xs9 XeQ;rw [Int.toNat_natCast]
 rw [e];exact base.put _ _ (XwV _)
theorem Xpz {M:RmM} {q:PlcM} (h:q.cls ≠ -1):Xpw M q=XpJ M q.cls q.page q.idx:=by unfold Xpw; rw [if_pos h]
theorem Xpy {M:RmM} (hok:M.Ok c) {n:Nat} {r:List Nat} (hm:(n,r) ∈ M.lg):Xpw M ⟨-1,(n:Nat),0,Xly r⟩=XpM M n r:=by
 have a:Xjw M.lg ((n:Nat):Int)=some r:=by
  cases b:Xjw M.lg ((n:Nat):Int) with
  |none=>exact absurd rfl (Xjy b _ hm)
  |some r' =>
   obtain ⟨k,e,d⟩:=Xjz b;have:k=n:=by omega
   subst this;rw [XiY hok.nd d hm]
 unfold Xpw;rw [if_neg (by simp)];simp only
 rw [a]
 simp
theorem StM.OkP.dropped {o:Nat} {q:PlcM} (h:s.OkP c (some (o,q))):StM.Ok c {s with rm:=Xpw s.rm q}:=by
 by_cases p:q.cls = -1
 ·obtain ⟨n,r,u,v,w⟩:=h.pl o q rfl p;rw [v,Xpy h.rm.ok u];refine ⟨h.may,h.rm.gone u,h.kl,h.kr,h.bl,h.bi,h.tl,h.ml,h.size,h.small,fun d f l t => ?_,h.linj,h.mv,fun j n' a b => .inl ?_,(by rintro _ _ ⟨⟩),(by rintro _ _ ⟨⟩)⟩
  ·obtain ⟨n',r',H,x,I⟩:=h.large d f l t;refine ⟨n',r',?_,x,I⟩;show (n',r') ∈ Xjt s.rm.lg n
   unfold Xjt;refine List.mem_filter.2 ⟨H,?_⟩;have:=w d f l (by rw [x]);rw [x] at this;simp only at this
   simp only [bne_iff_ne,ne_eq];omega
  ·replace b:XpS s.rm j n' a ≠ -1:=b;rcases h.own j n' a b with g | ⟨o',g⟩
   ·exact g
   ·have e:=(Prod.mk.inj (Option.some.inj g)).2;have B:j = -1:=by rw [e] at p; exact p
    exact absurd (by rw [B]; unfold XpS; rw [XpE (by omega)]) b
 ·obtain ⟨u,v,w,J⟩:=h.ps o q rfl p;rw [Xpz p];obtain ⟨M,C⟩:=Xhi h.rm (k:=q.cls) (n:=q.page) (i:=q.idx) (by rw [v]; omega);have keep:∀ {j n' a:Int},¬ (j=q.cls∧n'=q.page∧a=q.idx)→XpS (XpJ s.rm q.cls q.page q.idx) j n' a=XpS s.rm j n' a:=fun m=>by rw [C,if_neg m]
  refine ⟨h.may,h.rm.give _ _ _,h.kl,h.kr,h.bl,h.bi,h.tl,h.ml,h.size,fun d f l t => ?_,fun d f l t => ?_,h.linj,fun j m' b => ?_,fun j n' a b => .inl ?_,(by rintro _ _ ⟨⟩),(by rintro _ _ ⟨⟩)⟩
  ·obtain ⟨K,D,L⟩:=h.small d f l t;refine ⟨K,D,(keep ?_).trans L⟩;rintro ⟨y,z,A⟩;refine J d f l ?_;obtain ⟨sz,E,F,G,N⟩:=f;obtain ⟨O,P,Q,R⟩:=q;simp only at *
   rw [y,z,A,D,u]
  ·show ∃ n' r,(n',r) ∈ (XpJ s.rm q.cls q.page q.idx).lg∧_
   rw [XpL];exact h.large d f l t
  ·obtain ⟨E,F,G⟩:=h.mv j m' b;refine ⟨E,(keep ?_).trans F,G⟩;rintro ⟨y,z,A⟩;exact w m' (by rw [← y]; exact Xlr b) ⟨z,A⟩
  ·replace b:XpS (XpJ s.rm q.cls q.page q.idx) j n' a ≠ -1:=b;have m:¬ (j=q.cls∧n'=q.page∧a=q.idx):=fun e=>by rw [C,if_pos e] at b; exact b rfl
   show ∃ (d:Nat),∃ f,XpS (XpJ s.rm q.cls q.page q.idx) j n' a=d∧_
   rw [keep m] at b ⊢;rcases h.own j n' a b with g | ⟨o',g⟩
   ·exact g
   ·have e:=(Prod.mk.inj (Option.some.inj g)).2;exact absurd ⟨by rw [e],by rw [e],by rw [e]⟩ m
theorem StM.OkP.clear {o:Nat} {q:PlcM} (h:s.OkP c (some (o,q))):(XsZ c s q).Ok c:=by
 unfold XsZ;split
 ·exact h.dropped
 ·exact StM.OkP.go (StM.OkP.begin h.dropped _) _ _
theorem StM.OkP.away (h:s.Ok c) {o:Nat} {t:ThM} (ht:s.th[o]? = some (some t)) (hm:∀ (k:Nat) (m:MvM),s.mv[k]? = some (some m)→m.who≠(o:Nat)):StM.OkP c {s with th:=s.th.set o none} (some (o,t.q)):=by
 have f:∀ {b:Nat} {d:ThM},(s.th.set o none)[b]? = some (some d)→b≠o∧s.th[b]? = some (some d):=fun h1=>by
  rcases Xq8 h1 with ⟨_,e,_⟩ | h1
  ·cases e
  ·exact h1
 have p:∀ {k:Nat} {m:MvM},s.mv[k]? = some (some m) → ∀ {b:Nat},m.who=(b:Nat)→b≠o:=fun C b e1 e=>hm _ _ C (by rw [e1,e]);refine ⟨h.may,h.rm,h.kl,h.kr,h.bl,h.bi,by show ((s.th.set _ _).length:Int)=_; rw [List.length_set]; exact h.tl,h.ml,fun b d h1=>h.size b d (f h1).2,fun b d h1=>h.small b d (f h1).2,fun b d h1=>h.large b d (f h1).2,fun b D d F h1 L=>h.linj b D d F (f h1).2 (f L).2,fun k m C => ?_,fun j n a M => ?_,fun o' q G w => ?_,fun o' q G w => ?_⟩
 ·obtain ⟨⟨b,d,v,H,x⟩,y⟩:=h.mv k m C;exact ⟨⟨b,d,v,Xu7 (p C v) H,x⟩,y⟩
 ·rcases h.own j n a M with ⟨b,d,z,u,A | ⟨m,A,I,J⟩⟩ | ⟨_,g⟩
  ·by_cases e:b=o
   ·subst e;rw [ht] at u;cases u
    exact .inr ⟨b,by rw [A]⟩
   ·exact .inl ⟨b,d,z,Xu7 e u,.inl A⟩
  ·obtain ⟨i,ei,_,B⟩:=Xlu A;subst ei;obtain ⟨⟨D,F,v,_⟩,y,_⟩:=h.mv i m B;have:(D:Int)=b:=by rw [← v,← y,I,J]; exact z
   have l:=p B v;exact .inl ⟨b,d,z,Xu7 (by omega) u,.inr ⟨m,A,I,J⟩⟩
  ·cases g
 ·obtain ⟨e1,e2⟩:=Prod.mk.inj (Option.some.inj G);subst e1;subst e2;obtain ⟨v,H,x⟩:=h.small o t ht (Xfd h ht w);refine ⟨H,x,fun m K => ?_,fun b d h1 e => ?_⟩
  ·obtain ⟨i,ei,_,B⟩:=Xlu K;rintro ⟨N,O⟩;obtain ⟨⟨D,F,E,_⟩,y,_⟩:=h.mv i m B;rw [N,O,← ei,x,E] at y;exact p B E (by omega)
  ·obtain ⟨l,h1⟩:=f h1;obtain ⟨_,_,P⟩:=h.small b d h1 (Xfd h h1 (by rw [e]; exact w));rw [e,x] at P;omega
 ·obtain ⟨e1,e2⟩:=Prod.mk.inj (Option.some.inj G);subst e1;subst e2;have Q:=Decidable.byContradiction fun l=>by
   have h1:=(h.small o t ht l).1;rw [w] at h1;exact l h1.symm
  obtain ⟨n,r,z,u,_⟩:=h.large o t ht Q;refine ⟨n,r,z,u,fun b d h1 E e => ?_⟩;obtain ⟨l,h1⟩:=f h1;exact l (h.linj b o d t h1 ht E w (by rw [e,u]))
end
section
variable {c:Conf} {s:StM} {pd:Option (Nat × PlcM)}
theorem Xdi (c:Conf) (s:StM) (k:Nat):(XsV c s k).th=s.th∧(XsV c s k).keep=s.keep∧(XsV c s k).bs=s.bs∧(XsV c s k).mv.length=s.mv.length:=by
 unfold XsV;split
 ·exact ⟨rfl,rfl,rfl,List.length_set⟩
 ·exact ⟨rfl,rfl,rfl,rfl⟩
theorem Xhn (s:StM) (k:Nat) (n:Int):(Xs3 s k n).keep=s.keep∧(Xs3 s k n).th.length=s.th.length∧(Xs3 s k n).mv.length=s.mv.length∧(Xs3 s k n).rm.lg=s.rm.lg:=by
 unfold Xs3;split
 ·exact ⟨rfl,rfl,rfl,rfl⟩
 ·split
  ·exact ⟨rfl,rfl,List.length_set,rfl⟩
  ·exact ⟨rfl,List.length_set,List.length_set,XpL _ _ _ _⟩
theorem Xho (h:s.Ok c) (k:Nat) (n:Int):(∀ (o:Nat) t,s.th[o]? = some (some t) → ∃ t',(Xs3 s k n).th[o]? = some (some t')∧t'.size=t.size∧t'.q.cls=t.q.cls∧t'.q.pages=t.q.pages∧(t.q.cls≠(k:Nat)→t'=t))∧(∀ o:Nat,s.th[o]? = some none→(Xs3 s k n).th[o]? = some none) ∧ ∀ j:Int,j≠k→Xs8 (Xs3 s k n) j=Xs8 s j:=by
 unfold Xs3;cases p:Xs8 s (k:Nat) with
 |none=>exact ⟨fun o t ht=>⟨t,ht,rfl,rfl,rfl,fun _=>rfl⟩,fun _ h=>h,fun _ _=>rfl⟩
 |some m =>
  obtain ⟨j,ej,r,hm⟩:=Xlu p;obtain rfl:k=j:=by omega
  have d:∀ {s':StM} {v:Option MvM},s'.mv=s.mv.set k v → ∀ j:Int,j≠k→Xs8 s' j=Xs8 s j:=fun {s' v} e j f=>by
   unfold Xs8;split
   ·rename_i u
    rw [e,List.getD_eq_getElem?_getD,List.getD_eq_getElem?_getD,List.getElem?_set_ne (by omega)]
   ·rfl
  simp only
  split
  ·exact ⟨fun o t ht=>⟨t,ht,rfl,rfl,rfl,fun _=>rfl⟩,fun _ h=>h,d rfl⟩
  ·obtain ⟨⟨o,t,e1,e2,e3⟩,_⟩:=h.mv k m hm;have i:=(List.getElem?_eq_some_iff.1 e2).1;have l:Xti s m.who=t.size:=by unfold Xti; rw [e1,XuT e2]
   have g:m.who.toNat=o:=by omega
   refine ⟨fun b q a => ?_,fun b a => ?_,d rfl⟩
   ·show ∃ t',(s.th.set m.who.toNat _)[b]? = _∧_
    rw [g,l];by_cases e:b=o
    ·subst e;rw [e2] at a;cases a
     exact ⟨_,List.getElem?_set_self i,rfl,by rw [e3],by rw [e3],fun f=>absurd (by rw [e3]) f⟩
    ·exact ⟨q,Xu7 e a,rfl,rfl,rfl,fun _=>rfl⟩
   ·show (s.th.set m.who.toNat _)[b]? = _
    rw [g,List.getElem?_set_ne (fun e=>by subst e; rw [e2] at a; cases a)];exact a
theorem Xhm (h:s.Ok c) {k:Nat} {m:MvM} (hm:s.mv[k]? = some (some m)) {n:Int} (hn:(m.size - m.gone:Nat)≤n):Xs8 (Xs3 s k n) (k:Nat)=none:=by
 have a:=(List.getElem?_eq_some_iff.1 hm).1;have b:=(h.mv k m hm).2.2.2.2.2.2;unfold Xs3;rw [Xlr hm];simp only
 have d:goN m n=m.size - m.gone:=by unfold goN Xtv; omega
 rw [if_neg (by omega)];unfold Xs8;rw [if_pos (by omega)];show ((s.mv.set k none).getD _ none)=none
 rw [Int.toNat_natCast,List.getD_eq_getElem?_getD,List.getElem?_set_self a]; rfl
structure Xat (c:Conf) (s s':StM) (κ:Int):Prop where
 ok:s'.Ok c
 mv:Xs8 s' κ=none
 other:∀ j:Int,j≠κ→Xs8 s' j=Xs8 s j
 th:∀ (o:Nat) t,s.th[o]? = some (some t) → ∃ t',s'.th[o]? = some (some t')∧t'.size=t.size∧t'.q.cls=t.q.cls∧t'.q.pages=t.q.pages∧(t.q.cls≠κ→t'=t)
 no:∀ o:Nat,s.th[o]? = some none→s'.th[o]? = some none
 keep:s'.keep=s.keep∧s'.th.length=s.th.length∧s'.mv.length=s.mv.length∧s'.rm.lg=s.rm.lg
theorem Xgk (h:s.Ok c) (κ:Int):Xat c s (Xs0 s κ) κ:=by
 have a:=h.finish κ;unfold Xs0 at a ⊢;cases hm:Xs8 s κ with
 |none=>exact ⟨h,hm,fun _ _=>rfl,fun o t ht=>⟨t,ht,rfl,rfl,rfl,fun _=>rfl⟩,fun _ h=>h,rfl,rfl,rfl,rfl⟩
 |some m =>
  rw [hm] at a;obtain ⟨k,rfl,g,b⟩:=Xlu hm;simp only [Int.toNat_natCast] at a ⊢;obtain ⟨d,e,f⟩:=Xho h k (m.size:Nat);exact ⟨a,Xhm h b (by omega),f,d,e,Xhn s k _⟩
theorem Xta {o:Nat} {t:ThM} (h:s.th[o]? = some (some t)):stQ s (o:Nat)=t.q:=by unfold stQ; rw [XuT h]
theorem Xtj {o:Nat} {t:ThM} (h:s.th[o]? = some (some t)):Xti s (o:Nat)=t.size:=by unfold Xti; rw [XuT h]
theorem Xgl (h:s.Ok c) {o:Nat} {t:ThM} (ht:s.th[o]? = some (some t)):∃ t',(Xs0 s t.q.cls).th[o]? = some (some t')∧t'.size=t.size∧t'.q.cls=t.q.cls∧t'.q.pages=t.q.pages∧(∀ (k:Nat) (m:MvM),(Xs0 s t.q.cls).mv[k]? = some (some m)→m.who≠(o:Nat)):=by
 have F:=Xgk h t.q.cls;obtain ⟨t',b,f,a,g,_⟩:=F.th o t ht;refine ⟨t',b,f,a,g,fun k m hm e => ?_⟩;obtain ⟨⟨i,l,n,d,j⟩,_⟩:=F.ok.mv k m hm;obtain rfl:i=o:=by omega
 rw [b] at d;cases d
 have:Xs8 (Xs0 s t.q.cls) (k:Nat)=some m:=Xlr hm;rw [j] at a;simp only at a
 rw [a,F.mv] at this;cases this
theorem XmD {o:Int} (h:XmC s o=0):∃ (j:Nat),∃ t,o=j∧s.th[j]? = some (some t):=by
 unfold XmC at h;split at h
 ·exact absurd h (by decide)
 ·cases ht:Xtl s o with
  |none=>rw [ht] at h; exact absurd (show (9:Int)=0 from h) (by decide)
  |some t =>
   obtain ⟨j,e,_,a⟩:=XuU ht;exact ⟨j,t,e,a⟩
theorem XmE {o:Int} (h1:XmC s o≠1) (h0:XmC s o≠0):∃ j:Nat,o=j∧j<s.th.length∧s.th[j]? = some none:=by
 unfold XmC at h1 h0;split at h1
 ·exact absurd rfl h1
 ·rename_i c
  rw [if_neg c] at h0;obtain ⟨j,rfl⟩:=Int.eq_ofNat_of_zero_le (show 0≤o by omega);have a:j<s.th.length:=by omega
  refine ⟨j,rfl,a,?_⟩;cases b:s.th[j] with
  |none=>rw [List.getElem?_eq_getElem a,b]
  |some t =>
   have:Xtl s (j:Nat)=some t:=XuT (by rw [List.getElem?_eq_getElem a,b]);rw [this] at h0;exact absurd rfl h0
theorem Xci {o size:Int} (h:XsU c s o size=0):∃ j:Nat,o=j∧j<s.th.length∧s.th[j]? = some none∧Xs1 c s size=0:=by
 unfold XsU at h;split at h
 ·exact absurd h (by decide)
 ·rename_i e
  split at h
  ·exact absurd h (by decide)
  ·rename_i f
   obtain ⟨j,a,b,d⟩:=XmE e f;exact ⟨j,a,b,d,h⟩
theorem StM.OkP.alloc (h:s.Ok c) (o size:Int):(XsT c s o size).Ok c:=by
 unfold XsT;split
 ·rename_i a
  obtain ⟨j,rfl,_,b,hf⟩:=Xci a;exact StM.OkP.lay h b hf (by rintro _ _ ⟨⟩)
 ·exact h
theorem StM.OkP.free (h:s.Ok c) (o:Int):(Xs2 c s o).Ok c:=by
 unfold Xs2;split
 ·exact h
 ·rename_i b
  obtain ⟨j,t,rfl,ht⟩:=XmD (Decidable.not_not.1 b);rw [Xta ht];obtain ⟨t',a,_,_,_,d⟩:=Xgl h ht;rw [Xta a,Int.toNat_natCast];exact ((Xgk h t.q.cls).ok.away a d).clear
theorem StM.OkP.wrote (h:s.OkP c pd) (o:Int) (i n:Nat) (hi:∀ m,Xs8 s (stQ s o).cls=some m→i+n≤m.size):(Xto s o i n).OkP c pd:=by
 unfold Xto;split
 ·rename_i m hm
  split
  ·obtain ⟨k,_,_,a⟩:=Xlu hm;obtain ⟨b,d,e,_⟩:=Xlp h a;have:=hi m hm;refine h.bytes ?_ ?_ _
   ·unfold Xwy;split
    ·rfl
    ·unfold Xwz at *;exact Xfw (by omega) (by omega)
   ·unfold Xwy;split
    ·exact h.bi
    ·exact Xfv h.bi
  ·exact h
 ·exact h
theorem StM.OkP.sized (h:s.Ok c) {o:Nat} {t:ThM} {size:Int} (ht:s.th[o]? = some (some t)) (hs:Xtp c t.size size=true) (hr:1≤size∧size≤c.most):(Xth s (o:Nat) ⟨size,t.q⟩).Ok c:=by
 have E:=(List.getElem?_eq_some_iff.1 ht).1;unfold Xtp at hs;simp only [Bool.and_eq_true,Bool.or_eq_true,decide_eq_true_eq] at hs;obtain ⟨B,G⟩:=hs;have p:∀ {b:Nat} {d:ThM},(s.th.set o (some ⟨size,t.q⟩))[b]? = some (some d) → ∃ f,s.th[b]? = some (some f)∧d.q=f.q∧((b=o∧f=t∧d.size=size)∨(b≠o∧d=f)):=fun i=>by
  rcases Xvj i with ⟨rfl,rfl⟩ | ⟨w,i⟩
  ·exact ⟨t,ht,rfl,.inl ⟨rfl,rfl,rfl⟩⟩
  ·exact ⟨_,i,rfl,.inr ⟨w,rfl⟩⟩
 have x:∀ {b:Nat} {f:ThM},s.th[b]? = some (some f) → ∃ d,(s.th.set o (some ⟨size,t.q⟩))[b]? = some (some d)∧d.q=f.q:=fun {b f} i=>by
  by_cases e:b=o
  ·subst e;rw [ht] at i;cases i
   exact ⟨_,List.getElem?_set_self E,rfl⟩
  ·exact ⟨f,Xu7 e i,rfl⟩
 unfold Xth;rw [Int.toNat_natCast];refine ⟨h.may,h.rm,h.kl,h.kr,h.bl,h.bi,by show ((s.th.set _ _).length:Int)=_; rw [List.length_set]; exact h.tl,h.ml,fun b d i => ?_,fun b d i q => ?_,fun b d i q => ?_,fun b H d Q i q F A C => ?_,fun k m I => ?_,fun j n a J => .inl ?_,(by rintro _ _ ⟨⟩),(by rintro _ _ ⟨⟩)⟩
 ·obtain ⟨f,l,u,⟨_,_,v⟩ | ⟨_,rfl⟩⟩:=p i
  ·rw [v]; exact hr
  ·exact h.size b d l
 ·obtain ⟨f,l,u,⟨_,D,v⟩ | ⟨_,rfl⟩⟩:=p i
  ·subst D;rw [v,← B] at q;rw [u,v,← B];exact h.small b f l q
  ·exact h.small b d l q
 ·obtain ⟨f,l,u,⟨_,D,v⟩ | ⟨_,rfl⟩⟩:=p i
  ·subst D;rw [v,← B] at q;obtain ⟨n,r,y,z,K⟩:=h.large b f l q;refine ⟨n,r,y,u.trans z,?_⟩;rw [K,v];have e:=G.resolve_left (fun w=>w q);unfold Xce;rw [e]
  ·exact h.large b d l q
 ·obtain ⟨f,l,u,_⟩:=p i;obtain ⟨L,y,z,_⟩:=p q;rw [u] at F C;rw [z] at A C;exact h.linj b H f L l y F A C
 ·obtain ⟨⟨b,f,M,N,O⟩,A⟩:=h.mv k m I;obtain ⟨d,l,u⟩:=x N;exact ⟨⟨b,d,M,l,u.trans O⟩,A⟩
 ·rcases h.own j n a J with ⟨b,f,l,u,P⟩ | ⟨_,g⟩
  ·obtain ⟨d,y,z⟩:=x u;exact ⟨b,d,l,y,by rw [z]; exact P⟩
  ·cases g
theorem Xjj (c:Conf) (s:StM) (o:Nat) (size:Int):Xs6 c {s with th:=s.th.set o none} o size=Xs6 c s o size:=by
 have e1:XuB c {s with th:=s.th.set o none} size=XuB c s size:=rfl;have e2:Xjg c {s with th:=s.th.set o none} o size=Xjg c s o size:=rfl;have e3:Xjh c {s with th:=s.th.set o none} o size={Xjh c s o size with th:=s.th.set o none}:=by unfold Xjh; rw [e1]; split <;> rfl
 unfold Xs6;rw [e2,e3];simp only [List.set_set,Int.toNat_natCast];rfl
theorem Xhe (M:RmM) (k n i:Int) (h:Xbg c M):M.pl.free.length≤(XpJ M k n i).pl.free.length ∧ ∀ j,j≠k→XpO (XpJ M k n i) j=XpO M j:=by
 unfold XpJ;cases a:XpC M k with
 |none=>exact ⟨Nat.le_refl _,fun _ _=>rfl⟩
 |some x =>
  obtain ⟨l,rfl,b,e⟩:=XpI a;simp only [Int.toNat_natCast];split
  ·refine ⟨?_,fun j d => ?_⟩
   ·show _≤(Xre x M.pl n i).free.length
    unfold Xre;split
    ·split
     ·show _≤(PlM.give M.pl _).free.length
      unfold PlM.give
      simp
     ·exact Nat.le_refl _
    ·exact Nat.le_refl _
   ·show XpO (Xp8 M l (Xrc x n i) (Xre x M.pl n i)) j=_
    unfold XpO;rw [XpG b,if_neg d]
  ·exact ⟨Nat.le_refl _,fun _ _=>rfl⟩
theorem XpB {M M':RmM} {size:Int} (h1:M.pl.free.length≤M'.pl.free.length) (h2:XpO M' (XnI c.classes size)=XpO M (XnI c.classes size)) (h:XpA c M size=0):XpA c M' size=0:=by
 unfold XpA at h ⊢;split at h
 ·exact absurd h (by decide)
 ·rename_i a
  rw [if_neg a];split at h
  ·exact absurd h (by decide)
  ·rename_i b
   rw [if_neg];unfold XpN at b ⊢;rw [h2];omega
theorem Xgt (h:s.Ok c) {κ size:Int} (hne:XnI c.classes size = -1∨XnI c.classes size≠κ) (hf:Xs1 c s size=0):Xs1 c (Xs0 s κ) size=0:=by
 have F:=Xgk h κ;unfold Xs1 at hf ⊢;split at hf
 ·exact absurd hf (by decide)
 ·rename_i f
  rw [if_neg f];have d:Xs8 (Xs0 s κ) (XnI c.classes size)=Xs8 s (XnI c.classes size):=by
   rcases hne with e | e
   ·rw [e]; rfl
   ·exact F.other _ e
  rw [d];split at hf
  ·rename_i a; rw [if_pos a]
  ·rename_i a
   rw [if_neg a];refine XpB ?_ ?_ hf
   ·unfold Xs0;split
    ·exact Nat.le_refl _
    ·rename_i m hm
     obtain ⟨k,rfl,_,b⟩:=Xlu hm;rw [Int.toNat_natCast];unfold Xs3;rw [hm];simp only
     split
     ·exact Nat.le_refl _
     ·exact (Xhe _ _ _ _ (StM.OkP.step h b _).rm).1
   ·unfold Xs0;split
    ·rfl
    ·rename_i m hm
     obtain ⟨k,rfl,_,b⟩:=Xlu hm;rw [Int.toNat_natCast];unfold Xs3;rw [hm];simp only
     split
     ·rfl
     ·rcases hne with e | e
      ·rw [e];unfold XpO;rw [XpE (by omega),XpE (by omega)]
      ·exact (Xhe _ _ _ _ (StM.OkP.step h b _).rm).2 _ e
theorem Xvb {q:Plc} {bs:List Int} (hb:InB bs) (i n:Nat):InB (Xu9 c q bs i n):=fun x a=>by
 unfold Xu9 at a;obtain ⟨j,_,rfl⟩:=List.mem_map.1 a;rw [List.getD_eq_getElem?_getD];cases b:bs[(Xv5 c q (i+j)).toNat]? with
 |none=>exact ⟨Int.le_refl _,by decide⟩
 |some y=>exact hb y (List.mem_of_getElem? b)
theorem Xpd {o size:Int} (h:Xte c s o size=0):∃ (j:Nat),∃ t,o=j∧s.th[j]? = some (some t)∧(1≤size∧size≤c.most)∧(Xtp c t.size size=true∨(Xtp c t.size size=false∧Xs1 c s size=0)):=by
 unfold Xte at h;by_cases a:XmC s o=0
 ·rw [if_neg (fun d=>d a)] at h;obtain ⟨j,t,rfl,ht⟩:=XmD a;split at h
  ·exact absurd h (by decide)
  ·rename_i e
   rw [Xtj ht] at h;refine ⟨j,t,rfl,ht,by omega,?_⟩;split at h
   ·rename_i b; exact .inl b
   ·rename_i b; exact .inr ⟨by simpa using b,h⟩
 ·rw [if_pos a] at h; exact absurd h a
theorem Xtq {old size:Int} (h:Xtp c old size=false):XnI c.classes size = -1∨XnI c.classes size≠XnI c.classes old:=by
 unfold Xtp at h;by_cases e:XnI c.classes old=XnI c.classes size
 ·rw [decide_eq_true e,Bool.true_and] at h;by_cases e1:XnI c.classes old = -1
  ·exact .inl (by omega)
  ·rw [decide_eq_true e1,Bool.true_or] at h; cases h
 ·exact .inr (fun h=>e h.symm)
theorem Xfc (h:s.OkP c pd) {o:Nat} {t:ThM} (ht:s.th[o]? = some (some t)):t.q.cls=XnI c.classes t.size:=by
 by_cases a:XnI c.classes t.size = -1
 ·obtain ⟨n,r,_,e,_⟩:=h.large o t ht a;rw [e,a]
 ·exact (h.small o t ht a).1
structure XaR (c:Conf) (s:StM) (o:Nat) (t:ThM) (size:Int) (t':ThM):Prop where
 ok1:(Xs0 s t.q.cls).Ok c
 th1:(Xs0 s t.q.cls).th[o]? = some (some t')
 size':t'.size=t.size
 cls':t'.q.cls=t.q.cls
 pages':t'.q.pages=t.q.pages
 away:StM.OkP c {Xs0 s t.q.cls with th:=(Xs0 s t.q.cls).th.set o none} (some (o,t'.q))
 fits:Xs1 c (Xs0 s t.q.cls) size=0
 ok2:(Xs6 c (XeQ (Xs0 s t.q.cls) (Xew c t'.q.plc 0 (min t.size size).toNat)) o size).OkP c (some (o,t'.q))
theorem Xlc (h:s.Ok c) {o:Nat} {t:ThM} {size:Int} (ht:s.th[o]? = some (some t)) (hs:Xtp c t.size size=false) (hf:Xs1 c s size=0):∃ t',XaR c s o t size t':=by
 obtain ⟨t',b,j,k,l,m⟩:=Xgl h ht;have F:=Xgk h t.q.cls;have d:=Xfc h ht;have a:=Xgt (κ:=t.q.cls) h (by rw [d]; exact Xtq hs) hf;have f:=F.ok.away b m;refine ⟨t',F.ok,b,j,k,l,f,a,?_⟩;have g:=(List.getElem?_eq_some_iff.1 b).1;have n:=f.tot (Xew c t'.q.plc 0 (min t.size size).toNat);have i:=StM.OkP.lay (o:=o) (size:=size) n (by show ((Xs0 s t.q.cls).th.set o none)[o]? = _; rw [List.getElem?_set_self g]) a (fun o' q e=>by cases e; rfl);have e:XeQ {Xs0 s t.q.cls with th:=(Xs0 s t.q.cls).th.set o none} (Xew c t'.q.plc 0 (min t.size size).toNat)={XeQ (Xs0 s t.q.cls) (Xew c t'.q.plc 0 (min t.size size).toNat) with th:=(XeQ (Xs0 s t.q.cls) (Xew c t'.q.plc 0 (min t.size size).toNat)).th.set o none}:=rfl;rw [e,Xjj] at i;exact i
theorem StM.OkP.moveTo (h:s.Ok c) {o:Nat} {t:ThM} {size:Int} (ht:s.th[o]? = some (some t)) (hs:Xtp c t.size size=false) (hf:Xs1 c s size=0):(Xs7 c s o size).Ok c:=by
 obtain ⟨t',M⟩:=Xlc h ht hs hf;unfold Xs7;simp only
 rw [Xta ht,Xta M.th1,Xtj ht];exact (M.ok2.put _ _ (Xvb M.ok1.bi _ _)).clear
theorem XnM {zs:List Int} {n:Int} {k:Nat} (h:XnI zs n=(k:Nat)):n≤zs.getD k 0:=by
 unfold XnI at h;split at h
 ·omega
 ·unfold idx at h;split at h
  ·rename_i i a
   obtain ⟨b,c,_⟩:=List.findIdx?_eq_some_iff_getElem.1 a;obtain rfl:i=k:=by omega
   rw [List.getD_eq_getElem?_getD,List.getElem?_eq_getElem b];exact of_decide_eq_true c
  ·omega
theorem Xh1 (h:s.OkP c pd) {k:Nat} {m:MvM} (hm:s.mv[k]? = some (some m)) {o:Nat} {t:ThM} (ht:s.th[o]? = some (some t)) (hc:t.q.cls=(k:Nat)):t.size≤m.size:=by
 have a:=Xfc h ht;have b:=(h.mv k m hm).2.2.2.2.2.1;rw [hc] at a;rw [b];unfold Xfb;rw [Int.toNat_natCast];have d:XnI c.classes t.size ≠ -1:=by omega
 obtain ⟨_,e⟩:=XnK d;exact XnM a.symm
theorem StM.OkP.resize (h:s.Ok c) (o size:Int):(Xtd c s o size).Ok c:=by
 unfold Xtd;split
 ·exact h
 ·rename_i i
  obtain ⟨j,t,rfl,ht,d,b⟩:=Xpd (Decidable.not_not.1 i);rw [Xtj ht,Xta ht];split
  ·rename_i a
   split
   ·rename_i p
    have l:=h.put t.q size.toNat (XwV (t.size - size).toNat);have e:=StM.OkP.sized l (o:=j) (t:=t) ht a d;refine e.wrote _ _ _ fun m hm => ?_;have q:=h.size j t ht;have f:=(List.getElem?_eq_some_iff.1 ht).1;have n:(Xth (Xs9 c s t.q size.toNat (XwU (t.size - size).toNat)) (j:Nat) ⟨size,t.q⟩).th[j]? = some (some ⟨size,t.q⟩):=by
     show (s.th.set (j:Int).toNat _)[j]? = _
     rw [Int.toNat_natCast,List.getElem?_set_self f]
    rw [Xta n] at hm;obtain ⟨k,ek,_,g⟩:=Xlu hm;have:=Xh1 h (k:=k) (m:=m) g ht ek;omega
   ·exact h.sized ht a d
  ·rename_i a
   rcases b with b | ⟨b,hf⟩
   ·exact absurd b a
   ·exact h.moveTo ht b hf
theorem Xwg {o i n:Int} (h:Xwd s o i n=0):∃ (j:Nat),∃ t,o=j∧s.th[j]? = some (some t)∧0≤i∧0≤n∧i+n≤t.size:=by
 unfold Xwd at h;by_cases a:XmC s o=0
 ·rw [if_neg (fun b=>b a)] at h;obtain ⟨j,t,rfl,ht⟩:=XmD a;rw [Xtj ht] at h;split at h
  ·exact absurd h (by decide)
  ·exact ⟨j,t,rfl,ht,by omega,by omega,by omega⟩
 ·rw [if_pos a] at h; exact absurd h a
theorem StM.OkP.read (h:s.Ok c) (o i n:Int):(Xtb c s o i n).Ok c:=by
 unfold Xtb;split
 ·exact h.tot _
 ·exact h
theorem StM.OkP.write (h:s.Ok c) (o i:Int) {l:List Int} (hl:InB l):(Xtn c s o i l).Ok c:=by
 unfold Xtn;split
 ·rename_i b
  obtain ⟨j,t,rfl,ht,d,_,f⟩:=Xwg b;refine (h.put _ _ hl).wrote _ _ _ fun m hm => ?_;have e:=Xta (s:=Xs9 c s (stQ s (j:Nat)) i.toNat l) ht;rw [e] at hm;obtain ⟨k,ek,_,a⟩:=Xlu hm;have:=Xh1 h (k:=k) (m:=m) a ht ek;omega
 ·exact h
theorem StM.OkP.tickK (h:s.Ok c) (n:Int) (k:Nat):(tickK c (s,n) k).1.Ok c:=by
 unfold Go.Proofs.YtgddpaiandefgaaGreatDoor.tickK;split
 ·exact h
 ·split
  ·exact h.begin k
  ·exact (StM.OkP.begin h k).go k _
theorem Xu2 (c:Conf) (s:StM) (n:Nat):tickTo c s (n+1)=tickK c (tickTo c s n) n:=by
 unfold tickTo;rw [List.range_succ,List.foldl_append];rfl
theorem StM.OkP.tickTo (h:s.Ok c):∀ n,(tickTo c s n).1.Ok c
 |0=>h
 |n+1=>by rw [Xu2]; exact StM.OkP.tickK (StM.OkP.tickTo h n) _ _
theorem StM.OkP.tick (h:s.Ok c):(Xtm c s).Ok c:=h.tickTo _
theorem StM.OkP.set (h:s.Ok c) (k keep:Int):(Xtf s k keep).Ok c:=by
 unfold Xtf;split
 ·rename_i a
  unfold Xtg at a;split at a
  ·exact absurd a (by decide)
  ·refine ⟨h.may,h.rm,by show (s.keep.set _ _).length=_; rw [List.length_set]; exact h.kl,fun x b => ?_,h.bl,h.bi,h.tl,h.ml,h.size,h.small,h.large,h.linj,h.mv,h.own,h.ps,h.pl⟩;rcases List.mem_or_eq_of_mem_set b with b | rfl
   ·exact h.kr x b
   ·omega
 ·exact h
end
structure Ext (F:Nat→Prop) (w:World) (R:Rm) (z:Nat):Prop where
 f:¬ F z
 rb:R.rb≠z
 sb:R.sb≠z
 tb:1≠z
 ca:∀ off s,R.p.ca≠some ⟨z,off,s⟩
 ka:∀ off s,R.p.ka≠some ⟨z,off,s⟩
 lb:kd w z≠some (some 329)
 pg:kd w z≠some (some 325)
 int:kd w z=some (some 3)→R.X z
theorem Xbh.other {F S:Nat→Prop} {w w':World} {R:Rm} {M:RmM} (h:Xbh F w R M) (hc:Chg S w w') (hS:∀ z,S z→Ext F w R z):Xbh F w' R M:=by
 have q:=hc.size;have out:∀ {a:Option Addr} {l:List Int},Far F w a l→(∀ z,S z → ∀ off s,a≠some ⟨z,off,s⟩)→Far F w' a l:=fun {a l} g n=>⟨g.1.far (fun b off s e c=>n b c off s e) hc,g.2⟩;have pb:¬ S R.P.pb:=fun c=>(hS _ c).f (h.pf _ (.inl rfl));have ab:¬ S R.P.ab:=fun c=>(hS _ c).f (h.pf _ (.inr rfl));refine ⟨h.ok,hc.heap h.obj (fun c=>(hS _ c).rb rfl),out h.cls (fun z c=>(hS z c).ca),out h.kee (fun z c=>(hS z c).ka),h.may,fun b o => ?_,fun k i=>hc.cell (h.sl k i) (fun c=>(hS _ c).sb rfl),h.pool.chg hc pb ab,h.pf,?_,h.lg.chg hc (fun z c e => .inr ((hS z e).int c)) (fun c=>(hS _ c).f h.lf),h.lf,h.rf,h.sf,fun z c=>by have:=h.low z c; omega,h.tab.chg hc (fun c=>(hS _ c).tb rfl),h.tf,fun z c=>⟨by have:=(h.xl z c).1; omega,(h.xl z c).2⟩⟩
 ·obtain ⟨f,hm⟩:=h.met b o;exact ⟨f,hc.heap hm.1 (fun e=>(hS _ e).f f),hm.2⟩
 ·obtain ⟨G,a,e⟩:=h.sh;refine ⟨G,fun k x p => ?_,e⟩;obtain ⟨f,d,j⟩:=a k x p;have k:=d.at'.kds;have nf:∀ z,S z → ¬ Xrb (R.S _) (G _) x.pg z:=fun z c hf=>(hS z c).f (j z hf).1;exact ⟨f,⟨d.ok,d.pos,d.of,d.at'.chg hc (fun z c=>⟨fun e=>nf z c (.inl e),fun e=>nf z c (.inr (.inl e)),fun e=>(hS z c).lb (e▸k.lb),fun e=>nf z c (.inr (.inr (.inl e)))⟩) (fun z c e m=>⟨fun e'=>(hS z c).pg (e'▸(d.at'.pages e m).kds.p),fun e'=>nf z c (.inr (.inr (.inr ⟨e,m,e'⟩)))⟩) (fun c=>(hS _ c).tb rfl),d.pool.chg hc (by rw [f]; exact pb) (by rw [f]; exact ab)⟩,j⟩
theorem Xbi.keep {F:Nat→Prop} {w w':World} {R:Rm} {M:RmM} (h:Xbi F w w' R M) {z:Nat} {o:Obj} (hz:w.heap[z]? = some o) (hf:¬ F z):∃ F',Xbh F' w' R M∧(∀ z,F' z→F z∨w.heap.size≤z)∧Chg F w w'∧w'.heap[z]? = some o ∧ ¬ F' z:=by
 obtain ⟨F',a,b,c⟩:=h;exact ⟨F',a,b,c,c.heap hz hf,fun h=>(b z h).elim hf (fun h=>by have:=Xkj hz; omega)⟩
theorem Xug {n off m:Nat} (h:off+m≤n):sub (XwU n) off m=List.replicate m 0:=by
 unfold sub XwU;rw [List.drop_replicate,List.take_replicate,Nat.min_eq_left (by omega)]
theorem XvO (v:Vw) (vb:Nat) (A:Ar) (V:ArV) (i m:Nat) (w:World) (hvb:Xox w vb v) (hv:w.heap[v.vb]? = some (.cells (vwL v).toArray 211 (0,0))) (hab:v.ab=A.ab) (hA:Xag w A V) (him:i+m≤V.bs.length) :
 Xan Tryz.prog 199 #[.int .i64 i,.int .i64 m,.pointer (some ⟨vb,0,none⟩)] w (fun _ w'=>Xag w' A {V.charge A m with bs:=wrB V.bs i (List.replicate m 0)}∧Chg (XgK A) w w'):=by
 refine ζe Tryz.func199 Tryz.ntmps199 rfl (ζl hvb rfl (ζl hv rfl ?_));rw [hab];refine ζc rfl (XcH A V i m 0 w hA him (by decide)) ?_;rintro _ c ⟨rfl,a,b⟩;exact ζa rfl (ζr Tryz.func199 rfl ⟨a,b⟩)
theorem XvN (v:Vw) (q:Plc) (at' n:Nat) (A:Ar) (V:ArV) (w:World) (hv:XbS w v) (hq:Xa8 w q) (hmb:v.mb=A.mb) (hab:v.ab=A.ab) (hck:XeG v.c q at' n=0) (hfew:q.pages.length≤4096)
 (hPv:¬ XgK A v.vb) (hPq:0<q.pages.length→Xa0 (XgK A) q.pa) (hPc:0<v.c.classes.length→Xa0 (XgK A) v.p.ca) (hPk:0<v.c.keep.length→Xa0 (XgK A) v.p.ka) (hA:Xag w A V) (hlen:(V.bs.length:Int)=v.c.size*v.c.pages) :
 Xan Tryz.prog 131 #[vwV v,.agg (Xoc q).toArray,.int .i64 at',.int .i64 n] w (fun u w'=>u = .int .i64 0∧Xag w' A (vsW q A V (Xm5 v.c q at' n) (XwU n) (Xm5 v.c q at' n).length)∧Chg (XgK A) w w'):=by
 obtain ⟨ps,c⟩:∃ ps,ps=Xm5 v.c q at' n:=⟨_,rfl⟩;have f:∀ p ∈ ps,∃ i m:Nat,p=((i:Int),(m:Int))∧i+m≤V.bs.length:=fun p g=>by
  obtain ⟨i,m,W,h2⟩:=Xm7 hv.may hck hfew p (c▸g);exact ⟨i,m,W,by omega⟩
 have H:Xvd ps=n:=by rw [c]; exact Xm9 hv.may
 have K:(XwU n).length=n:=List.length_replicate;rw [← c];refine Xan.enter Tryz.func131 rfl Tryz.ntmps131 rfl rfl ?_;refine ζa rfl ?_;refine Xay.alloc hTT rfl ?_;intro vb w1 e1 L M a5;refine ζa rfl ?_;refine Xay.alloc hTT rfl ?_;intro qb j e2 l E a6;refine ζa rfl ?_;replace l:Xob j qb q:=l;have o:=M.trans E;have r:Xox j vb v:=E.heap' L;refine Xay.loadb hTT rfl r rfl rfl ?_;refine Xay.loads hTT rfl l rfl rfl ?_;have d:=foot_lt hA;have b:∀ z,Xkx A z→XgK A z:=fun z h => .inr h;have a7:=Xkj hv.obj;have N:=XvP v q at' n 199 [.pointer (some ⟨vb,0,none⟩)] A (vsW q A V ps (XwU n))
  (fun k Y x=>(∀ z,Y z↔XgK A z)∧Xox x vb v∧x.heap[v.vb]? = some (.cells (vwL v).toArray 211 (0,0))∧j.heap.size≤x.heap.size)
  (XgK A) j (hv.grow o) (hq.grow o) hmb hck hfew
  (by rintro (h | h); exact hPv h; exact hPv (b _ h))
  (hq.rd.outNew hPq (fun z a=>by rcases a with h | h; exact .inl h; exact .inl (b _ h)))
  (hv.conf.classes.outNew hPc (fun z a=>by rcases a with h | h; exact .inl h; exact .inl (b _ h)))
  (hv.conf.keep.outNew hPk (fun z a=>by rcases a with h | h; exact .inl h; exact .inl (b _ h)))
  (by
   rintro k Y x ⟨e,s,t,B⟩ z a;have:=d z ((e z).1 a);omega)
  (by
   rintro k Y x y S ⟨e,s,t,B⟩ I hS;have no:∀ z,z<j.heap.size → ¬ Xkx A z → ¬ S z:=fun z a hm h=>(hS z h).elim hm (fun h=>by omega);exact ⟨e,I.heap s (no _ (by omega) (fun h=>by have:=d _ (b _ h); omega)),I.heap t (no _ (by omega) (fun h=>hPv (b _ h))),Nat.le_trans B I.size⟩)
  (by
   rintro k Y x C O ⟨e,s,t,B⟩;rw [← c] at C;obtain ⟨i,m,g,P⟩:=f ps[k] (List.getElem_mem C);have F:(XeL q A (vsW q A V ps (XwU n) k)).bs=(vsW q A V ps (XwU n) k).bs:=XeM _ _ _;have J:(vsW q A V ps (XwU n) k).bs.length=V.bs.length:=Xv1 f (by rw [K]; exact H) (by omega);have G:=Xvh C;rw [g] at G;simp only [Int.toNat_natCast] at G;have hR:=XvO v vb A (XeL q A (vsW q A V ps (XwU n) k)) i m x s t hab O (by rw [F,J]; exact P);simp only [← c];rw [g];refine hR.mono fun _ y ⟨Q,D⟩ => ?_;rw [F] at Q;refine ⟨by rw [Xv2 C g,Xug (by omega)]; exact Q,D.mono fun z _ a=>(e z).2 a,Y,⟨e,?_,?_,Nat.le_trans B D.size⟩,fun z a => .inl a⟩
   ·exact D.heap s (fun h=>by have:=d _ h; omega)
   ·exact D.heap t hPv)
  (hA.grow o) ⟨fun z=>Iff.rfl,r,o.heap' hv.obj,Nat.le_refl _⟩
 rw [← c] at N;refine ζc rfl (N) ?_;rintro _ w4 ⟨rfl,R,_,T⟩;refine ζa rfl ?_;have U:Chg (XgK A) w w4:=(o.mono fun _ _ h=>h.elim).since T (fun z a h=>by rcases h with h | h; exact h; exact b _ h);exact Xay.ret1 hTT rfl Tryz.func131 rfl rfl ⟨rfl,R,U⟩
end Go.Proofs.YtgddpaiandefgaaGreatDoor
