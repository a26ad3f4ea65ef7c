/-
  Rule9
-/
import Derived.Test.YtgddpaiandefgaaGreatDoorQRule8
namespace Go.Proofs.YtgddpaiandefgaaGreatDoor
open Go.RowKit
section
variable {P:Program} {T:Tab} {ops:Array Oper} {f:FuncId} {R:Aim} {k:List Item} {q n:Nat} {ds:List Deferred} {s s':List Item} {w w0:World} {e e':Env} {U:List Nat} {S:Nat→Prop}
def bstrN (T:Tab) (e:Env) (o:Oper):Option (Option Addr × Nat) :=
 match o.op with
 |.convert src dst x=>match ev e x,row T src,row T dst with
  |some (.slice a n _),some {und := .slice q,..},some {und := .string,..}=>match row T q with
   |some {und := .int .u8,..}=>some (a,n)
   |_=>none
  |_,_,_=>none
 |_=>none
theorem XdX (hT:XbE P T) {a:Option Addr} {m:Nat} {ns:List Int} {o:Oper} (h:bstrN T e o=some (a,m)) (hl:ns.length=m) (hr:Rd .u8 w a ns) (act:Act) (hf:Xau n act e):(execOp act.eval o).run P w = .ok (.value (.string (Xua ns))) w:=by
 subst hl;unfold bstrN at h;split at h
 ·rename_i src dst x d
  split at h
  ·rename_i l p f q _ _ _ _ _ _ g i j
   split at h
   ·rename_i _ _ _ k
    cases h
    simp only [execOp,d,hf.ev g];refine (XqJ (x:=(.string (Xua ns):Value)) (w':=w) ?_).trans rfl;unfold convert;refine (XqJ ((hT.row i).underlying w)).trans ?_;refine (XqJ ((hT.row j).underlying w)).trans ?_;refine (XqJ ((hT.row k).underlying w)).trans ?_;cases a with
    |none =>
     have:ns = []:=by
      cases ns with
      |nil=>rfl
      |cons x r=>obtain ⟨b,off,e,_⟩:=hr 0 (by simp); cases e
     subst this;rfl
    |some a =>
     have c:=run_loadCells_list (P:=P) w a (ns.map (Value.int .u8)) hr.cells;rw [List.length_map] at c;exact run_bytesToString (P:=P) w a ns.length f ns c
   ·cases h
  ·cases h
 ·cases h
theorem Xay.bstrN (hT:XbE P T) {a:Option Addr} {m d:Nat} (ns:List Int) {s2:List Item} {e2:Env} (h:XcY (bstrN T e) n s e=some ((a,m),d,s')) (hl:ns.length=m) (hr:Rd .u8 w a ns)
 (ha:Go.Proofs.YtgddpaiandefgaaGreatDoor.adv T n 400 s' ((d,false,.string (Xua ns))::e)=(s2,e2)) (hg:Xay P f R n ds s2 e2 w):Xay P f R n ds s e w :=
 Xay.val h (fun _ b a hf=>XdX hT b hl hr a hf) (Xay.adv hT 400 ha hg)
def RdS (S:Nat→Prop) (k:IntKind) (w:World) (a:Option Addr) (zs:List Int):Prop:=Rd k w a zs ∧ ∀ b off s,a=some ⟨b,off,s⟩→0<zs.length → ¬ S b
theorem RdS.chg {S:Nat→Prop} {k:IntKind} {w w':World} {a:Option Addr} {zs:List Int} (h:RdS S k w a zs) (hc:Chg S w w'):RdS S k w' a zs:=⟨fun i d=>by
 obtain ⟨b,off,e,c⟩:=h.1 i d;exact ⟨b,off,e,hc.cell c (h.2 b off none e (by omega))⟩,h.2⟩
theorem Xaq.bstrN (hT:XbE P T) (hB:XfJ ops q=true) {a:Option Addr} {m d i:Nat} (ns:List Int) {U2:List Nat} {e2:Env} (h:Xgm (bstrN T e) n ops q U e U=some ((a,m),d,i)) (hl:ns.length=m) (hr:RdS S .u8 w0 a ns)
 (ha:Xb2 T n ops q (rmN i U) (rmN i U) ((d,false,.string (Xua ns))::e)=(U2,e2)) (hg:Xaq P f R n ds k ops q S U2 e2 w0 w):Xaq P f R n ds k ops q S U e w0 w :=
 Xaq.val hT hB h (fun _ c a _ b hf=>XdX hT c hl (hr.chg b).1 a hf) ha hg
theorem Xaq.streq (hT:XbE P T) (hB:XfJ ops q=true) {p:Bool} {a b:ByteArray} {d i:Nat} {U2:List Nat} {e2:Env} (h:Xgm (Xub e) n ops q U e U=some ((p,a,b),d,i)) (hab:a=b)
 (ha:Xb2 T n ops q (rmN i U) (rmN i U) ((d,false,.bool p)::e)=(U2,e2)) (hg:Xaq P f R n ds k ops q S U2 e2 w0 w):Xaq P f R n ds k ops q S U e w0 w :=
 Xaq.val hT hB h (fun _ c a w' _ hf=>Xuc c hab a hf w') ha hg
theorem XjZ (hT:XbE P T) {t:Nat} {r:XbP} {b off:Nat} {vs:List Value} (hr:row T t=some r) (ha:XiK r=true) (hl:vs.length=r.size) (hc:∀ j v,vs[j]? = some v→w.cell? ⟨b,off+j,none⟩=some v) :
 (loadVar t ⟨b,off,none⟩).run P w = .ok (.agg vs.toArray) w:=by
 have a:=run_loadCells_list (P:=P) w ⟨b,off,none⟩ vs (fun j v c=>by rw [XbV]; exact hc j v c);unfold loadVar;refine (XqJ ((hT.row hr).isAgg w)).trans ?_;rw [ha];simp only [if_true];refine (XqJ ((hT.row hr).sizeOf w)).trans ?_;rw [← hl];exact (XqJ a).trans rfl
theorem XjU (hT:XbE P T) {b off m:Nat} {vs:List Value} {o:Oper} (h:XjW T e o=some (b,off,some m)) (hl:vs.length=m) (hc:∀ j v,vs[j]? = some v→w.cell? ⟨b,off+j,none⟩=some v) (a:Act) (hf:Xau n a e):(execOp a.eval o).run P w = .ok (.value (.agg vs.toArray)) w:=by
 unfold XjW at h;split at h
 ·rename_i t x d
  split at h
  ·rename_i k f r g i
   split at h
   ·rename_i c
    cases h
    simp only [execOp,d,hf.ev g];refine (XqJ (x:=(.agg vs.toArray:Value)) (w':=w) ?_).trans rfl;simp only [Instr.loadAt,Instr.sureAddr];exact (XqJ (show (pure _:Sem Addr).run P w = .ok _ w from rfl)).trans (XjZ hT i c hl hc)
   ·cases h
  ·cases h
 ·cases h
theorem Xay.loadC (hT:XbE P T) {b off m d:Nat} (vs:List Value) {s2:List Item} {e2:Env} (h:XcY (XjW T e) n s e=some ((b,off,some m),d,s')) (hl:vs.length=m) (hc:∀ j v,vs[j]? = some v→w.cell? ⟨b,off+j,none⟩=some v)
 (ha:Go.Proofs.YtgddpaiandefgaaGreatDoor.adv T n 400 s' ((d,false,.agg vs.toArray)::e)=(s2,e2)) (hg:Xay P f R n ds s2 e2 w):Xay P f R n ds s e w :=
 Xay.val h (fun _ c a hf=>XjU hT c hl hc a hf) (Xay.adv hT 400 ha hg)
theorem Xaq.loadC (hT:XbE P T) (hB:XfJ ops q=true) {b off m d i:Nat} (vs:List Value) {U2:List Nat} {e2:Env} (h:Xgm (XjW T e) n ops q U e U=some ((b,off,some m),d,i)) (hl:vs.length=m) (hc:∀ j v,vs[j]? = some v→w0.cell? ⟨b,off+j,none⟩=some v) (hS:¬ S b)
 (ha:Xb2 T n ops q (rmN i U) (rmN i U) ((d,false,.agg vs.toArray)::e)=(U2,e2)) (hg:Xaq P f R n ds k ops q S U2 e2 w0 w):Xaq P f R n ds k ops q S U e w0 w :=
 Xaq.val hT hB h (fun _ g a _ c hf=>XjU hT g hl (fun j v l=>c.cell (hc j v l) hS) a hf) ha hg
theorem Xaq.swap {d d':Nat} {b b':Bool} {v v':Value} (hne:d≠d') (h:Xaq P f R n ds k ops q S U ((d,b,v)::(d',b',v')::e) w0 w):Xaq P f R n ds k ops q S U ((d',b',v')::(d,b,v)::e) w0 w :=
 h.weaken fun t u ht=>by
  rw [Xkb,Xkb] at ht ⊢;by_cases c:t=d
  ·subst c; rw [if_pos rfl] at ht; rw [if_neg hne,if_pos rfl]; exact ht
  ·rw [if_neg c] at ht;by_cases g:t=d'
   ·subst g; rw [if_pos rfl] at ht ⊢; exact ht
   ·rw [if_neg g] at ht ⊢; rw [if_neg c]; exact ht
end
end Go.Proofs.YtgddpaiandefgaaGreatDoor
