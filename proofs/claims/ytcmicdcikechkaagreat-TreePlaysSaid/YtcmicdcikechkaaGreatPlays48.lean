import Derived.Test.YtcmicdcikechkaaGreatPlays36
import Derived.Test.YtcmicdcikechkaaGreatPlays47
set_option linter.all false
set_option autoImplicit true
set_option relaxedAutoImplicit true
namespace Go.Proofs.YtcmicdcikechkaaGreat
set_option maxHeartbeats 1000000
set_option maxRecDepth 100000
section
open Go.RowKit Go.H Go.ChangeShapes Go.WideShapes Go.ChangeAt Go.Deep
structure ActV where
 kind:Int
 n:Int
 key:Bs
 value:Bs
 after:Int
 keep:Int
 torn:Int
 cut:Int
instance:Inhabited ActV:=⟨⟨0,0,[],[],0,0,0,0⟩⟩
structure ActAt (w:World) (g o:Nat) (kv vv:Value) (x:ActV):Prop where
 c0:w.cell? ⟨g,o,none⟩=some (.int .i64 x.kind)
 c1:w.cell? ⟨g,o+1,none⟩=some (.int .i64 x.n)
 c2:w.cell? ⟨g,o+2,none⟩=some kv
 c3:w.cell? ⟨g,o+3,none⟩=some vv
 c4:w.cell? ⟨g,o+4,none⟩=some (.int .i64 x.after)
 c5:w.cell? ⟨g,o+5,none⟩=some (.int .u64 x.keep)
 c6:w.cell? ⟨g,o+6,none⟩=some (.int .i64 x.torn)
 c7:w.cell? ⟨g,o+7,none⟩=some (.int .i64 x.cut)
 key:BytesAt (fun _=>True) w kv x.key
 value:BytesAt (fun _=>True) w vv x.value
 kw:-9223372036854775808≤x.kind∧x.kind≤9223372036854775807
 nw:-9223372036854775808≤x.n∧x.n≤9223372036854775807
def ActsAt (w:World) (v:Value) (l:List ActV):Prop:=∃A c,v=.slice A l.length c∧l.length≤c∧c≤maxLen∧∀(i:Nat) (h:i<l.length),∃g o kv vv,A=some ⟨g,o,none⟩∧ActAt w g (o+i*8) kv vv l[i]
theorem zj3 {w:World} {base:Nat} {a:Addr} {n:Nat} {cs:List Value} (h:w.cells? base a n=some cs) {i:Nat} (hi:i<n) {v:Value} (hv:cs[i]?=some v):w.cell? (a.add i)=some v:=by
 obtain⟨h1,h2,h3⟩:=World.cells?_some h
 rw[h3 i hi,hv]
theorem zj4 (h:cs.length=8):∃a b c d e f g k,cs=[a,b,c,d,e,f,g,k]:=by
 match cs,h with
 |[a,b,c,d,e,f,g,k],_=>exact⟨a,b,c,d,e,f,g,k,rfl⟩
theorem zj5 {α:Type} {xs:List α} (h:xs.length=4):∃a b c d,xs=[a,b,c,d]:=by
 match xs,h with
 |[a,b,c,d],_=>exact⟨a,b,c,d,rfl⟩
theorem zj6 {α:Type} {xs:List α} (h:xs.length=5):∃a b c d e,xs=[a,b,c,d,e]:=by
 match xs,h with
 |[a,b,c,d,e],_=>exact⟨a,b,c,d,e,rfl⟩
section
variable {H : Type} {enc : TypeId × Value → H} {w : World} {base : Nat}
theorem zj7 {t e:TypeId} {fuel:Nat} (ht:Tryz.prog.underlying t=some (.slice e)) (he:Tryz.prog.underlying e=some (.int .u8)) (hc:Tryz.prog.cellsOf e=1) (h:DataW.trod enc Tryz.prog w 0 (fun _=>true) true fuel t [v]=some x):∃l,BytesAt (fun _=>True) w v l:=by
 rcases open_ints ht he hc h with⟨hcs,-⟩|⟨a',len',cap',zs,hcs,hb,hl,hm,hz,hx,hcell,hwz⟩
 · simp only[List.cons.injEq,and_true] at hcs
   subst hcs
   exact⟨[],none,0,rfl,Nat.le_refl _,Nat.zero_le _,fun h=>absurd rfl h⟩
 · simp only[List.cons.injEq,and_true] at hcs
   subst hcs
   simp only[if_true] at hz
   exact⟨_,zft (zs:=zs) hl hm hz hwz (fun h=>by cases h) (fun a' e c hc=>by cases e;exact hcell c (by omega))⟩
theorem zj8:Tryz.prog.cellsOf 43=8:=by kernel_rfl
theorem zj9:Tryz.prog.cellsOf 41=4:=by kernel_rfl
theorem zja:Tryz.prog.cellsOf 3=1:=by kernel_rfl
theorem zjb:Tryz.prog.cellsOf 39=1:=by kernel_rfl
theorem zjc {m:Int} (h:(Lit.int .i64 m).wf=true):-9223372036854775808≤m∧m≤9223372036854775807:=by simpa [Lit.wf,IntKind.min,IntKind.max,IntKind.signed,IntKind.bits] using h
theorem zjd {fuel g o:Nat} (hc:w.cells? 0 ⟨g,o,none⟩ 8=some cs) (h:DataW.trod enc Tryz.prog w 0 (fun _=>true) true fuel 43 cs=some x):∃kv vv y,ActAt w g o kv vv y:=by
 obtain⟨xs,n,-,-,hl,hlen,hf⟩:=DataW.trod_struct Tryz.underlying43 h
 obtain⟨a0,a1,a2,a3,a4,a5,a6,a7,rfl⟩:=zj4 (by rw[hl,zj8])
 obtain⟨x0,x1,x2,x3,x4,rfl⟩:=zj6 (show xs.length=5 from hlen)
 have f0:=hf 0 _ rfl
 have f1:=hf 1 _ rfl
 have f2:=hf 2 _ rfl
 have f3:=hf 3 _ rfl
 have f4:=hf 4 _ rfl
 simp only[zja,zfx,zj9,List.drop_zero,List.take_succ_cons,List.take_zero,List.drop_succ_cons,List.getElem?_cons_zero,List.getElem?_cons_succ] at f0 f1 f2 f3 f4
 obtain⟨n0,e0,-,w0⟩:=DataW.trod_int Tryz.underlying3 f0
 obtain⟨n1,e1,-,w1⟩:=DataW.trod_int Tryz.underlying3 f1
 obtain⟨k,hk⟩:=zj7 Tryz.underlying30 Tryz.underlying5 zfw f2
 obtain⟨v,hv⟩:=zj7 Tryz.underlying30 Tryz.underlying5 zfw f3
 obtain⟨ys,n',-,-,hl',hlen',hf'⟩:=DataW.trod_struct Tryz.underlying41 f4
 obtain⟨y0,y1,y2,y3,rfl⟩:=zj5 (show ys.length=4 from hlen')
 have g0:=hf' 0 _ rfl
 have g1:=hf' 1 _ rfl
 have g2:=hf' 2 _ rfl
 have g3:=hf' 3 _ rfl
 simp only[zja,zjb,List.drop_zero,List.take_succ_cons,List.take_zero,List.drop_succ_cons,List.getElem?_cons_zero,List.getElem?_cons_succ] at g0 g1 g2 g3
 obtain⟨m0,d0,-,-⟩:=DataW.trod_int Tryz.underlying3 g0
 obtain⟨m1,d1,-,-⟩:=DataW.trod_int Tryz.underlying39 g1
 obtain⟨m2,d2,-,-⟩:=DataW.trod_int Tryz.underlying3 g2
 obtain⟨m3,d3,-,-⟩:=DataW.trod_int Tryz.underlying3 g3
 injection e0 with e0
 injection e1 with e1
 injection d0 with d0
 injection d1 with d1
 injection d2 with d2
 injection d3 with d3
 subst e0 e1 d0 d1 d2 d3
 have cc:∀i v,i<8→[(.int .i64 n0),.int .i64 n1,a2,a3,.int .i64 m0,.int .u64 m1,.int .i64 m2,.int .i64 m3][i]?=some v→w.cell? ⟨g,o+i,none⟩=some v:=fun i v hi hv=>by
  have:=zj3 hc hi hv
  rwa [add_plain] at this
 exact⟨a2,a3,⟨n0,n1,k,v,m0,m1,m2,m3⟩,cc 0 _ (by omega) rfl,cc 1 _ (by omega) rfl,cc 2 _ (by omega) rfl,cc 3 _ (by omega) rfl,cc 4 _ (by omega) rfl,cc 5 _ (by omega) rfl,cc 6 _ (by omega) rfl,cc 7 _ (by omega) rfl,hk,hv,zjc w0,zjc w1⟩
theorem zje (hv:Value.okWide Tryz.prog w .any base 38 v) (h:DataW.Trod enc Tryz.prog w 0 (fun _=>true) true 38 v d ps):∃l,ActsAt w v l:=by
 obtain⟨a,len,cap,rfl⟩:=okWide_slice Tryz.underlying38 hv
 obtain⟨fuel,hf⟩:=h
 rcases open_slice Tryz.underlying38 hf with⟨hcs,-⟩|⟨a',len',cap',m,n,D,Pl,hcs,hb,hl,hm,hmm,-,hx⟩
 · simp[Value.cells] at hcs
   obtain⟨rfl,rfl,rfl⟩:=hcs
   exact⟨[],none,0,rfl,Nat.le_refl _,Nat.zero_le _,fun i h=>absurd h (by simp)⟩
 · simp[Value.cells] at hcs
   obtain⟨rfl,rfl,rfl⟩:=hcs
   simp only[if_true] at hmm
   subst hmm
   rw[zj8] at hx
   have each:∀i,i<m→∃g o kv vv y,a'=⟨g,o,none⟩∧ActAt w g (o+i*8) kv vv y:=fun i hi=>by
    obtain⟨cs',h1,h2⟩:=hx i hi
    obtain⟨g,o,sp⟩:=a'
    have hsp:sp=none:=by
     obtain⟨cs0,h0,-⟩:=hx 0 (by omega)
     obtain⟨q1,q2,q3⟩:=World.cells?_some h0
     have q4:=q3 0 (by omega)
     obtain⟨u,hu⟩:∃u,cs0[0]?=some u:=⟨cs0[0]'(by omega),List.getElem?_eq_getElem (by omega)⟩
     rw[hu] at q4
     simpa [Addr.add] using World.cell?_spot q4
    subst hsp
    rw[add_plain] at h1
    obtain⟨kv,vv,y,hy⟩:=zjd h1 h2
    exact⟨g,o,kv,vv,y,rfl,hy⟩
   have each2:∀i,i<len→∃y:ActV,∃g o kv vv,a'=⟨g,o,none⟩∧ActAt w g (o+i*8) kv vv y:=fun i hi=>by
    obtain⟨g,o,kv,vv,y,e1,e2⟩:=each i (by omega)
    exact⟨y,g,o,kv,vv,e1,e2⟩
   obtain⟨Y,hY⟩:=choose_lt each2
   refine⟨(List.range len).map Y,some a',m,by simp,by simpa using hl,hm,fun i hi=>?_⟩
   obtain⟨g,o,kv,vv,e1,e2⟩:=hY i (by simpa using hi)
   exact⟨g,o,kv,vv,by rw[e1],by simpa using e2⟩
end
end
section
open Go.RowKit Go.H
def putW (x v:Bs) (l:List KV):List KV:=if wrong x v=0 then putL (x,v) l else l
def delW (x:Bs) (l:List KV):List KV:=if wrong x []=0 then delL x l else l
structure TwA (w0:World) (r r' d d' tp tp':Nat) (L Ll L' Ll':List KV) (N N' k:Nat) (c:Nat→Nat) (w:World):Prop where
 a:At1 w0 698 r d tp L Ll N k c w
 b:At1 w0 698 r' d' tp' L' Ll' N' k c w
variable {w0 w w' : World} {r r' d d' tp tp' N N' k : Nat} {L Ll L' Ll' : List KV} {c c' : Nat → Nat}
structure StepA (r:Nat) (c:Nat→Nat) (w:World) (c':Nat→Nat) (w':World):Prop where
 fr:Fr (OwnR r c) w w'
 ag:Ag w.heap.size c c'
theorem StepA.bytes (hr:1≤r) (h:StepA r c w c' w') (hv:BytesAt (Dt c) w v l):BytesAt (Dt c') w' v l:=
 ((hv.mono (F' := fun b => c b = 0 ∧ b < w.heap.size) (fun b hb hl => ⟨hb, hl⟩)).fr h.fr (fun b hb e => by
   have e':c b=r∨c b=r+1∨c b=r+2:=e
   have:=hb.1
   omega)).mono (fun b hb _=>(h.ag b hb.2).trans hb.1)
def DBlk (c:Nat→Nat) (w:World) (b:Nat) (o:Obj):Prop:=w.heap[b]?=some o∧c b=0
theorem StepA.blk {b:Nat} (hr:1≤r) (h:StepA r c w c' w') (hb:DBlk c w b o):DBlk c' w' b o:=by
 have hl:=(Array.getElem?_eq_some_iff.1 hb.1).1
 refine⟨h.fr.blk hb.1 (fun e=>?_),(h.ag b hl).trans hb.2⟩
 have e':c b=r∨c b=r+1∨c b=r+2:=e
 have:=hb.2
 omega
theorem DBlk.fr0 {b:Nat} (hb:DBlk c w b o) (hf:Fr C0 w w'):DBlk c w' b o:=⟨hf.blk hb.1 (fun h=>h),hb.2⟩
end
end Go.Proofs.YtcmicdcikechkaaGreat
