import Derived.Test.YtidalepbkljkpaaGreatLocalSpaces44
import Derived.Test.YtidalepbkljkpaaGreatLocalSpaces16
import Derived.Test.YtidalepbkljkpaaGreatLocalSpaces32
import Derived.Test.YtidalepbkljkpaaGreatLocalSpaces02
import Derived.Shelf.SlSortCmp.WholeK
import Derived.Test.YtidalepbkljkpaaGreatLocalSpaces43
import Derived.Test.YtidalepbkljkpaaGreatLocalSpaces33
import Derived.Shelf.Lay
import Derived.Ground.SlsfProg
set_option linter.all false
namespace Go.Proofs.YtidalepbkljkpaaGreat
open Go.RowKit Go.H
set_option maxHeartbeats 2000000
set_option maxRecDepth 100000
section
variable {c c' : Nat → Nat} {w w' : World} {sp tp p0 : Nat} {Z : TSt}
theorem zip (tp p0:Nat) (La:List KV):LocCells tp p0 La=#[.pointer (some ⟨tp,0,none⟩),.int .i64 (p0:Int),.int .i64 (cntS 0 La:Int),.int .i64 (cntS 1 La:Int),.int .i64 (cntS 2 La:Int),.int .i64 (cntS 3 La:Int),.int .i64 (cntS 4 La:Int),.int .i64 (cntS 5 La:Int),.int .i64 (cntS 6 La:Int),.int .i64 (cntS 7 La:Int),.int .i64 (cntS 8 La:Int),.int .i64 (cntS 9 La:Int),.int .i64 (cntS 10 La:Int),.int .i64 (cntS 11 La:Int),.int .i64 (cntS 12 La:Int),.int .i64 (cntS 13 La:Int),.int .i64 (cntS 14 La:Int),.int .i64 (cntS 15 La:Int)]:=by rfl
def putN (w:World) (sp:Nat):Nat→List Value→World
 |_,[]=>w
 |i,v::vs=>putN (w.setCell ⟨sp,i,none⟩ v) sp (i+1) vs
def setN (cs:Array Value):Nat→List Value→Array Value
 |_,[]=>cs
 |i,v::vs=>setN (cs.setIfInBounds i v) (i+1) vs
theorem ziq {sp:Nat} {T:TypeId}:∀(vs:List Value) (i:Nat) (w:World) (cs:Array Value),w.heap[sp]?=some (.cells cs T (0,0))→Fr (fun b=>b=sp) w (putN w sp i vs)∧(putN w sp i vs).heap[sp]?=some (.cells (setN cs i vs) T (0,0))
 |[],i,w,cs,h=>⟨Fr.refl _ _,h⟩
 | v :: vs, i, w, cs, h => by
   obtain⟨h1,h2⟩:=ziq vs (i+1) (w.setCell ⟨sp,i,none⟩ v) (cs.setIfInBounds i v) (z2j h v)
   exact⟨((Fr.refl (fun b=>b=sp) w).setCell (p:=⟨sp,i,none⟩) (.inr rfl) v).trans h1 (fun _ _ e=>e),h2⟩
theorem zir (tp p0:Nat) (Lk La:List KV):setN (LocCells tp p0 Lk) 2 [.int .i64 (cntS 0 La:Int),.int .i64 (cntS 1 La:Int),.int .i64 (cntS 2 La:Int),.int .i64 (cntS 3 La:Int),.int .i64 (cntS 4 La:Int),.int .i64 (cntS 5 La:Int),.int .i64 (cntS 6 La:Int),.int .i64 (cntS 7 La:Int),.int .i64 (cntS 8 La:Int),.int .i64 (cntS 9 La:Int),.int .i64 (cntS 10 La:Int),.int .i64 (cntS 11 La:Int),.int .i64 (cntS 12 La:Int),.int .i64 (cntS 13 La:Int),.int .i64 (cntS 14 La:Int),.int .i64 (cntS 15 La:Int)]=LocCells tp p0 La:=by
 rw[zip,zip]
 simp[setN]
theorem zis {Z:TSt} (h:TreeAt c 1 2 3 w tp Z 0) (hown:c sp=7) (f:Fr (fun b=>b=sp) w w'):TreeAt c 1 2 3 w' tp Z 0:=by
 refine h.moveC f (Ag.refl _ _) (h.cl.mono f.size) (fun b e=>?_) (fun b e=>?_) (fun b e=>?_) (fun b e=>?_)
 all_goals
  have e2:b=sp:=e
  rw[e2,hown]
  decide
def ChgRes (c:Nat→Nat) (w:World) (sp tp:Nat) (Z:TSt) (p0:Nat) (l:List Chg) (pos:Nat) (err:Int) (w':World):Prop:=
 ∃ c1 Z1, Ag w.heap.size c c1 ∧ Fr (OwnL c) w w' ∧ Z1.last = Z1.now ∧ Z1.back = Z.back ∧ Z1.snaps = Z.snaps ∧ Z1.S.pages = Z.S.pages ∧ Z1.S.dk = Z.S.dk ∧ Z1.D.after < 1 ∧
   ((err = 21 ∧ LocAt c1 w' sp tp Z1 p0 ∧ rootL Z1.now = rootL Z.now ∧ Z1.S.num = Z.S.num ∧ Z.S.pages < Z.S.state.length + ((rootL Z.now).length + l.length + 1)) ∨
    (err=0∧LocAt c1 w' sp tp Z1 pos∧rootL Z1.now=appL (rootL Z.now) l pos∧Z1.S.num=Z.S.num+1))
theorem zit {lv:Value} {l:List Chg} {pos:Nat} (h:LocAt c w sp tp Z p0) (hlast:Z.last=Z.now) (hback:Z.back=[]) (hl:ChgR (fun b=>b<w.heap.size∧¬OwnL c b) (fun b=>b<w.heap.size∧c b=0) w lv l) (hok:∀x∈l,okC x) (hn:l.length≤1000) (hb:(rootL Z.now).length≤80000) (hpos:pos<9223372036854775808) (hnum:Z.S.num<1000000) (haf:Z.D.after<1) :
 Calls Tryz.prog 64 #[.pointer (some ⟨sp,0,none⟩),.int .i64 (pos:Int),lv] w fun e w'=>∃err:Int,e=.returned (.int .i64 err)∧Hid (ChgRes c w sp tp Z p0 l pos err w'):=by
 obtain⟨La,hLa⟩:∃La,La=rootL Z.now:=⟨_,rfl⟩
 have hblk:=h.blk
 rw[←hLa,zip] at hblk
 have k2:=z2k hblk 2 rfl
 have k3:=z2k hblk 3 rfl
 have k4:=z2k hblk 4 rfl
 have k5:=z2k hblk 5 rfl
 have k6:=z2k hblk 6 rfl
 have k7:=z2k hblk 7 rfl
 have k8:=z2k hblk 8 rfl
 have k9:=z2k hblk 9 rfl
 have k10:=z2k hblk 10 rfl
 have k11:=z2k hblk 11 rfl
 have k12:=z2k hblk 12 rfl
 have k13:=z2k hblk 13 rfl
 have k14:=z2k hblk 14 rfl
 have k15:=z2k hblk 15 rfl
 have k16:=z2k hblk 16 rfl
 have k17:=z2k hblk 17 rfl
 obtain⟨W1,hW1⟩:∃W1,W1=w.alloc (.cells #[.int .i64 (cntS 0 La:Int),.int .i64 (cntS 1 La:Int),.int .i64 (cntS 2 La:Int),.int .i64 (cntS 3 La:Int),.int .i64 (cntS 4 La:Int),.int .i64 (cntS 5 La:Int),.int .i64 (cntS 6 La:Int),.int .i64 (cntS 7 La:Int),.int .i64 (cntS 8 La:Int),.int .i64 (cntS 9 La:Int),.int .i64 (cntS 10 La:Int),.int .i64 (cntS 11 La:Int),.int .i64 (cntS 12 La:Int),.int .i64 (cntS 13 La:Int),.int .i64 (cntS 14 La:Int),.int .i64 (cntS 15 La:Int)] 89):=⟨_,rfl⟩
 have f1:Fr C0 w W1:=by rw[hW1];exact(Fr.refl C0 w).alloc _
 have hs1:=f1.size
 have HLAY:=zhd (zil (pos:=pos) (h.lay.fr0 f1) ((hl.fr0 f1).mono (fun b hb _=>⟨by omega,hb.2⟩) (fun b hb _=>⟨by omega,hb.2⟩)) hok hn hb hpos hnum)
 have HW1:=zhd hW1
 have HH:=zhd h
 clear hW1 hblk
 have HLA:=zhd hLa
 have C7:=zhd (heap_alloc_new w (.cells #[.int .i64 (cntS 0 La:Int),.int .i64 (cntS 1 La:Int),.int .i64 (cntS 2 La:Int),.int .i64 (cntS 3 La:Int),.int .i64 (cntS 4 La:Int),.int .i64 (cntS 5 La:Int),.int .i64 (cntS 6 La:Int),.int .i64 (cntS 7 La:Int),.int .i64 (cntS 8 La:Int),.int .i64 (cntS 9 La:Int),.int .i64 (cntS 10 La:Int),.int .i64 (cntS 11 La:Int),.int .i64 (cntS 12 La:Int),.int .i64 (cntS 13 La:Int),.int .i64 (cntS 14 La:Int),.int .i64 (cntS 15 La:Int)] 89))
 have hB7:Hid (W1.heap[w.heap.size]?=some (.cells #[.int .i64 (cntS 0 La:Int),.int .i64 (cntS 1 La:Int),.int .i64 (cntS 2 La:Int),.int .i64 (cntS 3 La:Int),.int .i64 (cntS 4 La:Int),.int .i64 (cntS 5 La:Int),.int .i64 (cntS 6 La:Int),.int .i64 (cntS 7 La:Int),.int .i64 (cntS 8 La:Int),.int .i64 (cntS 9 La:Int),.int .i64 (cntS 10 La:Int),.int .i64 (cntS 11 La:Int),.int .i64 (cntS 12 La:Int),.int .i64 (cntS 13 La:Int),.int .i64 (cntS 14 La:Int),.int .i64 (cntS 15 La:Int)] 89 (0,0))):=zhd (by rw[HW1.out];exact C7.out)
 have HOK:=zhd hok
 have F1:=zhd f1
 have HZ:=zhd (show Z.last=Z.now∧Z.back=[] from⟨hlast,hback⟩)
 clear C7 h hl hok hlast hback hLa f1
 go_enter Tryz.func64,Tryz.ntmps64
 go_wp2_with fail
 rw[←HW1.out]
 clear k2 k3 k4 k5 k6 k7 k8 k9 k10 k11 k12 k13 k14 k15 k16 k17
 refine HLAY.out.mono ?_
 rintro e w2 ⟨err,rfl,H2⟩
 have hsp:=(Array.getElem?_eq_some_iff.1 HH.out.blk).1
 have hcl:=HH.out.cl
 rcases H2.out with⟨rfl,⟨Lk,c1,hW⟩,hfull⟩|⟨c1,w3,hW,⟨rfl,o,g,-,-,hcm⟩|⟨rfl,c2,Z2,ag2,f2,l2,e1,e2,e3,e4,e5,e6,e7,e8⟩⟩
 · have f2:=hW.fr
   have hag:=hW.ag
   obtain⟨-,-,o,g,lay,ho⟩:=hW
   have k2:w2.heap[sp]?=some (.cells (LocCells tp p0 Lk) 91 (0,0)):=by
    have:=lay.blk
    rw[show rootL ({ Z with now:=o,gone:=g }:TSt).now=Lk from ho] at this
    exact this
   have K2:=zhd k2
   rw[zip] at k2
   have b7:=f2.blk hB7.out (fun e=>by
    have h0:c w.heap.size=0:=hcl _ (Nat.le_refl _)
    have e':c w.heap.size=1∨c w.heap.size=2∨c w.heap.size=3∨c w.heap.size=7:=e
    omega)
   have y2:=z2k k2 2 rfl
   have z2:=z2i 2 k2
   have x2:=z2k b7 0 rfl
   have y3:=z2k k2 3 rfl
   have z3:=z2i 3 k2
   have x3:=z2k b7 1 rfl
   have y4:=z2k k2 4 rfl
   have z4:=z2i 4 k2
   have x4:=z2k b7 2 rfl
   have y5:=z2k k2 5 rfl
   have z5:=z2i 5 k2
   have x5:=z2k b7 3 rfl
   have y6:=z2k k2 6 rfl
   have z6:=z2i 6 k2
   have x6:=z2k b7 4 rfl
   have y7:=z2k k2 7 rfl
   have z7:=z2i 7 k2
   have x7:=z2k b7 5 rfl
   have y8:=z2k k2 8 rfl
   have z8:=z2i 8 k2
   have x8:=z2k b7 6 rfl
   have y9:=z2k k2 9 rfl
   have z9:=z2i 9 k2
   have x9:=z2k b7 7 rfl
   have y10:=z2k k2 10 rfl
   have z10:=z2i 10 k2
   have x10:=z2k b7 8 rfl
   have y11:=z2k k2 11 rfl
   have z11:=z2i 11 k2
   have x11:=z2k b7 9 rfl
   have y12:=z2k k2 12 rfl
   have z12:=z2i 12 k2
   have x12:=z2k b7 10 rfl
   have y13:=z2k k2 13 rfl
   have z13:=z2i 13 k2
   have x13:=z2k b7 11 rfl
   have y14:=z2k k2 14 rfl
   have z14:=z2i 14 k2
   have x14:=z2k b7 12 rfl
   have y15:=z2k k2 15 rfl
   have z15:=z2i 15 k2
   have x15:=z2k b7 13 rfl
   have y16:=z2k k2 16 rfl
   have z16:=z2i 16 k2
   have x16:=z2k b7 14 rfl
   have y17:=z2k k2 17 rfl
   have z17:=z2i 17 k2
   have x17:=z2k b7 15 rfl
   have HT:=zhd lay.t
   have HOWN:=zhd lay.own
   have d0:=lay.c0
   have F2:=zhd f2
   have AG2:=zhd hag
   clear k2 b7 H2 hag f2 lay
   go_wp2_with fail
   obtain⟨F23,K3⟩:=ziq [.int .i64 (cntS 0 La:Int),.int .i64 (cntS 1 La:Int),.int .i64 (cntS 2 La:Int),.int .i64 (cntS 3 La:Int),.int .i64 (cntS 4 La:Int),.int .i64 (cntS 5 La:Int),.int .i64 (cntS 6 La:Int),.int .i64 (cntS 7 La:Int),.int .i64 (cntS 8 La:Int),.int .i64 (cntS 9 La:Int),.int .i64 (cntS 10 La:Int),.int .i64 (cntS 11 La:Int),.int .i64 (cntS 12 La:Int),.int .i64 (cntS 13 La:Int),.int .i64 (cntS 14 La:Int),.int .i64 (cntS 15 La:Int)] 2 w2 _ K2.out
   rw[zir] at K3
   change Calls Tryz.prog 92 #[.pointer (some ⟨tp,0,none⟩)] (putN w2 sp 2 [.int .i64 (cntS 0 La:Int),.int .i64 (cntS 1 La:Int),.int .i64 (cntS 2 La:Int),.int .i64 (cntS 3 La:Int),.int .i64 (cntS 4 La:Int),.int .i64 (cntS 5 La:Int),.int .i64 (cntS 6 La:Int),.int .i64 (cntS 7 La:Int),.int .i64 (cntS 8 La:Int),.int .i64 (cntS 9 La:Int),.int .i64 (cntS 10 La:Int),.int .i64 (cntS 11 La:Int),.int .i64 (cntS 12 La:Int),.int .i64 (cntS 13 La:Int),.int .i64 (cntS 14 La:Int),.int .i64 (cntS 15 La:Int)]) _
   have T3:=zis HT.out HOWN.out F23
   generalize putN w2 sp 2 [.int .i64 (cntS 0 La:Int),.int .i64 (cntS 1 La:Int),.int .i64 (cntS 2 La:Int),.int .i64 (cntS 3 La:Int),.int .i64 (cntS 4 La:Int),.int .i64 (cntS 5 La:Int),.int .i64 (cntS 6 La:Int),.int .i64 (cntS 7 La:Int),.int .i64 (cntS 8 La:Int),.int .i64 (cntS 9 La:Int),.int .i64 (cntS 10 La:Int),.int .i64 (cntS 11 La:Int),.int .i64 (cntS 12 La:Int),.int .i64 (cntS 13 La:Int),.int .i64 (cntS 14 La:Int),.int .i64 (cntS 15 La:Int)]=w3 at *
   have HR:=zhd (zel own1 T3)
   have HF23:=zhd F23
   have HK3:=zhd K3
   clear T3 F23 K3 y2 z2 x2 y3 z3 x3 y4 z4 x4 y5 z5 x5 y6 z6 x6 y7 z7 x7 y8 z8 x8 y9 z9 x9 y10 z10 x10 y11 z11 x11 y12 z12 x12 y13 z13 x13 y14 z14 x14 y15 z15 x15 y16 z16 x16 y17 z17 x17
   refine HR.out.mono ?_
   rintro e w4 ⟨rfl,f4,t4⟩
   have F4:=zhd f4
   have T4:=zhd t4
   clear f4 t4
   go_wp2_with fail
   go_ret
   have hs2:=F2.out.size
   have hs1:=F1.out.size
   have hagw:Ag w.heap.size c c1:=fun b hb=>AG2.out b (by omega)
   have hkb:=F4.out.blk HK3.out (fun e=>by
    have e':c1 sp=1:=e
    rw[HOWN.out] at e'
    cases e')
   refine⟨21,rfl,zhd ⟨c1,{ Z with now:=Z.last,gone:=[] },hagw,?_,rfl,rfl,rfl,rfl,rfl,haf,.inl ⟨rfl,⟨T4.out,?_,HOWN.out,?_⟩,?_,rfl,hfull⟩⟩⟩
   · have h12:Fr (OwnL c) w w2:=(F1.out.mono (C2:=OwnL c) (fun _ _ e=>e.elim)).trans F2.out (fun b hb e=>e)
     refine(h12.trans HF23.out (fun b hb e=>?_)).trans F4.out (fun b hb e=>?_)
     · have e2:b=sp:=e
       exact .inr (.inr (.inr (by rw[e2];exact HH.out.own)))
     · have e2:c1 b=1:=e
       exact .inl (by rw[←hagw b hb];exact e2)
   · show w4.heap[sp]?=some (.cells (LocCells tp p0 (rootL Z.last)) _ _)
     rw[HZ.out.1,←HLA.out]
     exact hkb
   · show LocOk (rootL Z.last) p0
     rw[HZ.out.1]
     exact HH.out.ok
   · show rootL Z.last=rootL Z.now
     rw[HZ.out.1]
 · obtain⟨-,h20⟩:=hcm
   rcases h20 with⟨e,-⟩|⟨-,hf⟩
   · cases e
   · exact absurd haf hf.1
 · have F2:=zhd f2
   go_wp2_with fail
   go_ret
   refine⟨0,rfl,zhd ⟨c2,Z2,fun b hb=>?_,?_,e2,by rw[e3,HZ.out.2],e4,e5,e7,e8 haf,.inr ⟨rfl,⟨l2.t,l2.blk,l2.own,?_⟩,e1,e6⟩⟩⟩
   · exact(ag2 b (by have:=hW.fr.size;have:=F1.out.size;omega)).trans (hW.ag b (by have:=F1.out.size;omega))
   · exact((F1.out.mono (C2:=OwnL c) (fun _ _ e=>e.elim)).trans hW.fr (fun b hb e=>e)).trans F2.out (fun b hb e=>by
      have h1:=hW.ag b (by have:=F1.out.size;omega)
      show c b=1∨c b=2∨c b=3∨c b=7
      rw[←h1]
      exact e)
   · rw[e1]
     exact zfz HH.out.ok HOK.out hpos
end
end Go.Proofs.YtidalepbkljkpaaGreat
namespace Go.H
open Go.RowKit
section
abbrev SKV:=Int×List UInt8×List UInt8
inductive PairCellsS (F:Nat→Prop) (w:World):List Value→List SKV→Prop
 |nil:PairCellsS F w [] []
 |cons {x:SKV} {kv vv:Value} {xs:List Value} {l:List SKV}:BytesAt F w kv x.2.1→BytesAt F w vv x.2.2→PairCellsS F w xs l→PairCellsS F w (.int .i64 x.1::kv::vv::xs) (x::l)
namespace PairCellsS
variable {F F' C : Nat → Prop} {w w' : World}
theorem fr (hf:Fr C w w') (hd:∀b,F b→¬C b):∀{xs:List Value} {l:List SKV},PairCellsS F w xs l→PairCellsS F w' xs l
 |_,_,.nil=>.nil
 |_,_,.cons h1 h2 h3=>.cons (h1.fr hf hd) (h2.fr hf hd) (fr hf hd h3)
theorem mono (hF:∀b,F b→b<w.heap.size→F' b):∀{xs:List Value} {l:List SKV},PairCellsS F w xs l→PairCellsS F' w xs l
 |_,_,.nil=>.nil
 |_,_,.cons h1 h2 h3=>.cons (h1.mono hF) (h2.mono hF) (mono hF h3)
theorem append {ys:List Value} {m:List SKV} (k:PairCellsS F w ys m):∀{xs:List Value} {l:List SKV},PairCellsS F w xs l→PairCellsS F w (xs++ys) (l++m)
 |_,_,.nil=>k
 |_,_,.cons h1 h2 h3=>.cons h1 h2 (append k h3)
theorem length:∀{xs:List Value} {l:List SKV},PairCellsS F w xs l→xs.length=l.length*3
 |_,_,.nil=>rfl
 |_,_,.cons h1 h2 h3=>by have:=length h3;simp only[List.length_cons];omega
theorem at_:∀{xs:List Value} {l:List SKV} (i:Nat) (hi:i<l.length),PairCellsS F w xs l→∃kv vv,xs[i*3]?=some (.int .i64 l[i].1)∧xs[i*3+1]?=some kv∧xs[i*3+2]?=some vv∧BytesAt F w kv l[i].2.1∧BytesAt F w vv l[i].2.2
 |_,_,i,hi,.nil=>by simp at hi
 |_,_,0,hi,.cons h1 h2 h3=>⟨_,_,rfl,rfl,rfl,h1,h2⟩
 | _, _, i + 1, hi, .cons h1 h2 h3 => by
   have:=at_ i (by simpa using hi) h3
   rw[show(i+1)*3=i*3+1+1+1 by omega]
   exact this
theorem one:∀{xs:List Value} {l:List SKV},PairCellsS F w xs l→∀u∈xs,u.oneCell'=true
 |_,_,.nil,u,hu=>by simp at hu
 | _, _, .cons h1 h2 h3, u, hu => by
   obtain⟨_,_,rfl,_⟩:=h1
   obtain⟨_,_,rfl,_⟩:=h2
   rcases List.mem_cons.1 hu with rfl|hu
   · rfl
   · rcases List.mem_cons.1 hu with rfl|hu
     · rfl
     · rcases List.mem_cons.1 hu with rfl|hu
       · rfl
       · exact one h3 u hu
end PairCellsS
def PairsS (F:Nat→Prop) (w:World) (v:Value) (L:List SKV):Prop:=∃xs,Row F w v L.length 3 xs∧PairCellsS F w xs L
theorem PairsS.fr {F C:Nat→Prop} {w w':World} {v:Value} {L:List SKV} (h:PairsS F w v L) (hf:Fr C w w') (hd:∀b,F b→¬C b):PairsS F w' v L:=by
 obtain⟨xs,a,b⟩:=h
 exact⟨xs,a.fr hf hd,b.fr hf hd⟩
theorem PairsS.fr0 {F:Nat→Prop} {w w':World} {v:Value} {L:List SKV} (h:PairsS F w v L) (hf:Fr C0 w w'):PairsS F w' v L:=h.fr hf (fun _ _ k=>k)
theorem PairsS.mono {F F':Nat→Prop} {w:World} {v:Value} {L:List SKV} (h:PairsS F w v L) (hF:∀b,F b→b<w.heap.size→F' b):PairsS F' w v L:=by
 obtain⟨xs,a,b⟩:=h
 exact⟨xs,a.mono hF,b.mono hF⟩
theorem PairsS.form {F:Nat→Prop} {w:World} {v:Value} {L:List SKV} (h:PairsS F w v L):∃A c,v=.slice A L.length c∧L.length≤c∧c≤maxLen:=by
 obtain⟨xs,a,b⟩:=h
 exact a.form
theorem PairsS.at_ {F:Nat→Prop} {w:World} {A:Option Addr} {cp:Nat} {L:List SKV} (h:PairsS F w (.slice A L.length cp) L) (i:Nat) (hi:i<L.length):∃g o kv vv,A=some ⟨g,o,none⟩∧w.cell? ⟨g,o+i*3,none⟩=some (.int .i64 L[i].1)∧w.cell? ⟨g,o+i*3+1,none⟩=some kv∧w.cell? ⟨g,o+i*3+2,none⟩=some vv∧BytesAt F w kv L[i].2.1∧BytesAt F w vv L[i].2.2:=by
 obtain⟨xs,a,b⟩:=h
 obtain⟨kv,vv,h0,h1,h2,h3,h4⟩:=b.at_ i hi
 obtain⟨g,o,rfl,_,hc⟩:=a.cells h0
 exact⟨g,o,kv,vv,rfl,hc _ _ h0,by rw[show o+i*3+1=o+(i*3+1) by omega];exact hc _ _ h1,by rw[show o+i*3+2=o+(i*3+2) by omega];exact hc _ _ h2,h3,h4⟩
end
end Go.H
namespace Go.Proofs.YtidalepbkljkpaaGreat
open Go.RowKit Go.H
set_option maxHeartbeats 2000000
set_option maxRecDepth 100000
section
theorem ziu {F G:Nat→Prop} {w:World} {u v:Value} {a:List SKV} (ha:PairsS F w u a) (hb:PairsS G w v a) :
 Calls Tryz.prog 18 #[u,v] w fun e w'=>e=.returned (.bool true)∧Fr C0 w w':=by
 have HA:=zhd ha
 have HB:=zhd hb
 obtain⟨A,ca,rfl,ha1,ha2⟩:=ha.form
 obtain⟨B,cb,rfl,hb1,hb2⟩:=hb.form
 clear ha hb
 unfold maxLen at ha2 hb2
 have hl1:((a.length:Int) != (a.length:Int))=false:=by simp
 go_enter Tryz.func18,Tryz.ntmps18
 go_wp2
 go_loopw [5] (fun i wr=>∃k:Nat,k≤a.length∧i=.int .i64 (k:Int)∧Fr C0 w wr) (fun i _=>a.length-(intOf i).toNat)
 case atStart=>exact⟨0,Nat.zero_le _,rfl,Fr.refl _ _⟩
 case round=>
  obtain⟨k,hk,rfl,hf⟩:=hrel
  have HF:=zhd hf
  clear hf
  by_cases hlt:k<a.length
  · obtain⟨ga,oa,kva,vva,rfl,a0,a1,a2,a3,a4⟩:=(HA.out.fr0 HF.out).at_ k hlt
    obtain⟨gb,ob,kvb,vvb,rfl,b0,b1,b2,b3,b4⟩:=(HB.out.fr0 HF.out).at_ k hlt
    obtain⟨x1,y1,sa3,sb3,E1⟩:=str2 a3 b3
    obtain⟨x2,y2,sa4,sb4,E2⟩:=str2 a4 b4
    obtain⟨_,_,rfl,-⟩:=a3.form
    obtain⟨_,_,rfl,-⟩:=a4.form
    obtain⟨_,_,rfl,-⟩:=b3.form
    obtain⟨_,_,rfl,-⟩:=b4.form
    clear a3 a4 b3 b4
    go_wp2_with fail
    have e1:=E1.out.trans (by simp:_=true)
    have e2:=E2.out.trans (by simp:_=true)
    refine z1z (Fr C0 wr) [] (by kernel_rfl) ?_
    have hSw0:(Fr C0 wr) _:=(Fr.refl C0 wr).drew
    refine tk 0 hSw0 ?_
    refine tk 1 hSw0 ?_
    refine tk 2 hSw0 ?_
    refine tk 3 hSw0 ?_
    refine tk 4 hSw0 ?_ (hy:=by intro w_ hS_;have c0:=hS_.cell0 a0;have c1:=hS_.cell0 a1;have c2:=hS_.cell0 a2;have d0:=hS_.cell0 b0;have d1:=hS_.cell0 b1;have d2:=hS_.cell0 b2;first|(go_simp;done)|(go_simp;with_reducible rfl))
    refine tk 5 hSw0 ?_
    refine tk 6 hSw0 ?_
    refine tk 7 hSw0 ?_
    refine tk 8 hSw0 ?_
    refine tk 9 hSw0 ?_ (hy:=by intro w_ hS_;have c0:=hS_.cell0 a0;have c1:=hS_.cell0 a1;have c2:=hS_.cell0 a2;have d0:=hS_.cell0 b0;have d1:=hS_.cell0 b1;have d2:=hS_.cell0 b2;first|(go_simp;done)|(go_simp;with_reducible rfl))
    refine tk 10 hSw0 ?_
    refine tk 11 hSw0 ?_
    refine tk 12 hSw0 ?_
    refine tk 13 hSw0 ?_
    refine tk 14 hSw0 ?_
    refine tk 15 hSw0 ?_
    refine tk 16 hSw0 ?_ (hy:=by intro w_ hS_;have c0:=hS_.cell0 a0;have c1:=hS_.cell0 a1;have c2:=hS_.cell0 a2;have d0:=hS_.cell0 b0;have d1:=hS_.cell0 b1;have d2:=hS_.cell0 b2;first|(go_simp;done)|(go_simp;with_reducible rfl))
    refine tk 17 hSw0 ?_ (hy:=by intro w_ hS_;have k3:=sa3.out _ hS_;have k4:=sa4.out _ hS_;have l3:=sb3.out _ hS_;have l4:=sb4.out _ hS_;first|(go_simp;done)|(go_simp;with_reducible rfl))
    refine tk 18 hSw0 ?_
    refine tk 19 hSw0 ?_
    refine tk 20 hSw0 ?_
    refine tk 21 hSw0 ?_
    refine tk 22 hSw0 ?_ (hy:=by intro w_ hS_;have c0:=hS_.cell0 a0;have c1:=hS_.cell0 a1;have c2:=hS_.cell0 a2;have d0:=hS_.cell0 b0;have d1:=hS_.cell0 b1;have d2:=hS_.cell0 b2;first|(go_simp;done)|(go_simp;with_reducible rfl))
    refine tk 23 hSw0 ?_ (hy:=by intro w_ hS_;have k3:=sa3.out _ hS_;have k4:=sa4.out _ hS_;have l3:=sb3.out _ hS_;have l4:=sb4.out _ hS_;first|(go_simp;done)|(go_simp;with_reducible rfl))
    refine tk 24 hSw0 ?_
    refine tk 25 hSw0 ?_
    refine tk 26 hSw0 ?_
    refine tk 27 hSw0 ?_
    refine tk 28 hSw0 ?_
    refine tk 29 hSw0 ?_
    refine tk 30 hSw0 ?_
    refine tk 31 hSw0 ?_ (hy:=by intro w_ hS_;have c0:=hS_.cell0 a0;have c1:=hS_.cell0 a1;have c2:=hS_.cell0 a2;have d0:=hS_.cell0 b0;have d1:=hS_.cell0 b1;have d2:=hS_.cell0 b2;first|(go_simp;done)|(go_simp;with_reducible rfl))
    refine tk 32 hSw0 ?_ (hy:=by intro w_ hS_;have k3:=sa3.out _ hS_;have k4:=sa4.out _ hS_;have l3:=sb3.out _ hS_;have l4:=sb4.out _ hS_;first|(go_simp;done)|(go_simp;with_reducible rfl))
    refine tk 33 hSw0 ?_
    refine tk 34 hSw0 ?_
    refine tk 35 hSw0 ?_
    refine tk 36 hSw0 ?_
    refine tk 37 hSw0 ?_ (hy:=by intro w_ hS_;have c0:=hS_.cell0 a0;have c1:=hS_.cell0 a1;have c2:=hS_.cell0 a2;have d0:=hS_.cell0 b0;have d1:=hS_.cell0 b1;have d2:=hS_.cell0 b2;first|(go_simp;done)|(go_simp;with_reducible rfl))
    refine tk 38 hSw0 ?_ (hy:=by intro w_ hS_;have k3:=sa3.out _ hS_;have k4:=sa4.out _ hS_;have l3:=sb3.out _ hS_;have l4:=sb4.out _ hS_;first|(go_simp;done)|(go_simp;with_reducible rfl))
    refine tk 39 hSw0 ?_
    refine tk 40 hSw0 ?_
    refine z1y (by kernel_rfl) ?_ _
    go_wp2
    go_roundw
    case rel=>exact⟨k+1,by omega,by go_num,HF.out.drew⟩
    case measure=>simp[intOf];omega
  · obtain rfl:k=a.length:=by omega
    go_wp2
    go_ret
    exact⟨rfl,HF.out⟩
end
end Go.Proofs.YtidalepbkljkpaaGreat
namespace Go.H
open Go.RowKit Go.Proofs Go.Shelf Go.Lib Go.Sort
section
section
variable {α : Type} [Inhabited α] {enc : α → List Value} {k : Nat}
end
end
end Go.H
namespace Go.Proofs.YtidalepbkljkpaaGreat
set_option maxRecDepth 100000
section
open Go.RowKit Go.H Go.Shelf Go.Sort
set_option maxHeartbeats 2000000
def laySP_ren : Go.Shelf.Ren := ⟨fun | 6 => 76 | 15 => 80 | 14 => 98 | 28 => 107 | 29 => 108 | 20 => 126 | 21 => 127 | 22 => 128 | 23 => 129 | 24 => 130 | 25 => 131 | 26 => 132 | 27 => 133 | 46 => 152 | 47 => 135 | 48 => 136 | 49 => 153 | 50 => 154 | 57 => 175 | n => n, fun | 22 => 29 | 24 => 42 | 25 => 142 | 3 => 3 | 39 => 146 | 0 => 0 | 53 => 182 | 55 => 61 | 4 => 4 | 46 => 176 | 45 => 175 | 50 => 93 | 5 => 5 | 9 => 9 | 66 => 211 | 70 => 215 | 76 => 238 | 77 => 153 | n => n, fun | n => n⟩
abbrev PrV (G:Nat→Prop) (w:World):={q:SKV×Value×Value // BytesAt G w q.2.1 q.1.2.1∧BytesAt G w q.2.2 q.1.2.2}
instance {G:Nat→Prop} {w:World}:Inhabited (PrV G w):=⟨⟨((0,[],[]),.slice none 0 0,.slice none 0 0),nilB,nilB⟩⟩
def encP {G:Nat→Prop} {w:World} (q:PrV G w):List Value:=[.int .i64 q.1.1.1,q.1.2.1,q.1.2.2]
def OutS (N:Nat) (w:World) (ov:Value) (M:List SKV):Prop:=∃ys,w.ownsRow N 42 3 ov M.length ys∧PairCellsS (fun b=>N≤b∧¬ov.ownBlock=some b) w ys M
end
section
open Go.RowKit Go.H
set_option maxHeartbeats 1000000
def spK (x:KV):SKV:=((((x.1.headD 0).toNat:Nat):Int),x.1.tail,x.2)
variable {w w' : World}
theorem ziv {α:Type} (ys zs:List α) (u v u' v':α):(((ys++u::v::zs).set ys.length u').set (ys.length+1) v')=ys++u'::v'::zs:=by
 rw[List.set_append_right _ _ (by omega)]
 simp
theorem ziw {N:Nat} {A:Option Addr} {cp:Nat} {xs:List Value} {L:List KV} (ho:w.ownsRow N 42 3 (.slice A L.length cp) L.length xs) (hc:PairCells (fun b=>N≤b∧¬(Value.slice A L.length cp).ownBlock=some b) w xs L) (hk:∀x∈L,2≤x.1.length) :
 Calls Tryz.prog 62 #[.slice A L.length cp] w fun e w'=>e=.returned (.slice A L.length cp)∧Hid (Fr (fun b=>(Value.slice A L.length cp).ownBlock=some b) w w'∧OutS N w' (.slice A L.length cp) (L.map spK)):=by
 have HO:=zhd ho
 have HC:=zhd hc
 have HK:=zhd hk
 obtain⟨A',c',e,hA⟩:=z0o ho
 injection e with e1 e2 e3
 subst e1 e3
 have HA:=zhd hA
 have hLm:L.length≤9223372036854775807:=by
  obtain⟨A',c',e,h1,h2⟩:=(Row.ofOwn ho (F:=fun _=>True) (fun _ _=>trivial)).form
  unfold maxLen at h2
  injection e with e1 e2 e3
  omega
 clear ho hc hk hA
 go_enter Tryz.func62,Tryz.ntmps62
 go_wp2_with fail
 go_loopw [6] (fun i wr=>∃k:Nat,k≤L.length∧i=.int .i64 (k:Int)∧Hid (Fr (fun b=>(Value.slice A L.length cp).ownBlock=some b) w wr)∧Hid (∃ys zs,wr.ownsRow N 42 3 (.slice A L.length cp) L.length (ys++zs)∧PairCellsS (fun b=>N≤b∧¬(Value.slice A L.length cp).ownBlock=some b) wr ys ((L.take k).map spK)∧PairCells (fun b=>N≤b∧¬(Value.slice A L.length cp).ownBlock=some b) wr zs (L.drop k))) (fun i _=>L.length-(intOf i).toNat)
 case atStart=>exact⟨0,Nat.zero_le _,rfl,zhd (Fr.refl _ _),zhd ⟨[],xs,HO.out,.nil,HC.out⟩⟩
 case round=>
  obtain⟨k,hk,rfl,HF,HR⟩:=hrel
  by_cases hlt:k<L.length
  · obtain⟨ys,zs,ho,hy,hz⟩:=HR.out
    have hyl:ys.length=k*3:=by
     have:=hy.length
     rw[List.length_map,List.length_take] at this
     omega
    have hdrop:L.drop k=L[k]::L.drop (k+1):=(List.getElem_cons_drop hlt).symm
    have htk:(L.take (k+1)).map spK=(L.take k).map spK++[spK L[k]]:=by rw[List.take_succ_eq_append_getElem hlt,List.map_append];rfl
    have hx2:=HK.out L[k] (List.getElem_mem hlt)
    rw[hdrop] at hz
    generalize L[k]=x at *
    cases hz with
    | @cons _ kv vv zs' _ hk1 hv1 hz' =>
      obtain⟨g,rfl⟩:∃g,A=some ⟨g,0,none⟩:=by
       cases A with
       | none =>
         rcases ho.2 with⟨e,h0⟩|⟨g,cap,cur,e,-⟩
         · omega
         · cases e
       |some a=>obtain⟨g,rfl⟩:=HA.out a rfl;exact⟨g,rfl⟩
      obtain⟨cur,hg⟩:∃cur,wr.heap[g]?=some (.cells cur 42 (0,0)):=by
       rcases ho.2 with⟨e,-⟩|⟨g',cap,cur,e,-,hg,-⟩
       · cases e
       · injection e with e
         injection e with e
         injection e with e
         subst e
         exact⟨cur,hg⟩
      have rc:∀(w_:World) (l:List Value) (j:Nat) (u:Value),w_.ownsRow N 42 3 (.slice (some ⟨g,0,none⟩) L.length cp) L.length l→l[j]?=some u→w_.cell? ⟨g,j,none⟩=some u:=fun w_ l j u h hj=>by
       have h1:=h.cells (g:=g) rfl j u hj
       rwa [show(⟨g,0,none⟩:Addr).add j=⟨g,j,none⟩ from by unfold Addr.add;split<;>simp_all] at h1
      have e0:(ys++.int .i64 0::kv::vv::zs')[k*3]?=some (.int .i64 0):=by rw[←hyl];simp
      have e1:(ys++.int .i64 0::kv::vv::zs')[k*3+1]?=some kv:=by rw[←hyl,List.getElem?_append_right (by omega)];simp
      have t0:=rc _ _ _ _ ho e0
      have t1:=rc _ _ _ _ ho e1
      have z0:=z2i (k*3) hg
      have z1:=z2i (k*3+1) hg
      have hx1:x.1≠[]:=fun e=>by rw[e] at hx2;simp at hx2
      have HK1:=zhd hk1
      obtain⟨Ak,ck,rfl,hkc,hkm,hkb⟩:=hk1
      obtain⟨g',o',rfl,hg',hcell⟩:=hkb hx1
      obtain⟨sb,hsb⟩:∃sb,sb=(x.1.headD 0).toNat:=⟨_,rfl⟩
      have b0:wr.cell? ⟨g',o',none⟩=some (.int .u8 (sb:Int)):=by
       have:=hcell 0 (by omega)
       rw[Nat.add_zero] at this
       rw[this,hsb]
       have hh:x.1[0]'(by omega)=x.1.headD 0:=by
        obtain⟨k0,v0⟩:=x
        cases k0 with
        |nil=>exact absurd rfl hx1
        |cons a r=>rfl
       rw[hh]
       rfl
      have hb255:(sb:Int)<256:=by have:=(x.1.headD 0).toNat_lt;omega
      have hw64:wrap64 (sb:Int)=(sb:Int):=by unfold wrap64;omega
      have HSB:Hid (spK x=((sb:Int),x.1.tail,x.2)):=zhd (by unfold spK;rw[hsb])
      obtain⟨W1,hW1⟩:∃W1,W1=wr.setCell ⟨g,k*3,none⟩ (.int .i64 (sb:Int)):=⟨_,rfl⟩
      have ho1:W1.ownsRow N 42 3 (.slice (some ⟨g,0,none⟩) L.length cp) L.length ((ys++.int .i64 0::.slice (some ⟨g',o',none⟩) x.1.length ck::vv::zs').set (k*3) (.int .i64 (sb:Int))):=by rw[hW1];exact z8l ho (by simp;omega)
      have hg1:W1.heap[g]?=some (.cells (cur.setIfInBounds (k*3) (.int .i64 (sb:Int))) 42 (0,0)):=by rw[hW1];exact z2j hg _
      have f1:Fr (fun b=>b=g) wr W1:=by rw[hW1];exact(Fr.refl (fun b=>b=g) wr).setCell (p:=⟨g,k*3,none⟩) (.inr rfl) _
      have s1:=rc _ _ (k*3+1) (.slice (some ⟨g',o',none⟩) x.1.length ck) ho1 (by rw[←hyl,List.getElem?_set_ne (by omega),List.getElem?_append_right (by omega)];simp)
      have s2:=z2i (k*3+1) hg1
      have hne1:¬ck=1:=by omega
      have hn1:(1:Int)≤(x.1.length:Int):=by omega
      have hn2:(x.1.length:Int)≤(ck:Int):=by omega
      have H1:=zhd hv1
      have HZ:=zhd hz'
      have HO1:=zhd ho1
      have F1:=zhd f1
      have HY:=zhd hy
      have HDR:=zhd hdrop
      have HTK:=zhd htk
      rw[hW1] at s1 s2
      have HW1:=zhd hW1
      clear hsb hz' hv1 hcell ho1 hg1 f1 hy hdrop htk rc ho hg hW1 HR HO HC e0 e1
      go_wp2_with fail
      go_roundw
      case rel=>
       rw[←HW1.out]
       have hF:∀b,(N≤b∧¬(Value.slice (some ⟨g,0,none⟩) L.length cp).ownBlock=some b)→¬b=g:=fun b hb e=>hb.2 (by rw[e];rfl)
       have f2:=F1.out.setCell (p:=⟨g,k*3+1,none⟩) (.inr rfl) (.slice (some ⟨g',o'+1,none⟩) (x.1.length-1) (ck-1))
       have ho2:=z8l (j:=k*3+1) (u:=.slice (some ⟨g',o'+1,none⟩) (x.1.length-1) (ck-1)) HO1.out (by simp;omega)
       have hset:=ziv ys (vv::zs') (.int .i64 0) (.slice (some ⟨g',o',none⟩) x.1.length ck) (.int .i64 (sb:Int)) (.slice (some ⟨g',o'+1,none⟩) (x.1.length-1) (ck-1))
       rw[hyl] at hset
       rw[hset] at ho2
       have hdk:=HK1.out.drop (i:=1) (by omega)
       rw[if_neg (by omega),List.drop_one] at hdk
       refine⟨k+1,by omega,by go_num,zhd (HF.out.trans f2 (fun b hb e=>by rw[show b=g from e];rfl)),zhd ⟨ys++[.int .i64 (sb:Int),.slice (some ⟨g',o'+1,none⟩) (x.1.length-1) (ck-1),vv],zs',by rw[List.append_assoc];exact ho2,?_,HZ.out.fr f2 hF⟩⟩
       rw[HTK.out,HSB.out]
       exact PairCellsS.append (.cons (x:=((sb:Int),x.1.tail,x.2)) (hdk.fr f2 hF) (H1.out.fr f2 hF) .nil) (HY.out.fr f2 hF)
      case measure=>simp[intOf];omega
  · obtain rfl:k=L.length:=by omega
    obtain⟨ys,zs,ho,hy,hz⟩:=HR.out
    rw[List.drop_length] at hz
    rw[List.take_length] at hy
    cases hz
    rw[List.append_nil] at ho
    have HO2:=zhd ho
    have HY:=zhd hy
    clear ho hy HR HO HC
    go_wp2_with fail
    go_ret
    exact⟨rfl,zhd ⟨HF.out,ys,by rw[List.length_map];exact HO2.out,HY.out⟩⟩
end
end Go.Proofs.YtidalepbkljkpaaGreat
