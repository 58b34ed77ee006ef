import Derived.Test.YtcmicdcikechkaaGreatSnaps46
import Derived.Test.YtcmicdcikechkaaGreatSnaps05
import Derived.Test.YtcmicdcikechkaaGreatSnaps37
set_option linter.all false
namespace Go.Proofs.YtcmicdcikechkaaGreat
set_option maxRecDepth 100000
section
open Go.RowKit Go.H
set_option maxHeartbeats 1000000
theorem zi3 {c c':Nat→Nat} {r rn rm:Nat} {w w':World} {v:Value} {L:List KV} (ho:Owners r rn rm) (h:PairsAt (Dt c) w v L) (hf:Fr (fun b=>c b=r∨c b=rn∨c b=rm) w w') (ha:Ag w.heap.size c c'):PairsAt (Dt c') w' v L:=
 ((h.mono (F':=fun b=>c b=0∧b<w.heap.size) (fun b hb hl=>⟨hb,hl⟩)).fr hf (fun b hb e=>by rcases e with e|e|e;exact ho.r0 (e.symm.trans hb.1);exact ho.n0 (e.symm.trans hb.1);exact ho.m0 (e.symm.trans hb.1))).mono (fun b hb _=>(ha b hb.2).trans hb.1)
theorem zi4 {r:Nat} (h:1≤r):Owners r (r+1) (r+2):=⟨by omega,by omega,by omega,by omega,by omega,by omega⟩
theorem zi5:Owners 1 2 3:=zi4 (by omega)
theorem no123':∀b:Nat,(fun _=>0:Nat→Nat) b≠1∧(fun _=>0:Nat→Nat) b≠2∧(fun _=>0:Nat→Nat) b≠3:=fun b=>by simp
structure FitsR (pn d N k:Nat) (Z:TSt):Prop where
 num:Z.S.num=N
 now:(rootL Z.now).length≤k
 last:(rootL Z.last).length≤k
 pages:Z.S.pages=pn
 dk:Z.S.dk=d
 nk:N≤k
 af:Z.D.after<1
 bk:Z.back=[]
structure At1 (w0:World) (pn r d tp:Nat) (La Ll:List KV) (N k:Nat) (c:Nat→Nat) (w:World):Prop where
 ex:∃Z,Stg (fun _=>0) w0 r (r+1) (r+2) c w tp Z 0∧rootL Z.now=La∧rootL Z.last=Ll∧FitsR pn d N k Z
abbrev OwnR (r:Nat) (c:Nat→Nat):Nat→Prop:=fun b=>c b=r∨c b=r+1∨c b=r+2
variable {w0 w w' : World} {pn r d tp N k : Nat} {La Ll : List KV} {c c' : Nat → Nat}
theorem zi6 {n:Nat} (hr:1≤r) (h1:3≤n) (h2:n≤4096) (hf:Fr C0 w0 w) (ha:Ag w0.heap.size (fun _=>0) c) (hc:Cl w c) :
 Calls Tryz.prog 8 #[.int .i64 (n:Int)] w fun e w'=>∃tp,e=.returned (.tuple #[.pointer (some ⟨w.heap.size+1,0,none⟩),.pointer (some ⟨tp,0,none⟩)])∧Hid (Fr C0 w w'∧∃c',Ag w.heap.size c c'∧At1 w0 (n-2) r (w.heap.size+1) tp [] [] 0 0 c' w'):=by
 refine(zff (zi4 hr) hc h1 h2).mono ?_
 rintro e w' ⟨tp,rfl,f,c',ag,t⟩
 have hs:=hf.size
 exact⟨tp,rfl,zhd ⟨f,c',ag,_,⟨hf.trans0 f,fun b hb=>(ag b (by omega)).trans (ha b hb),t⟩,rfl,rfl,rfl,Nat.le_refl _,Nat.le_refl _,rfl,rfl,Nat.le_refl _,by show(0:Int)<1;omega,rfl⟩⟩
structure Off1 (w0:World) (pn r d:Nat) (X:Prop) (dn:Bool) (Ll:List KV) (N k:Nat) (c:Nat→Nat) (w:World):Prop where
 fr:Fr C0 w0 w
 ag:Ag w0.heap.size (fun _=>0) c
 ex:∃m ov D o,LooseIn c r (r+1) w d m ov D X N o∧D.down=dn∧D.blocks=pn+2∧rootL o=Ll∧N≤k∧Ll.length≤k
end
section
open Go.RowKit Go.H
set_option maxHeartbeats 2000000
structure FitsQ (pn d N k:Nat) (Z:TSt):Prop where
 num:Z.S.num=N
 last:(rootL Z.last).length≤k
 pages:Z.S.pages=pn
 dk:Z.S.dk=d
 nk:N≤k
 af:Z.D.after<1
end
section
open Go.RowKit Go.H Go.ChangeShapes Go.WideShapes Go.ChangeAt Go.Deep
set_option maxHeartbeats 1000000
structure ActV where
 kind:Int
 n:Int
 key:Bs
 value:Bs
 after:Int
 keep:Int
 torn:Int
 cut:Int
instance:Inhabited ActV:=⟨⟨0,0,[],[],0,0,0,0⟩⟩
structure ActAt (w:World) (g o:Nat) (kv vv:Value) (x:ActV):Prop where
 c0:w.cell? ⟨g,o,none⟩=some (.int .i64 x.kind)
 c1:w.cell? ⟨g,o+1,none⟩=some (.int .i64 x.n)
 c2:w.cell? ⟨g,o+2,none⟩=some kv
 c3:w.cell? ⟨g,o+3,none⟩=some vv
 c4:w.cell? ⟨g,o+4,none⟩=some (.int .i64 x.after)
 c5:w.cell? ⟨g,o+5,none⟩=some (.int .u64 x.keep)
 c6:w.cell? ⟨g,o+6,none⟩=some (.int .i64 x.torn)
 c7:w.cell? ⟨g,o+7,none⟩=some (.int .i64 x.cut)
 key:BytesAt (fun _=>True) w kv x.key
 value:BytesAt (fun _=>True) w vv x.value
 kw:-9223372036854775808≤x.kind∧x.kind≤9223372036854775807
 nw:-9223372036854775808≤x.n∧x.n≤9223372036854775807
def ActsAt (w:World) (v:Value) (l:List ActV):Prop:=∃A c,v=.slice A l.length c∧l.length≤c∧c≤maxLen∧∀(i:Nat) (h:i<l.length),∃g o kv vv,A=some ⟨g,o,none⟩∧ActAt w g (o+i*8) kv vv l[i]
section
variable {H : Type} {enc : TypeId × Value → H} {w : World} {base : Nat}
end
end
section
open Go.RowKit Go.H
set_option maxHeartbeats 1000000
def putW (x v:Bs) (l:List KV):List KV:=if wrong x v=0 then putL (x,v) l else l
def delW (x:Bs) (l:List KV):List KV:=if wrong x []=0 then delL x l else l
structure TwA (w0:World) (r r' d d' tp tp':Nat) (L Ll L' Ll':List KV) (N N' k:Nat) (c:Nat→Nat) (w:World):Prop where
 a:At1 w0 698 r d tp L Ll N k c w
 b:At1 w0 698 r' d' tp' L' Ll' N' k c w
variable {w0 w w' : World} {r r' d d' tp tp' N N' k : Nat} {L Ll L' Ll' : List KV} {c c' : Nat → Nat}
structure StepA (r:Nat) (c:Nat→Nat) (w:World) (c':Nat→Nat) (w':World):Prop where
 fr:Fr (OwnR r c) w w'
 ag:Ag w.heap.size c c'
def DBlk (c:Nat→Nat) (w:World) (b:Nat) (o:Obj):Prop:=w.heap[b]?=some o∧c b=0
end
end Go.Proofs.YtcmicdcikechkaaGreat
