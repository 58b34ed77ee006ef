import Derived.Test.YtidalepbkljkpaaGreatDraftSame12
import Derived.Test.YtidalepbkljkpaaGreatDraftSame05
import Derived.Test.YtidalepbkljkpaaGreatDraftSame07
import Derived.Test.YtidalepbkljkpaaGreatDraftSame09
import Derived.Deep.CutRange
import Derived.Deep.CutBlock
import Derived.Deep.DeepCutAuto
set_option linter.all false
namespace Go.Proofs.YtidalepbkljkpaaGreat
open Go.RowKit Go.H
set_option maxRecDepth 100000
section
set_option maxHeartbeats 2000000
end
section
set_option maxHeartbeats 1000000
def openStep (acc:Int×Nat×Nat) (i:Nat) (h:(Nat×Nat)×Bool):Int×Nat×Nat:=
 if h.2=true∧(acc.1<0∨acc.2.1<h.1.1) then((i:Int),h.1) else acc
def openAcc (f:Nat→(Nat×Nat)×Bool):Nat→Int×Nat×Nat
 |0=>(-1,0,0)
 |k+1=>openStep (openAcc f k) k (f k)
def openF (f:Nat→(Nat×Nat)×Bool):Option (Nat×Nat):=
 if (openAcc f 2).1<0 then none else if (openAcc f 2).2.1≠0∧(((openAcc f 2).2.1 % 2:Nat):Int)≠(openAcc f 2).1 then none else some (openAcc f 2).2
theorem z6v (f:Nat→(Nat×Nat)×Bool):∀k,-1≤(openAcc f k).1∧(openAcc f k).1<k
 |0=>by simp[openAcc]
 | k + 1 => by
   have ih:=z6v f k
   simp only[openAcc,openStep]
   split
   · simp;omega
   · omega
def headsOf (D:DSt) (k:Nat):(Nat×Nat)×Bool:=readHeadF (D.read k) D.blocks
theorem z6w {n root blocks:Nat} (hn:n≠0) (hn2:n≤4611686018427387904) (hr:root≠1) (hr2:root<blocks) (hb:blocks≤5002):readHeadF (padB (headB n root)) blocks=((n,root),true):=by
 have hp:padB (headB n root)=headB n root++List.replicate 8172 0:=by rw[padB,z32]
 have hz:zeroB (padB (headB n root))=false:=by
  unfold zeroB
  rw[decide_eq_false]
  intro h
  have h2:=congrArg (fun l=>l[0]?) h
  rw[hp] at h2
  simp[headB,List.getElem?_append,List.getElem?_replicate,z10] at h2
 have e8:(bigB n 8).length=8:=z10 _ _
 have e4:(bigB root 4).length=4:=z10 _ _
 have e5:(bigB (n % 4294967296) 4).length=4:=z10 _ _
 have hd4:(padB (headB n root)).drop 4=bigB n 8++(bigB root 4++(bigB (n % 4294967296) 4++List.replicate 8172 0)):=by
  rw[hp];simp[headB]
 have hd12:(padB (headB n root)).drop 12=bigB root 4++(bigB (n % 4294967296) 4++List.replicate 8172 0):=by
  rw[show 12=4+8 from rfl,←List.drop_drop,hd4,List.drop_append_of_le_length (by omega),List.drop_of_length_le (by omega)];rfl
 have h1:smallN (((padB (headB n root)).drop 4).take 8)=n:=by
  rw[hd4,List.take_append_of_le_length (by omega),List.take_of_length_le (by omega),z13]
  exact Nat.mod_eq_of_lt (by omega)
 have h2:smallN (((padB (headB n root)).drop 12).take 4)=root:=by
  rw[hd12,List.take_append_of_le_length (by omega),List.take_of_length_le (by omega),z13]
  exact Nat.mod_eq_of_lt (by omega)
 have ht:(padB (headB n root)).take 20=headB n root:=by
  rw[hp,List.take_append_of_le_length (by rw[z32];omega),List.take_of_length_le (by rw[z32];omega)]
 have hd:zeroB ((padB (headB n root)).drop 20)=true:=by
  rw[hp,List.drop_append_of_le_length (by rw[z32];omega),List.drop_of_length_le (by rw[z32];omega)]
  unfold zeroB
  rw[List.nil_append,List.length_replicate];simp
 have ho:headOf (padB (headB n root))=(n,root):=by unfold headOf;rw[h1,h2]
 unfold readHeadF
 rw[hz]
 simp only[Bool.false_eq_true,if_false,ho]
 congr 1
 unfold headFine
 rw[ho,ht,hd]
 simp[hn,hn2,hr,hr2]
end
section
set_option maxHeartbeats 1000000
def mix {α:Type} (n:Nat) (x y:List α):List α:=x.take n++y.drop n
theorem z6x {α:Type} {n:Nat} {x y:List α} (h:x.length=y.length) (i:Nat):(mix n x y)[i]?=if i<n then x[i]? else y[i]?:=by
 unfold mix
 by_cases hi:i<n
 · rw[if_pos hi]
   by_cases hx:i<x.length
   · rw[List.getElem?_append_left (by simp;omega),List.getElem?_take_of_lt hi]
   · rw[List.getElem?_eq_none (l:=x) (by omega),List.getElem?_eq_none (by simp;omega)]
 · rw[if_neg hi]
   by_cases hx:n≤x.length
   · rw[List.getElem?_append_right (by simp;omega),List.length_take,List.getElem?_drop]
     congr 1;omega
   · rw[List.getElem?_eq_none (l:=y) (by omega),List.getElem?_eq_none (by simp;omega)]
def fld {α:Type} (k n:Nat) (l:List α):List α:=(l.drop k).take n
theorem z6y {n root:Nat} (hn:n<4294967296) (l:Bs):fld 4 8 (headB n root++l)=bigB n 8∧fld 16 4 (headB n root++l)=bigB n 4:=by
 have e8:(bigB n 8).length=8:=z10 _ _
 have e4:(bigB root 4).length=4:=z10 _ _
 have e5:(bigB n 4).length=4:=z10 _ _
 have hh:headB n root++l=[104,101,97,100]++(bigB n 8++(bigB root 4++(bigB n 4++l))):=by
  simp only[headB,Nat.mod_eq_of_lt hn,List.append_assoc]
 constructor
 · unfold fld
   rw[hh,List.drop_append_of_le_length (by simp),List.drop_of_length_le (by simp),List.nil_append,List.take_append_of_le_length (by omega),List.take_of_length_le (by omega)]
 · unfold fld
   rw[hh,show 16=4+(8+4) from rfl,←List.drop_drop,List.drop_append_of_le_length (by simp),List.drop_of_length_le (l:=[104,101,97,100]) (by simp),List.nil_append,←List.drop_drop,List.drop_append_of_le_length (by omega),List.drop_of_length_le (l:=bigB n 8) (by omega),List.nil_append,List.drop_append_of_le_length (by omega),List.drop_of_length_le (l:=bigB root 4) (by omega),List.nil_append,List.take_append_of_le_length (by omega),List.take_of_length_le (by omega)]
def Stale (num:Nat) (b:Bs):Prop:=b.length=8192∧b.drop 20=List.replicate 8172 0∧∃N O,N≤19∧O≤num∧(O<num∨num=0)∧O % 256≠(num+1) % 256∧fld 4 8 b=mix (N-4) (bigB (num+1) 8) (bigB O 8)∧fld 16 4 b=mix (N-16) (bigB (num+1) 4) (bigB O 4)
theorem z6z {u v n:Nat} (hu:u<256 ^ n) (hv:v<256 ^ n) (h:bigB u n=bigB v n):u=v:=by
 have h1:=congrArg smallN h
 rwa [z13,z13,Nat.mod_eq_of_lt hu,Nat.mod_eq_of_lt hv] at h1
theorem z71 (u:Nat):∀n,(bigB u (n+1))[n]?=some (UInt8.ofNat u)
 |0=>by simp[bigB]
 | n + 1 => by
   have ih:=z71 u n
   show(UInt8.ofNat (u / 256 ^ (n+1))::bigB u (n+1))[n+1]?=_
   rw[List.getElem?_cons_succ];exact ih
theorem z72 (u:Nat) (n:Nat):∀k,(bigB u (k+n)).take k=bigB (u / 256 ^ n) k
 |0=>rfl
 | k + 1 => by
   have ih:=z72 u n k
   rw[show k+1+n=(k+n)+1 by omega]
   simp only[bigB,List.take_succ_cons]
   rw[ih,Nat.div_div_eq_div_mul,←Nat.pow_add]
   congr 3
   rw[Nat.add_comm]
theorem z73 {a b:Nat} (h:a % 256≠b % 256):UInt8.ofNat a≠UInt8.ofNat b:=fun e=>h (by
 have:=congrArg UInt8.toNat e
 simpa using this)
theorem z74 {num blocks:Nat} {b:Bs} (h:Stale num b) (hn:num<1000001):(readHeadF b blocks).2=true→((readHeadF b blocks).1.1<num∨num=0∧(readHeadF b blocks).1=(0,0)):=by
 obtain⟨h1,h2,N,O,hN,hO,hO2,hO3,f1,f2⟩:=h
 unfold readHeadF
 by_cases hz:zeroB b=true
 · rw[if_pos hz]
   intro _
   by_cases h0:num=0
   · exact .inr ⟨h0,rfl⟩
   · exact .inl (by show 0<num;omega)
 · rw[if_neg hz]
   intro hf
   simp only[] at hf⊢
   unfold headFine at hf
   simp only[Bool.and_eq_true,Bool.or_eq_true,decide_eq_true_eq] at hf
   obtain⟨⟨⟨⟨⟨t1,t2⟩,t3⟩,t4⟩,t5⟩,t6⟩:=hf
   obtain⟨y,hy⟩:∃y,y=(headOf b).2:=⟨_,rfl⟩
   rw[←hy] at t1 t4 t5 t6
   obtain⟨x,hx⟩:∃x,x=(headOf b).1:=⟨_,rfl⟩
   rw[←hx] at t1 t3 t6⊢
   have hb:b=headB x y++b.drop 20:=by
    conv=>lhs;rw[←List.take_append_drop 20 b]
    rw[t1]
   have g1:fld 4 8 b=bigB x 8:=by
    have e8:(bigB x 8).length=8:=z10 _ _
    rw[hb]
    unfold fld
    rw[show headB x y=[104,101,97,100]++(bigB x 8++(bigB y 4++bigB (x % 4294967296) 4)) by simp only[headB,List.append_assoc],List.append_assoc,List.drop_append_of_le_length (by simp),List.drop_of_length_le (by simp),List.nil_append,List.append_assoc,List.take_append_of_le_length (by omega),List.take_of_length_le (by omega)]
   have hx32:x<4294967296:=by
    have h5:(bigB x 8).take 4=bigB 0 4:=by
     rw[←g1,f1]
     refine List.ext_getElem? fun i=>?_
     by_cases hi:i<4
     · rw[List.getElem?_take_of_lt hi,z6x (by rw[z10,z10])]
       have hq:∀q:Nat,q<4294967296→(bigB q 8)[i]?=(bigB 0 4)[i]?:=fun q hq=>by
        have:=z72 q 4 4
        rw[Nat.div_eq_of_lt (by omega)] at this
        rw[←this,List.getElem?_take_of_lt hi]
       split
       · exact hq _ (by omega)
       · exact hq _ (by omega)
     · rw[List.getElem?_eq_none (by simp;omega),List.getElem?_eq_none (by rw[z10];omega)]
    rw[z72 x 4 4] at h5
    have h6:=z6z (n:=4) (by have:x / 256 ^ 4<256 ^ 4:=(by omega);exact this) (by decide) h5
    omega
   have g2:fld 16 4 b=bigB x 4:=by rw[hb];exact(z6y hx32 _).2
   by_cases h16:N≤16
   · have h7:bigB x 4=bigB O 4:=by
      rw[←g2,f2,show N-16=0 by omega]
      rfl
     have h8:=z6z (n:=4) (by omega) (by omega) h7
     rcases hO2 with hO2|hO2
     · exact .inl (by omega)
     · refine .inr ⟨hO2,?_⟩
       have:x=0:=by omega
       rcases t6 with t6|t6
       · exact absurd this t6
       · exact Prod.ext (hx.symm.trans this) (hy.symm.trans t6)
   · exfalso
     have h7:bigB x 8=bigB (num+1) 8:=by
      rw[←g1,f1]
      unfold mix
      rw[List.take_of_length_le (by rw[z10];omega),List.drop_of_length_le (by rw[z10];omega),List.append_nil]
     have h8:=z6z (n:=8) (by omega) (by omega) h7
     have h9:(bigB x 4)[3]?=(bigB O 4)[3]?:=by
      rw[←g2,f2,z6x (by rw[z10,z10]),if_neg (by omega)]
     rw[z71 x 3,z71 O 3] at h9
     injection h9 with h9
     exact z73 (by rw[h8];exact fun e=>hO3 e.symm) h9
theorem z75:∀n,bigB 0 n=List.replicate n 0
 |0=>rfl
 |n+1=>by simp only[bigB,Nat.zero_div,List.replicate_succ,z75 n];rfl
theorem z78 {num:Nat} (hn:num<1000000) (h0:num=0∨num=1):Stale num (List.replicate 8192 0):=by
 have hf:∀k n,k+n≤8192→fld k n (List.replicate 8192 (0:UInt8))=bigB 0 n:=fun k n h=>by
  rw[z75]
  unfold fld
  rw[List.drop_replicate,List.take_replicate]
  congr 1;omega
 exact⟨List.length_replicate,by rw[List.drop_replicate],0,0,by omega,by omega,by omega,by omega,by rw[hf 4 8 (by omega)];rfl,by rw[hf 16 4 (by omega)];rfl⟩
def HeadsOk (rd:Nat→Bs) (num root:Nat):Prop:=(if num=0 then root=0∧rd 0=List.replicate 8192 0 else rd (num % 2)=padB (headB num root))∧Stale num (rd ((num+1) % 2))
theorem z79 (blocks:Nat):readHeadF (List.replicate 8192 0) blocks=((0,0),true):=by
 unfold readHeadF
 rw[if_pos]
 unfold zeroB
 rw[decide_eq_true]
 rw[List.length_replicate]
theorem z7a {rd:Nat→Bs} {num root blocks:Nat} (h:HeadsOk rd num root) (hn:num<1000001) (hr:root≠1) (hr2:root<blocks) (hb:blocks≤5002):openF (fun k=>readHeadF (rd k) blocks)=some (num,root):=by
 obtain⟨h1,h2⟩:=h
 have h3:=z74 (blocks:=blocks) h2 hn
 obtain⟨⟨⟨a,q⟩,o⟩,e⟩:∃x,x=readHeadF (rd ((num+1) % 2)) blocks:=⟨_,rfl⟩
 rw[←e] at h3
 simp only[Prod.mk.injEq] at h3
 by_cases h0:num=0
 · subst h0
   rw[if_pos rfl] at h1
   obtain⟨rfl,h1⟩:=h1
   have e0:readHeadF (rd 0) blocks=((0,0),true):=by rw[h1];exact z79 _
   have e1:readHeadF (rd 1) blocks=((a,q),o):=e.symm
   unfold openF
   simp only[openAcc,openStep,e0,e1]
   cases o
   · simp
   · have:=h3 rfl
     have:a=0:=by omega
     subst this
     simp
 · rw[if_neg h0] at h1
   have em:readHeadF (rd (num % 2)) blocks=((num,root),true):=by rw[h1];exact z6w h0 (by omega) hr hr2 hb
   have hlt:o=true→a<num:=fun ho=>by have:=h3 ho;omega
   rcases Nat.mod_two_eq_zero_or_one num with hm|hm
   · have hm2:(num+1) % 2=1:=by omega
     rw[hm] at em
     rw[hm2] at e
     unfold openF
     simp only[openAcc,openStep,em,←e]
     cases o
     · simp;omega
     · have:=hlt rfl
       have h5:¬num<a:=by omega
       simp[h5];omega
   · have hm2:(num+1) % 2=0:=by omega
     rw[hm] at em
     rw[hm2] at e
     unfold openF
     simp only[openAcc,openStep,em,←e]
     cases o
     · simp;omega
     · have:=hlt rfl
       simp[this];omega
theorem z7b {D:DSt} (h:∀k,D.read k=List.replicate 8192 0):HeadsOk D.read 0 0:=⟨by rw[if_pos rfl];exact⟨rfl,h 0⟩,by rw[h];exact z78 (by omega) (.inl rfl)⟩
end
section
set_option maxHeartbeats 2000000
structure TSt where
 S:SSt
 D:DSt
 now:Root
 last:Root
 gone:List Nat
 live:List Nat
 held:List Nat
 back:List Nat:=[]
 kept:List Nat:=[]
 snaps:List SnapS:=[]
def rootPage:Root→Prop
 |none=>True
 |some (_,t)=>t.isPage
def rootId:Root→Nat
 |none=>0
 |some (_,t)=>t.id
structure SnapOk (live kept:List Nat) (s:SnapS):Prop where
 nd:s.pages.Nodup
 sub:∀x∈s.pages,x∈live∨x∈kept
 cnt:∀id,rcnt (.pg id) s.root=if id∈s.pages then 1 else 0
 page:rootPage s.root
 so:Sorted (rootL s.root)
 ln:(rootL s.root).length≤90000
structure KeptB (live kept back:List Nat) (snaps:List SnapS):Prop where
 lk:∀x∈live,x∉kept∧x∉back
 kb:∀x∈kept,x∉back
 kn:kept.Nodup
 ok:∀s∈snaps,SnapOk live kept s
 kw:∀x∈kept,∃s∈snaps,x∈s.pages
 sd:(snaps.map SnapS.sp).Nodup
theorem KeptB.nil (live:List Nat):KeptB live [] [] []:=⟨fun _ _=>by simp,by simp,List.nodup_nil,by simp,by simp,List.nodup_nil⟩
structure Books (Z:TSt):Prop where
 st:Z.S.state=marks Z.held Z.back
 hn:Z.held.Nodup
 ln:Z.live.Nodup
 hl:∀x,x∈Z.held↔x∈Z.live∨x∈Z.kept∨x∈Z.back
 hb:∀x∈Z.held,2≤x∧x<Z.S.pages+2
 b1:∀id,rcnt (.pg id) Z.now+Z.gone.count id=if id∈Z.live then 1 else 0
 b2:∀id,rcnt (.pg id) Z.last=if id∈Z.live then 1 else 0
 bc:∀b j,rcnt (.cl b j) Z.now≤1
 lp:rootPage Z.last
 room:rootDirty Z.now≤Z.S.pages-Z.S.state.length
 opn:Z.D.opn=[]
 ok:DOk Z.D
 sn:Sorted (rootL Z.now)
 sl:Sorted (rootL Z.last)
 num:Z.S.num≤1000000
 bn:(rootL Z.now).length≤90000
 bl:(rootL Z.last).length≤90000
 head:HeadsOk Z.D.read Z.S.num (rootId Z.last)
 kp:KeptB Z.live Z.kept Z.back Z.snaps
theorem RootAt.pageW {c c':Nat→Nat} {rn rn':Nat} {w w':World} {pg:Nat→Option Bs} {N:Nat} {X:Prop} {o:Root} {v:Value} (hp:rootPage o) (h:RootAt c rn w pg N X o v):RootAt c' rn' w' pg N X o v:=by
 cases o with
 |none=>exact h
 |some p=>exact⟨Rep.pageW hp h.1,h.2⟩
def SnapsIn (c:Nat→Nat) (rn rm:Nat) (w:World) (tp:Nat) (pg:Nat→Option Bs) (N k:Nat) (sn:List Value) (l:List SnapS):Prop:=l.length=k∧All2 (SnapM c rm w tp) sn l∧∀s∈l,RootAt c rn w pg N False s.root (wRoot s.root)
theorem SnapsIn.nil (c:Nat→Nat) (rn rm:Nat) (w:World) (tp:Nat) (pg:Nat→Option Bs) (N:Nat):SnapsIn c rn rm w tp pg N 0 [] []:=⟨rfl,.nil,by simp⟩
theorem z7c {C:Nat→Prop} {c c':Nat→Nat} {rn rn' rm:Nat} {w w':World} {tp:Nat} {pg:Nat→Option Bs} {N k:Nat} {live kept back:List Nat} {sn:List Value} {l:List SnapS} (hs:SnapsIn c rn rm w tp pg N k sn l) (hk:KeptB live kept back l) (hf:Fr C w w') (ha:Ag w.heap.size c c') (h3:∀b,b<w.heap.size→C b→c b≠rm) (h0:∀b,b<w.heap.size→C b→c b≠0):SnapsIn c' rn' rm w' tp pg N k sn l:=
 ⟨hs.1,hs.2.1.imp fun v s a=>a.fr hf ha (fun e=>h3 _ (Array.getElem?_eq_some_iff.1 a.blk).1 e a.own) (fun e=>h0 _ a.map.lt e a.mo),fun s h=>RootAt.pageW (hk.ok s h).page (hs.2.2 s h)⟩
def TSt.snapped (Z:TSt) (sp pm:Nat):TSt:={ Z with snaps:=Z.snaps++[⟨sp,pm,Z.last,Z.live⟩] }
structure TreeIn (c:Nat→Nat) (r rn rm:Nat) (w:World) (tp st lm km:Nat) (nr lr gv ov:Value) (Z:TSt) (k:Nat) (sn:List Value):Prop where
 hd:Hd c r w tp st Z.S Z.D
 cl:Cl w c
 blk:w.heap[tp]?=some (.cells (TreeCells st nr ((rootL Z.now).length:Int) (rootD Z.now:Int) lr ((rootL Z.last).length:Int) (rootD Z.last:Int) lm gv ov km) 139 (0,0))
 gr:w.ownsRow 0 3 1 gv Z.gone.length (Z.gone.map natV)
 go:∀b,gv.ownBlock=some b→c b=r
 orow:w.ownsRow 0 255 1 ov k sn
 oo:∀b,ov.ownBlock=some b→c b=rm
 live:MapIs w lm (vmap (ones Z.live))
 lmo:c lm=rm
 kept:MapIs w km (vmap (ones Z.kept))
 kmo:c km=rm
 lk:lm≠km
 now:RootAt c rn w (pgs Z.D) Z.D.blocks False Z.now nr
 last:RootAt c rn w (pgs Z.D) Z.D.blocks False Z.last lr
 sns:SnapsIn c rn rm w tp (pgs Z.D) Z.D.blocks k sn Z.snaps
 bk:Books Z
structure Owners (r rn rm:Nat):Prop where
 r0:r≠0
 n0:rn≠0
 m0:rm≠0
 nr:rn≠r
 mr:rm≠r
 nm:rn≠rm
def TreeAt (c:Nat→Nat) (r rn rm:Nat) (w:World) (tp:Nat) (Z:TSt) (k:Nat):Prop:=∃st lm km nr lr gv ov sn,TreeIn c r rn rm w tp st lm km nr lr gv ov Z k sn
theorem TreeIn.fr {C:Nat→Prop} {c:Nat→Nat} {r rn rm:Nat} {w w':World} {tp st lm km:Nat} {nr lr gv ov:Value} {Z:TSt} {k:Nat} {sn:List Value} (h:TreeIn c r rn rm w tp st lm km nr lr gv ov Z k sn) (hf:Fr C w w') (h0:∀b,C b→c b≠0) (h1:∀b,C b→c b≠r) (h2:∀b,C b→c b≠rn) (h3:∀b,C b→c b≠rm):TreeIn c r rn rm w' tp st lm km nr lr gv ov Z k sn:=
 ⟨h.hd.fr hf h1 h0,h.cl.mono hf.size,hf.blk h.blk (fun e=>h1 _ e h.hd.own),z0l h.gr hf (fun b hb e=>h1 b e (h.go b hb)),h.go,z0l h.orow hf (fun b hb e=>h3 b e (h.oo b hb)),h.oo,h.live.fr hf (fun e=>h3 _ e h.lmo),h.lmo,h.kept.fr hf (fun e=>h3 _ e h.kmo),h.kmo,h.lk,h.now.fr hf h2 h0,h.last.fr hf h2 h0,z7c h.sns h.bk.kp hf (Ag.refl _ _) (fun b _ e=>h3 b e) (fun b _ e=>h0 b e),h.bk⟩
theorem TreeAt.fr {C:Nat→Prop} {c:Nat→Nat} {r rn rm:Nat} {w w':World} {tp:Nat} {Z:TSt} {k:Nat} (h:TreeAt c r rn rm w tp Z k) (hf:Fr C w w') (h0:∀b,C b→c b≠0) (h1:∀b,C b→c b≠r) (h2:∀b,C b→c b≠rn) (h3:∀b,C b→c b≠rm):TreeAt c r rn rm w' tp Z k:=by
 obtain⟨st,lm,km,nr,lr,gv,ov,sn,h⟩:=h
 exact⟨st,lm,km,nr,lr,gv,ov,sn,h.fr hf h0 h1 h2 h3⟩
end
section
set_option maxHeartbeats 2000000
structure RootLaid (c:Nat→Nat) (r rn rm:Nat) (w w1:World) (tp st lm:Nat) (ns:List Nat) (Z:TSt) (nr:Value) (c1:Nat→Nat) (o':Root) (new:List Nat) (S1:SSt) (D1:DSt) (R:Nat) (rv:Value):Prop where
 ag:Ag w.heap.size c c1
 inn:LayIn c1 r rm w1 tp st lm ns S1 D1 (Z.held++new) (Z.live++new)
 laid:Laid2 Z.S Z.D Z.held new S1 D1
 root:RootAt c1 rn w1 (pgs D1) Z.D.blocks False o' rv
 page:rootPage o'
 flat:rootL o'=rootL Z.now
 depth:rootD o'=rootD Z.now
 cnts:∀id,rcnt (.pg id) o'=rcnt (.pg id) Z.now+new.count id
 lfr:∃d t,LFr c r rn lm ns w w1 d t
 way:(nr=.nilIface∧R=0∧rv=.nilIface∧o'=none)∨((∃tx y,nr=.iface tx y)∧Num w1 nr R∧2≤R∧R<5002∧rv=wPage R∧0<rcnt (.pg R) o')
def TSt.commit (Z:TSt) (o':Root) (new:List Nat) (S1:SSt) (D1:DSt) (R:Nat) (back kept:List Nat):TSt:=
 { S:={ S1 with num:=S1.num+1,root:=R,state:=ones ((Z.held++new).filter fun k=>decide (k∉back)) },D:=dcommit D1 (S1.num+1) R,now:=o',last:=o',gone:=[],live:=(Z.live++new).filter fun k=>decide (k∉Z.gone),held:=(Z.held++new).filter fun k=>decide (k∉back),back:=[],kept:=kept,snaps:=Z.snaps }
structure Gone (Z:TSt) (gone back kept:List Nat):Prop where
 bk:∀x,x∈back↔x∈Z.back∨(x∈gone∧¬Wants Z.snaps x)
 kp:∀x,x∈kept↔x∈Z.kept∨(x∈gone∧Wants Z.snaps x)
 kn:kept.Nodup
end
section
set_option maxHeartbeats 2000000
def TQ (Z:TSt) (D':DSt):Prop:=LayQ Z.D Z.held D'∨∃S1 D1 o' new c1 rn w1 rv,Laid2 Z.S Z.D Z.held new S1 D1∧DOk D1∧RootAt c1 rn w1 (pgs D1) Z.D.blocks False o' rv∧rootPage o'∧rootL o'=rootL Z.now∧(∀id,rcnt (.pg id) o'=rcnt (.pg id) Z.now+new.count id)∧rootId o'≠1∧rootId o'<Z.D.blocks∧ComQ D1 (Z.S.num+1) (rootId o') D'
def TComR (c:Nat→Nat) (r rn rm:Nat) (w:World) (tp st lm km:Nat) (ov:Value) (Z:TSt) (ks:Nat) (sn:List Value) (err:Int) (w':World):Prop:=Fr (fun b=>c b=r∨c b=rn∨c b=rm) w w'∧((err=0∧∃c' o' new S1 D1 R rv back kept,Ag w.heap.size c c'∧TreeIn c' r rn rm w' tp st lm km rv rv (.slice none 0 0) ov (Z.commit o' new S1 D1 R back kept) ks sn∧rootL o'=rootL Z.now∧rootD o'=rootD Z.now∧S1.pages=Z.S.pages∧S1.num=Z.S.num∧S1.dk=Z.S.dk∧(Z.D.after<1→(dcommit D1 (S1.num+1) R).after<1))∨(err=20∧Fell c r w w' Z.S.dk Z.D (TQ Z)))
end
section
set_option maxHeartbeats 2000000
def BoundV (F:Nat→Prop) (w:World) (v:Value) (o:Bs):Prop:=(o=[]∧v=.slice none 0 0)∨(o≠[]∧BytesAt F w v o)
@[go_sem] theorem z7d (n c : Nat) (w : World) : (binOp .neq 40 (.slice none n c) (.slice none 0 0)).run Tryz.prog w = .ok (.bool false) w := by kernel_rfl
@[go_sem] theorem z7e (a : Addr) (n c : Nat) (w : World) : (binOp .neq 40 (.slice (some a) n c) (.slice none 0 0)).run Tryz.prog w = .ok (.bool true) w := by kernel_rfl
end
section
set_option maxHeartbeats 2000000
structure WalkIn (c:Nat→Nat) (r rn:Nat) (w:World) (tp st wb sm:Nat) (S:SSt) (D:DSt) (seen:List Nat):Prop where
 hd:Hd c r w tp st S D
 cl:Cl w c
 box:w.heap[wb]?=some (.cells #[.pointer (some ⟨tp,0,none⟩),.map (some sm)] 156 (0,0))
 mp:MapIs w sm (vmap (ones seen))
 m0:c sm≠0
 mr:c sm≠r
 mn:c sm≠rn
def WalkRes (rn:Nat) (w:World) (sm:Nat) (X:Prop) (d:Nat) (t:T) (seen:List Nat) (e:Ending) (w':World):Prop:=
 Fr (fun b=>b=sm) w w'∧((X∧e=corrupt)∨(e=.returned (.tuple #[.int .i64 ((flat d t).length:Int),.int .i64 (d:Int)])∧∃seen',MapIs w' sm (vmap (ones seen'))∧∀x,x∈seen'↔x∈seen∨0<cnt d (.pg x) t))
def WalkResS (rn:Nat) (pg:Nat→Option Bs) (w:World) (sm:Nat) (X:Prop) (d:Nat) (t:T) (seen:List Nat) (e:Ending) (w':World):Prop:=
 WalkRes rn w sm X d t seen e w'∧(e≠corrupt→∀x,0<cnt d (.pg x) t→pg x≠none)
def Within (lo hi:Bs) (l:List KV):Prop:=(∀x∈l,lo=[]∨bcmp lo x.1<0)∧∀x∈l,hi=[]∨bcmp x.1 hi<0
def WalkIH (c:Nat→Nat) (r rn tp st wb sm:Nat) (S:SSt) (D:DSt) (X:Prop) (d:Nat):Prop:=
 ∀ (w : World) (m : Nat) (t : T) (v lov hiv : Value) (root : Bool) (lo hi : Bs) (seen : List Nat), WalkIn c r rn w tp st wb sm S D seen → Rep c rn w (pgs D) D.blocks X d t v → Shape d m t → 1 ≤ m → (root = true ∨ 2 ≤ m) → Sorted (flat d t) → Within lo hi (flat d t) → BoundV (Dt c) w lov lo → BoundV (Dt c) w hiv hi → (∀ id, 0 < cnt d (.pg id) t → id ∉ seen) → (∀ id, cnt d (.pg id) t ≤ 1) → (flat d t).length ≤ 100000 →
   Calls Tryz.prog 87 #[.pointer (some ⟨wb,0,none⟩),v,.bool root,lov,hiv] w (WalkResS rn (pgs D) w sm X d t seen)
end
section
set_option maxHeartbeats 2000000
end
end Go.Proofs.YtidalepbkljkpaaGreat
