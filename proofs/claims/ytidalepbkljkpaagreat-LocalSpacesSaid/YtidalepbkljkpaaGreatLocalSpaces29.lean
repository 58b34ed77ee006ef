import Derived.Test.YtidalepbkljkpaaGreatLocalSpaces27
import Derived.Test.YtidalepbkljkpaaGreatLocalSpaces28
import Derived.Test.YtidalepbkljkpaaGreatLocalSpaces19
set_option linter.all false
namespace Go.Proofs.YtidalepbkljkpaaGreat
open Go.RowKit Go.H
set_option maxHeartbeats 2000000
set_option maxRecDepth 100000
section
structure TSt where
 S:SSt
 D:DSt
 now:Root
 last:Root
 gone:List Nat
 live:List Nat
 held:List Nat
 back:List Nat:=[]
 kept:List Nat:=[]
 snaps:List SnapS:=[]
def rootPage:Root→Prop
 |none=>True
 |some (_,t)=>t.isPage
def rootId:Root→Nat
 |none=>0
 |some (_,t)=>t.id
structure SnapOk (live kept:List Nat) (s:SnapS):Prop where
 nd:s.pages.Nodup
 sub:∀x∈s.pages,x∈live∨x∈kept
 cnt:∀id,rcnt (.pg id) s.root=if id∈s.pages then 1 else 0
 page:rootPage s.root
 so:Sorted (rootL s.root)
 ln:(rootL s.root).length≤90000
structure KeptB (live kept back:List Nat) (snaps:List SnapS):Prop where
 lk:∀x∈live,x∉kept∧x∉back
 kb:∀x∈kept,x∉back
 kn:kept.Nodup
 ok:∀s∈snaps,SnapOk live kept s
 kw:∀x∈kept,∃s∈snaps,x∈s.pages
 sd:(snaps.map SnapS.sp).Nodup
theorem KeptB.nil (live:List Nat):KeptB live [] [] []:=⟨fun _ _=>by simp,by simp,List.nodup_nil,by simp,by simp,List.nodup_nil⟩
structure Books (Z:TSt):Prop where
 st:Z.S.state=marks Z.held Z.back
 hn:Z.held.Nodup
 ln:Z.live.Nodup
 hl:∀x,x∈Z.held↔x∈Z.live∨x∈Z.kept∨x∈Z.back
 hb:∀x∈Z.held,2≤x∧x<Z.S.pages+2
 b1:∀id,rcnt (.pg id) Z.now+Z.gone.count id=if id∈Z.live then 1 else 0
 b2:∀id,rcnt (.pg id) Z.last=if id∈Z.live then 1 else 0
 bc:∀b j,rcnt (.cl b j) Z.now≤1
 lp:rootPage Z.last
 room:rootDirty Z.now≤Z.S.pages-Z.S.state.length
 opn:Z.D.opn=[]
 ok:DOk Z.D
 sn:Sorted (rootL Z.now)
 sl:Sorted (rootL Z.last)
 num:Z.S.num≤1000000
 bn:(rootL Z.now).length≤90000
 bl:(rootL Z.last).length≤90000
 head:HeadsOk Z.D.read Z.S.num (rootId Z.last)
 kp:KeptB Z.live Z.kept Z.back Z.snaps
theorem Books.gn {Z:TSt} (h:Books Z):Z.gone.Nodup∧∀x∈Z.gone,x∈Z.live:=by
 refine⟨List.nodup_iff_count.2 fun a=>?_,fun x hx=>?_⟩
 · have:=h.b1 a
   split at this<;>omega
 · have h1:=List.count_pos_iff.2 hx
   have:=h.b1 x
   split at this
   · assumption
   · omega
theorem Books.hlen {Z:TSt} (h:Books Z):Z.held.length≤Z.S.pages:=by
 have:=z99 (b:=(List.range Z.S.pages).map (·+2)) h.hn fun x hx=>by
  have:=h.hb x hx
  exact List.mem_map.2 ⟨x-2,List.mem_range.2 (by omega),by show x-2+2=x;omega⟩
 simpa using this
theorem Books.slen {Z:TSt} (h:Books Z):Z.S.state.length≤Z.S.pages:=by rw[h.st,z98];exact h.hlen
theorem Books.glen {Z:TSt} (h:Books Z):Z.gone.length≤Z.S.pages:=by
 have:=z99 h.gn.1 fun x hx=>(h.hl x).2 (.inl (h.gn.2 x hx))
 have:=h.hlen
 omega
theorem zdh:∀{d m:Nat} {t:T},1≤m→Shape d m t→d≤(flat d t).length
 |0,_,_,_,_=>Nat.zero_le _
 | d + 1, m, .node nm l ks, hm, h => by
   obtain⟨h1,h2,h3,h4⟩:=h
   by_cases hd:d=0
   · subst hd
     show 1≤(if 0=0 then l else _).length
     rw[if_pos rfl];omega
   · rw[if_neg hd] at h4
     show d+1≤(if d=0 then l else _).length
     rw[if_neg hd]
     cases ks with
     |nil=>simp at h4
     | cons k ks =>
       cases l with
       |nil=>simp at h1;omega
       | cons x l =>
         cases ks with
         |nil=>simp at h4
         | cons k2 ks =>
           have:=zdh (by omega) (h4.2 k (by simp))
           simp[inter,interT];omega
theorem zdi {o:Root} (h:RootSh o):rootD o≤(rootL o).length:=by
 cases o with
 |none=>exact Nat.zero_le _
 |some p=>exact zdh (Nat.le_refl _) h
theorem RootAt.sh {c:Nat→Nat} {rn:Nat} {w:World} {pg:Nat→Option Bs} {N:Nat} {X:Prop} {o:Root} {v:Value} (h:RootAt c rn w pg N X o v):RootSh o:=by
 cases o with
 |none=>trivial
 |some p=>exact h.2
theorem RootAt.pageW {c c':Nat→Nat} {rn rn':Nat} {w w':World} {pg:Nat→Option Bs} {N:Nat} {X:Prop} {o:Root} {v:Value} (hp:rootPage o) (h:RootAt c rn w pg N X o v):RootAt c' rn' w' pg N X o v:=by
 cases o with
 |none=>exact h
 |some p=>exact⟨Rep.pageW hp h.1,h.2⟩
theorem RootAt.pg {c:Nat→Nat} {rn:Nat} {w:World} {pg pg':Nat→Option Bs} {N:Nat} {X:Prop} {o:Root} {v:Value} (hp:∀id,0<rcnt (.pg id) o→pg' id=pg id) (h:RootAt c rn w pg N X o v):RootAt c rn w pg' N X o v:=by
 cases o with
 |none=>exact h
 |some p=>exact⟨Rep.pg hp h.1,h.2⟩
def SnapsIn (c:Nat→Nat) (rn rm:Nat) (w:World) (tp:Nat) (pg:Nat→Option Bs) (N k:Nat) (sn:List Value) (l:List SnapS):Prop:=l.length=k∧All2 (SnapM c rm w tp) sn l∧∀s∈l,RootAt c rn w pg N False s.root (wRoot s.root)
theorem SnapsIn.nil (c:Nat→Nat) (rn rm:Nat) (w:World) (tp:Nat) (pg:Nat→Option Bs) (N:Nat):SnapsIn c rn rm w tp pg N 0 [] []:=⟨rfl,.nil,by simp⟩
theorem zdj {C:Nat→Prop} {c c':Nat→Nat} {rn rn' rm:Nat} {w w':World} {tp:Nat} {pg:Nat→Option Bs} {N k:Nat} {live kept back:List Nat} {sn:List Value} {l:List SnapS} (hs:SnapsIn c rn rm w tp pg N k sn l) (hk:KeptB live kept back l) (hf:Fr C w w') (ha:Ag w.heap.size c c') (h3:∀b,b<w.heap.size→C b→c b≠rm) (h0:∀b,b<w.heap.size→C b→c b≠0):SnapsIn c' rn' rm w' tp pg N k sn l:=
 ⟨hs.1,hs.2.1.imp fun v s a=>a.fr hf ha (fun e=>h3 _ (Array.getElem?_eq_some_iff.1 a.blk).1 e a.own) (fun e=>h0 _ a.map.lt e a.mo),fun s h=>RootAt.pageW (hk.ok s h).page (hs.2.2 s h)⟩
def TSt.snapped (Z:TSt) (sp pm:Nat):TSt:={ Z with snaps:=Z.snaps++[⟨sp,pm,Z.last,Z.live⟩] }
structure TreeIn (c:Nat→Nat) (r rn rm:Nat) (w:World) (tp st lm km:Nat) (nr lr gv ov:Value) (Z:TSt) (k:Nat) (sn:List Value):Prop where
 hd:Hd c r w tp st Z.S Z.D
 cl:Cl w c
 blk:w.heap[tp]?=some (.cells (TreeCells st nr ((rootL Z.now).length:Int) (rootD Z.now:Int) lr ((rootL Z.last).length:Int) (rootD Z.last:Int) lm gv ov km) 139 (0,0))
 gr:w.ownsRow 0 3 1 gv Z.gone.length (Z.gone.map natV)
 go:∀b,gv.ownBlock=some b→c b=r
 orow:w.ownsRow 0 255 1 ov k sn
 oo:∀b,ov.ownBlock=some b→c b=rm
 live:MapIs w lm (vmap (ones Z.live))
 lmo:c lm=rm
 kept:MapIs w km (vmap (ones Z.kept))
 kmo:c km=rm
 lk:lm≠km
 now:RootAt c rn w (pgs Z.D) Z.D.blocks False Z.now nr
 last:RootAt c rn w (pgs Z.D) Z.D.blocks False Z.last lr
 sns:SnapsIn c rn rm w tp (pgs Z.D) Z.D.blocks k sn Z.snaps
 bk:Books Z
structure Owners (r rn rm:Nat):Prop where
 r0:r≠0
 n0:rn≠0
 m0:rm≠0
 nr:rn≠r
 mr:rm≠r
 nm:rn≠rm
def TreeAt (c:Nat→Nat) (r rn rm:Nat) (w:World) (tp:Nat) (Z:TSt) (k:Nat):Prop:=∃st lm km nr lr gv ov sn,TreeIn c r rn rm w tp st lm km nr lr gv ov Z k sn
theorem TreeIn.fr {C:Nat→Prop} {c:Nat→Nat} {r rn rm:Nat} {w w':World} {tp st lm km:Nat} {nr lr gv ov:Value} {Z:TSt} {k:Nat} {sn:List Value} (h:TreeIn c r rn rm w tp st lm km nr lr gv ov Z k sn) (hf:Fr C w w') (h0:∀b,C b→c b≠0) (h1:∀b,C b→c b≠r) (h2:∀b,C b→c b≠rn) (h3:∀b,C b→c b≠rm):TreeIn c r rn rm w' tp st lm km nr lr gv ov Z k sn:=
 ⟨h.hd.fr hf h1 h0,h.cl.mono hf.size,hf.blk h.blk (fun e=>h1 _ e h.hd.own),z0m h.gr hf (fun b hb e=>h1 b e (h.go b hb)),h.go,z0m h.orow hf (fun b hb e=>h3 b e (h.oo b hb)),h.oo,h.live.fr hf (fun e=>h3 _ e h.lmo),h.lmo,h.kept.fr hf (fun e=>h3 _ e h.kmo),h.kmo,h.lk,h.now.fr hf h2 h0,h.last.fr hf h2 h0,zdj h.sns h.bk.kp hf (Ag.refl _ _) (fun b _ e=>h3 b e) (fun b _ e=>h0 b e),h.bk⟩
theorem TreeAt.fr {C:Nat→Prop} {c:Nat→Nat} {r rn rm:Nat} {w w':World} {tp:Nat} {Z:TSt} {k:Nat} (h:TreeAt c r rn rm w tp Z k) (hf:Fr C w w') (h0:∀b,C b→c b≠0) (h1:∀b,C b→c b≠r) (h2:∀b,C b→c b≠rn) (h3:∀b,C b→c b≠rm):TreeAt c r rn rm w' tp Z k:=by
 obtain⟨st,lm,km,nr,lr,gv,ov,sn,h⟩:=h
 exact⟨st,lm,km,nr,lr,gv,ov,sn,h.fr hf h0 h1 h2 h3⟩
theorem TreeAt.bk {c:Nat→Nat} {r rn rm:Nat} {w:World} {tp:Nat} {Z:TSt} {k:Nat} (h:TreeAt c r rn rm w tp Z k):Books Z:=by
 obtain⟨st,lm,km,nr,lr,gv,ov,sn,h⟩:=h
 exact h.bk
theorem zdk {o:Root} (h:RootSh o) (hb:(rootL o).length≤90000):rootDirty o≤90000:=Nat.le_trans (zc0 h) hb
theorem zdl {c:Nat→Nat} {r rn rm:Nat} {w:World} {tp:Nat} {Z:TSt} {k:Nat} {kv vv:Value} {x:KV} (ho:Owners r rn rm) (h:TreeAt c r rn rm w tp Z k) (hk:BytesAt (Dt c) w kv x.1) (hv:BytesAt (Dt c) w vv x.2) (hw:wrong x.1 x.2=0) (hb:(rootL Z.now).length<90000) :
 Calls Tryz.prog 121 #[.pointer (some ⟨tp,0,none⟩),kv,vv] w fun e w'=>
  (e=.returned (.int .i64 21)∧Fr C0 w w'∧∃o',rootL o'=putL x (rootL Z.now)∧RootSh o'∧rootDirty o'≤rootDirty Z.now+2*rootD Z.now+1∧Z.S.pages-Z.S.state.length<rootDirty o')∨
  (e=.returned (.int .i64 0)∧Fr (fun b=>c b=r) w w'∧∃c' o' gone',Ag w.heap.size c c'∧TreeAt c' r rn rm w' tp { Z with now:=o',gone:=gone' } k∧rootL o'=putL x (rootL Z.now)):=by
 obtain⟨st,lm,km,nr,lr,gv,ov,sn,h⟩:=h
 have hsh:=h.now.sh
 have hdb:=zdk hsh (by omega)
 have hD:=zdi hsh
 have hg:=h.bk.glen
 have hsm:=h.hd.alive.small
 have H:Calls Tryz.prog 121 #[.pointer (some ⟨tp,0,none⟩),kv,vv] w (TPutRes c r rn w tp st lm km Z.S Z.D Z.now lr ov ((rootL Z.last).length:Int) (rootD Z.last:Int) Z.gone x):=by
  have hnow:=h.now
  have hblk:=h.blk
  cases hz:Z.now with
  | none =>
    rw[hz] at hnow hblk
    obtain rfl:=hnow
    exact zcy ho.r0 ho.n0 ho.nr h.hd h.cl hblk h.gr h.go hk hv hw h.bk.slen (by omega)
  | some p =>
    obtain⟨d,t⟩:=p
    rw[hz] at hnow hblk hdb hD
    have hsn:=h.bk.sn
    rw[hz] at hsn hb
    exact zd0 ho.r0 ho.n0 ho.nr h.hd h.cl hblk h.gr h.go hnow.1 hnow.2 hsn rfl rfl (by show d≤_;have:d≤(rootL (some (d,t))).length:=hD;omega) (by show(rootL (some (d,t))).length≤_;omega) (by show rootDirty (some (d,t))≤_;omega) hk hv hw h.bk.slen (by omega)
 refine H.mono ?_
 rintro e w' ⟨o',gone',h1,h2,h3,⟨rfl,h4,h5⟩|⟨rfl,h4,h5,gv',rv',c',ag',cl',hd',ht',og',oc',hr'⟩⟩
 · exact .inl ⟨rfl,h5,o',h1,h2,h3.dirty,h4⟩
 · have hsl:Sorted (rootL o'):=by rw[h1];exact zbs h.bk.sn
   have hpl:(rootL o').length≤(rootL Z.now).length+1:=by rw[h1,zbq h.bk.sn];split<;>omega
   refine .inr ⟨rfl,h5,c',o',gone',ag',⟨st,lm,km,rv',lr,gv',ov,sn,hd',cl',ht',og',oc',z0m h.orow h5 (fun b hb e=>ho.mr ((h.oo b hb).symm.trans e)),fun b hb=>(ag' b (h.orow.lt b hb).2).trans (h.oo b hb),h.live.fr h5 (fun e=>ho.mr (h.lmo.symm.trans e)),(ag' _ h.live.lt).trans h.lmo,h.kept.fr h5 (fun e=>ho.mr (h.kmo.symm.trans e)),(ag' _ h.kept.lt).trans h.kmo,h.lk,hr',RootAt.pageW h.bk.lp h.last,zdj h.sns h.bk.kp h5 ag' (fun b _ e h9=>ho.mr (h9.symm.trans e)) (fun b _ e h9=>ho.r0 (e.symm.trans h9)),?_⟩,h1⟩
   refine⟨h.bk.st,h.bk.hn,h.bk.ln,h.bk.hl,h.bk.hb,fun id=>?_,h.bk.b2,fun b j=>?_,h.bk.lp,h4,h.bk.opn,h.bk.ok,hsl,h.bk.sl,h.bk.num,by show(rootL o').length≤_;omega,h.bk.bl,h.bk.head,h.bk.kp⟩
   · show rcnt (.pg id) o'+gone'.count id=_
     rw[h3.pg id];exact h.bk.b1 id
   · have h6:=h3.cl b j
     have h7:=h.bk.bc b j
     show rcnt (.cl b j) o'≤1
     split at h6<;>omega
end
end Go.Proofs.YtidalepbkljkpaaGreat
