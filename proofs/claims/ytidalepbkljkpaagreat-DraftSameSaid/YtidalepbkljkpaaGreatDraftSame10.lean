import Derived.Test.YtidalepbkljkpaaGreatDraftSame09
import Derived.Deep.LoopGhost
import Derived.Deep.CutRange
import Derived.Deep.CutBlock
import Derived.Deep.DeepCutAuto
import Derived.Test.YtidalepbkljkpaaGreatDraftSame03
import Derived.Test.YtidalepbkljkpaaGreatDraftSame07
import Derived.Test.YtidalepbkljkpaaGreatDraftSame08
set_option linter.all false
namespace Go.Proofs.YtidalepbkljkpaaGreat
open Go.RowKit Go.H
set_option maxRecDepth 100000
section
set_option maxHeartbeats 1000000
theorem Loaded.iface {c:Nat→Nat} {rn:Nat} {w:World} {pg:Nat→Option Bs} {N:Nat} {X:Prop} {d:Nat} {t:T} {n g o:Nat} {kvs:List Value} {v:Value} (h:Loaded c rn w pg N X d t n g o kvs v):v=wLeaf n∨v=wInner n:=by
 obtain⟨⟨lv,_,_,_,h3⟩,_⟩:=h
 rcases h3 with⟨_,h⟩|⟨_,h,_⟩
 · exact .inl h
 · exact .inr h
theorem Rep.iface {c:Nat→Nat} {rn:Nat} {w:World} {pg:Nat→Option Bs} {N:Nat} {X:Prop} {d:Nat} {t:T} {v:Value} (h:Rep c rn w pg N X d t v):∃tx y,v=.iface tx y:=h.num.iface
def GetT (w w':World) (X:Prop) (e:Ending) (o:Option Bs):Prop:=
 Fr C0 w w'∧((X∧e=corrupt)∨match o with
  |some b=>∃v,e=.returned (.tuple #[v,.bool true])∧BytesAt (fun b=>w.heap.size≤b) w' v b
  |none=>e=.returned (.tuple #[.slice none 0 0,.bool false]))
theorem z5o {w:World} {tp:Nat} {kv:Value}:Calls Tryz.prog 94 #[.pointer (some ⟨tp,0,none⟩),.nilIface,kv] w fun e w'=>e=.returned (.tuple #[.slice none 0 0,.bool false])∧w=w':=by
 go_enter Tryz.func94,Tryz.ntmps94
 go_wp2
 refine wp_loop_rounds 1 ?_;rw[rounds_succ]
 go_wp2
 go_ret2
 exact⟨rfl,rfl⟩
theorem z5p {F:Nat→Prop} {c:Nat→Nat} {r rn:Nat} {w:World} {tp st:Nat} {S:SSt} {D:DSt} {X:Prop} {d m:Nat} {t:T} {v kv:Value} {key:Bs} (h:Hd c r w tp st S D) (hc:Cl w c) (hr:Rep c rn w (pgs D) D.blocks X d t v) (hs:Shape d m t) (hm:1≤m) (ho:Sorted (flat d t)) (hk:BytesAt F w kv key) :
 Calls Tryz.prog 94 #[.pointer (some ⟨tp,0,none⟩),v,kv] w fun e w'=>GetT w w' X e (getL key (flat d t)):=by
 have HK:=zhd hk
 have HH:=zhd h
 have HC:=zhd hc
 have HR:=zhd hr
 have HS:=zhd (show Shape d 1 t from hs.mono hm)
 have HO:=zhd ho
 obtain⟨A,cc,rfl,-⟩:=hk.form
 clear h hc hr hs ho hk
 go_enter Tryz.func94,Tryz.ntmps94
 go_wp2
 go_loopg [1,6,7] d (fun k v' s6 s7 wr=>s6=.slice none 0 0∧s7=.bool false∧Hid (Fr C0 w wr)∧∃t',Hid (Rep c rn wr (pgs D) D.blocks X k t' v')∧Hid (Shape k 1 t')∧Hid (Sorted (flat k t'))∧Hid (getL key (flat k t')=getL key (flat d t)))
 case atStart=>exact⟨rfl,rfl,zhd (Fr.refl _ _),t,HR,HS,HO,zhd rfl⟩
 case round=>
  obtain⟨rfl,rfl,HF,t',HR',HS',HO',HE⟩:=hrel
  cases gk with
  |zero=>exact HR'.out.elim
  | succ k =>
    have HL:=zhd (z5a (HH.out.fr0 HF.out) (HC.out.mono HF.out.size) HR'.out HS'.out (Nat.le_refl _))
    obtain⟨tx,y,rfl⟩:=HR'.out.iface
    go_wp2_with fail
    refine HL.out.mono ?_
    rintro e w1 ⟨f1,h1⟩
    have F1:=zhd (HF.out.trans0 f1)
    rcases h1 with⟨hX,rfl⟩|⟨v1,n,g,o,kvs,rfl,hl,_⟩
    · go_wp2
      exact⟨rfl,F1.out,.inl ⟨hX,rfl⟩⟩
    · have HSZ:=zhd F1.out.size
      obtain⟨nm,l,ks⟩:=t'
      have hif:=hl.iface
      obtain⟨hN0,_,_,hks0⟩:=hl
      have hN:NodeAt (Dt c) w1 n g o (T.node nm l ks).id l kvs v1:=hN0
      have hks:All2 (Rep c rn w1 (pgs D) D.blocks X k) ks kvs:=hks0
      clear hN0 hks0
      have HN:=zhd hN
      have HKS:=zhd hks
      have hkl:=All2.length hks
      obtain⟨lv,hlv,hit⟩:=z4p hN
      have HIT:=zhd hit
      have HLV:=zhd hlv
      have HFI:=zhd (z5d (hlv.mono (F':=fun _=>True) (fun _ _ _=>trivial)) ((HK.out.fr0 F1.out).mono (F':=fun _=>True) (fun _ _ _=>trivial)))
      obtain⟨q1,q2,q3,q4⟩:=HS'.out
      have hlen:l.length≤4:=q2
      have HQ4:=zhd q4
      have HKV:=zhd q3
      have HFS:Hid (if k=0 then flat (k+1) (.node nm l ks)=l else flat (k+1) (.node nm l ks)=inter l (ks.map (flat k))):=by
       refine zhd ?_
       split<;>rename_i hk0<;>simp[flat,hk0]
      clear hlv hit hN hks q1 q2 q3 q4
      obtain⟨A1,c1,rfl,hc1,hc2,hc3⟩:=HLV.out
      unfold maxLen at hc2
      have HC3:=zhd hc3
      clear hc3
      obtain⟨lv2,_,_,_,h3⟩:=HN.out
      have hso:=HO'.out
      have hge:=HE.out
      rcases h3 with⟨rfl,rfl⟩|⟨hne,rfl,kc,k0,k1,k2,k3⟩
      · have hks0:ks=[]:=by simpa using hkl
        have hk0:k=0:=by
         have:=HQ4.out
         split at this
         · assumption
         · rw[hks0] at this;simp at this
        have hfl:=HFS.out
        rw[if_pos hk0] at hfl
        rw[hfl] at hso hge
        have hgl:=z5m (k:=key) hso
        have HGE:=zhd hge.symm
        clear hso hge
        generalize hfk:findL key l=fk at *
        obtain⟨i,there⟩:=fk
        go_wp2_with fail
        refine(HIT.out _ (Fr.refl _ _)).mono ?_
        rintro e w2 ⟨rfl,rfl⟩
        go_wp2_with fail
        refine HFI.out.mono ?_
        rintro e w2 ⟨rfl,f2⟩
        have F2:=zhd (F1.out.trans0 f2)
        have F12:=zhd f2
        clear f2
        cases there with
        | true =>
          simp only[if_true] at hgl
          obtain⟨hi,hgv⟩:=hgl
          obtain⟨g1,o1,rfl,_,hcc⟩:=HC3.out (by intro h;subst h;simp at hi)
          obtain⟨kv,vv,_,d2,_,d4⟩:=hcc i hi
          have d2':=F12.out.cell0 d2
          have HV:=zhd (d4.fr0 F12.out)
          have HGV:=zhd hgv
          obtain⟨A3,c3,rfl,-⟩:=(show _ from d4).form
          have hsz2:=F2.out.size
          clear hcc d2 d4 hgv
          have hkv:=(HKV.out _ (List.getElem_mem hi)).2.2
          go_wp2_with (at_builtin;go_must (refine z0k z1y rfl _ _ rfl (v:=.slice none 0 0) (xv:=.slice A3 l[i].2.length c3) rfl rfl (B:=w.heap.size) (World.ownsRow_nil _ _ _ _) HV.out.row (z0x _) (by unfold maxLen;omega) (by omega) (by omega) ?_);intro v5 w5 o5 f5 k5 nil5)
          go_ret2
          refine⟨F2.out.trans f5 (fun b _ h=>by simp[Value.ownBlock] at h),.inr ?_⟩
          rw[HGE.out,HGV.out]
          refine⟨v5,rfl,BytesAt.ofOwn (by simpa using o5) (fun b e=>(o5.lt b e).1)⟩
        | false =>
          simp only[Bool.false_eq_true,if_false] at hgl
          have HGV:=zhd hgl
          clear hgl
          go_wp2
          go_ret2
          exact⟨F2.out,.inr (by rw[HGE.out,HGV.out];rfl)⟩
      · have hks0:ks≠[]:=fun e=>hne (by rw[e] at hkl;exact List.eq_nil_of_length_eq_zero hkl.symm)
        have hq:¬k=0∧ks.length=l.length+1∧∀x∈ks,Shape k 2 x:=by
         have:=HQ4.out
         split at this
         · exact absurd this hks0
         · exact⟨by assumption,this⟩
        obtain⟨hk0,hkn,hksh⟩:=hq
        have hfl:=HFS.out
        rw[if_neg hk0] at hfl
        rw[hfl] at hso hge
        have hgl:=z5n (k:=key) (by simpa using hkn) hso
        have HGE:=zhd hge.symm
        have HSH:=zhd hksh
        have HK3:=zhd k3
        have hknv:kvs.length=l.length+1:=by omega
        clear hso hge hksh k3 hfl
        generalize hfk:findL key l=fk at *
        obtain⟨i,there⟩:=fk
        go_wp2_with fail
        refine(HIT.out _ (Fr.refl _ _)).mono ?_
        rintro e w2 ⟨rfl,rfl⟩
        go_wp2_with fail
        refine HFI.out.mono ?_
        rintro e w2 ⟨rfl,f2⟩
        have F2:=zhd (F1.out.trans0 f2)
        have F12:=zhd f2
        clear f2
        cases there with
        | true =>
          simp only[if_true] at hgl
          obtain⟨hi,hgv⟩:=hgl
          obtain⟨g1,o1,rfl,_,hcc⟩:=HC3.out (by intro h;subst h;simp at hi)
          obtain⟨kv,vv,_,d2,_,d4⟩:=hcc i hi
          have d2':=F12.out.cell0 d2
          have HV:=zhd (d4.fr0 F12.out)
          have HGV:=zhd hgv
          obtain⟨A3,c3,rfl,-⟩:=(show _ from d4).form
          have hsz2:=F2.out.size
          clear hcc d2 d4 hgv
          have hkv:=(HKV.out _ (List.getElem_mem hi)).2.2
          go_wp2_with (at_builtin;go_must (refine z0k z1y rfl _ _ rfl (v:=.slice none 0 0) (xv:=.slice A3 l[i].2.length c3) rfl rfl (B:=w.heap.size) (World.ownsRow_nil _ _ _ _) HV.out.row (z0x _) (by unfold maxLen;omega) (by omega) (by omega) ?_);intro v5 w5 o5 f5 k5 nil5)
          go_ret2
          refine⟨F2.out.trans f5 (fun b _ h=>by simp[Value.ownBlock] at h),.inr ?_⟩
          rw[HGE.out,HGV.out]
          refine⟨v5,rfl,BytesAt.ofOwn (by simpa using o5) (fun b e=>(o5.lt b e).1)⟩
        | false =>
          simp only[Bool.false_eq_true,if_false,List.length_map] at hgl
          obtain⟨hi,hgv,hso2⟩:=hgl
          rw[List.getElem_map] at hgv hso2
          have HGV:=zhd hgv
          have HSO2:=zhd hso2
          have hiv:i<kvs.length:=by omega
          have HRK:=zhd ((All2.get i hi hiv HKS.out).fr0 F12.out)
          have k1':=F12.out.cell0 k0
          have k3':=F12.out.cell0 (HK3.out i kvs[i] (List.getElem?_eq_getElem _))
          rw[hknv] at k1'
          have hil:i≤l.length:=by omega
          clear hgv hso2 k0
          go_wp2
          go_roundg k
          case measure=>omega
          case rel=>
           exact⟨rfl,rfl,F2,ks[i],HRK,zhd ((HSH.out _ (List.getElem_mem hi)).mono (by omega)),HSO2,zhd (by rw[HGE.out,HGV.out])⟩
end
section
set_option maxHeartbeats 2000000
def natV (k:Nat):Value:=.int .i64 (k:Int)
structure WorkAt (c:Nat→Nat) (q:Nat) (w:World) (wp tp:Nat) (gone:List Nat):Prop where
 ex:∃gv,w.heap[wp]?=some (.cells #[.pointer (some ⟨tp,0,none⟩),gv] 229 (0,0))∧w.ownsRow 0 3 1 gv gone.length (gone.map natV)∧c wp=q∧∀b,gv.ownBlock=some b→c b=q
def goneOf (t:T):List Nat:=match t.nm with|.page id=>[id]|.mem ..=>[]
def NewPage (w:World) (d n:Nat) (v lv kv:Value) (xs kvs:List Value):Prop:=
 w.ownsRow 0 200 2 lv (xs.length / 2) xs∧
  ((d = 0 ∧ v = wLeaf n ∧ w.heap[n]? = some (.cells #[.int .i64 0, lv] 223 (0, 0))) ∨
   (¬d=0∧v=wInner n∧w.heap[n]?=some (.cells #[.int .i64 0,lv,kv] 198 (0,0))∧w.ownsRow 0 20 1 kv kvs.length kvs))
structure CopiedRes (c:Nat→Nat) (rn q:Nat) (w:World) (pg:Nat→Option Bs) (N d:Nat) (t:T) (wp tp:Nat) (gone:List Nat) (e:Ending) (w':World):Prop where
 fr:Fr (fun b=>c b=q) w w'
 ex:∃v n lv kv xs kvs c',e=.returned v∧NewPage w' d n v lv kv xs kvs∧All2 (Rep c rn w pg N False d) t.ks kvs∧xs.length=t.l.length*2∧
  ItemCells (fun b=>c' b=0∧b≠n∧¬lv.ownBlock=some b∧¬kv.ownBlock=some b) w' xs t.l∧
  w.heap.size≤n∧c' n=0∧(∀b,lv.ownBlock=some b→w.heap.size≤b∧c' b=0)∧(∀b,kv.ownBlock=some b→w.heap.size≤b∧c' b=0∧b≠n∧¬lv.ownBlock=some b)∧(¬lv.ownBlock=some n)∧
  Ag w.heap.size c c'∧Cl w' c'∧WorkAt c' q w' wp tp (gone++goneOf t)
end
section
set_option maxHeartbeats 1000000
end
end Go.Proofs.YtidalepbkljkpaaGreat
section
namespace Go.H
open Go.RowKit
def ownN (c:Nat→Nat) (ns:List Nat) (rn:Nat):Nat→Nat:=fun b=>if b∈ns then rn else c b
theorem z5q {c:Nat→Nat} {ns:List Nat} {rn b:Nat} (h:b∈ns):ownN c ns rn b=rn:=if_pos h
theorem z5r {c:Nat→Nat} {ns:List Nat} {rn b:Nat} (h:b∉ns):ownN c ns rn b=c b:=if_neg h
theorem z5s {n:Nat} {c c1:Nat→Nat} {ns:List Nat} {rn:Nat} (h:Ag n c c1) (hn:∀b∈ns,n≤b):Ag n c (ownN c1 ns rn):=fun b hb=>by
 rw[z5r (fun h=>by have:=hn b h;omega)];exact h b hb
theorem z5t {w:World} {c:Nat→Nat} {ns:List Nat} {rn:Nat} (h:Cl w c) (hn:∀b∈ns,b<w.heap.size):Cl w (ownN c ns rn):=fun b hb=>by
 rw[z5r (fun h=>by have:=hn b h;omega)];exact h b hb
end Go.H
namespace Go.Proofs.YtidalepbkljkpaaGreat
open Go.RowKit Go.H
set_option maxHeartbeats 2000000
set_option maxRecDepth 100000
structure Acc (n0 d:Nat) (t:T) (news:List T) (gone gone':List Nat):Prop where
 pg:∀id,sumN (news.map (cnt d (.pg id)))+gone'.count id=cnt d (.pg id) t+gone.count id
 cl:∀b o,sumN (news.map (cnt d (.cl b o)))≤if b<n0 then cnt d (.cl b o) t else 1
 dirty:sumN (news.map (dirtyN d))≤dirtyN d t+2*d
inductive PutEnd (c:Nat→Nat) (rn:Nat) (w:World) (pg:Nat→Option Bs) (N d m:Nat) (L:List KV) (more:Bool) (n0:Nat) (t:T) (gone gone':List Nat) (e:Ending):Prop
 |one {ta:T} {va:Value}:e=.returned (.tuple #[va,.nilIface,.agg #[.slice none 0 0,.slice none 0 0],.bool more])→Rep c rn w pg N False d ta va→Shape d m ta→flat d ta=L→Acc n0 d t [ta] gone gone'→PutEnd c rn w pg N d m L more n0 t gone gone' e
 |two {ta tb:T} {va vb kv vv:Value} {x:KV}:e=.returned (.tuple #[va,vb,.agg #[kv,vv],.bool more])→Rep c rn w pg N False d ta va→Rep c rn w pg N False d tb vb→Shape d 2 ta→Shape d 2 tb→BytesAt (Dt c) w kv x.1→BytesAt (Dt c) w vv x.2→KVok x→flat d ta++x::flat d tb=L→Acc n0 d t [ta,tb] gone gone'→PutEnd c rn w pg N d m L more n0 t gone gone' e
structure PutRes (c:Nat→Nat) (rn q:Nat) (w:World) (pg:Nat→Option Bs) (N d m:Nat) (t:T) (x:KV) (wp tp:Nat) (gone:List Nat) (e:Ending) (w':World):Prop where
 fr:Fr (fun b=>c b=q) w w'
 ex:∃c' gone',Ag w.heap.size c c'∧Cl w' c'∧WorkAt c' q w' wp tp gone'∧gone'.length≤gone.length+d∧PutEnd c' rn w' pg N d m (putL x (flat d t)) (decide (getL x.1 (flat d t)=none)) w.heap.size t gone gone' e
end Go.Proofs.YtidalepbkljkpaaGreat
end
namespace Go.Proofs.YtidalepbkljkpaaGreat
open Go.RowKit Go.H
set_option maxHeartbeats 1000000
set_option maxRecDepth 100000
section
def Apart (c:Nat→Nat) (r:Nat) (w:World) (ns:List Nat):Prop:=∀b∈ns,c b=r∧∃cs e f,w.heap[b]?=some (.cells cs e f)∧e≠172∧e≠113∧e≠125
def SPutR (c:Nat→Nat) (r:Nat) (w:World) (st:Nat) (S:SSt) (D:DSt) (l:Bs) (ns:List Nat) (i err:Int) (w':World):Prop:=Fr (fun b=>c b=r∧b∉ns) w w'∧((err=0∧i=(S.first:Int)∧∃c',Ag w.heap.size c c'∧Cl w' c'∧StoreOk c' r w' st (S.set S.first 1) (D.tick.write S.first (pageB l)))∨(err=20∧i=0∧Fell c r w w' S.dk D (CutQ D)))
def SComRN (c:Nat→Nat) (r:Nat) (w:World) (st root:Nat) (S:SSt) (D:DSt) (ns:List Nat) (err:Int) (w':World):Prop:=Fr (fun b=>c b=r∧b∉ns) w w'∧((err=0∧∃c',Ag w.heap.size c c'∧Cl w' c'∧StoreOk c' r w' st (S.commit root) (dcommit D (S.num+1) root))∨(err=20∧Fell c r w w' S.dk D (ComQ D (S.num+1) root)))
end
section
def marks (l b:List Nat):List (Int×Int):=l.map fun k:Nat=>((k:Int),if k∈b then(2:Int) else 1)
abbrev ones (l:List Nat):List (Int×Int):=marks l []
def Held (st:List (Int×Int)) (held:List Nat):Prop:=∃b,st=marks held b∧∀x∈b,x∈held
theorem z5u:∀{a b:List Nat},a.Nodup→(∀x∈a,x∈b)→a.length≤b.length
 |[],_,_,_=>Nat.zero_le _
 | x :: a, b, hn, h => by
   have hn2:=List.nodup_cons.1 hn
   have hx:=h x (by simp)
   have:=z5u (a:=a) (b:=b.erase x) hn2.2 fun y hy=>(List.mem_erase_of_ne (fun e=>hn2.1 (by rw[←e];exact hy))).2 (h y (List.mem_cons_of_mem _ hy))
   rw[List.length_erase_of_mem hx] at this
   have h0:0<b.length:=List.length_pos_of_mem hx
   simp only[List.length_cons];omega
end
end Go.Proofs.YtidalepbkljkpaaGreat
namespace Go.H
section
def inR (lo hi:List UInt8) (x:KV):Bool:=(decide (lo=[]) || decide (bcmp lo x.1≤0)) && (decide (hi=[]) || decide (bcmp x.1 hi<0))
def rangeL (lo hi:List UInt8) (l:List KV):List KV:=l.filter (inR lo hi)
def addR (n:Nat) (out r:List KV):List KV:=out++r.take (n-out.length)
theorem z5v (n:Nat) (out:List KV):addR n out []=out:=by simp[addR]
theorem z5w {n:Nat} {out:List KV} (h:n≤out.length) (r:List KV):addR n out r=out:=by simp[addR,Nat.sub_eq_zero_of_le h]
theorem z5x (n:Nat) (out a b:List KV):addR n (addR n out a) b=addR n out (a++b):=by
 unfold addR
 rw[List.take_append,List.append_assoc]
 congr 2
 simp only[List.length_append,List.length_take]
 congr 1
 omega
theorem z5y {n:Nat} {out:List KV} (h:out.length<n) (x:KV):addR n out [x]=out++[x]:=by
 unfold addR
 rw[List.take_of_length_le (by simp;omega)]
theorem z5z (lo hi:List UInt8) (a b:List KV):rangeL lo hi (a++b)=rangeL lo hi a++rangeL lo hi b:=by simp[rangeL]
theorem z60 {lo hi:List UInt8} {l:List KV} (h0:lo≠[]) (h:∀z∈l,bcmp z.1 lo<0):rangeL lo hi l=[]:=by
 refine List.filter_eq_nil_iff.2 fun z hz=>?_
 have:=h z hz
 have h2:=z42 z.1 lo
 have h3:¬bcmp lo z.1≤0:=by omega
 simp[inR,h0,h3]
theorem z61 {lo hi:List UInt8} {l:List KV} (h0:hi≠[]) (h:∀z∈l,bcmp hi z.1≤0):rangeL lo hi l=[]:=by
 refine List.filter_eq_nil_iff.2 fun z hz=>?_
 have:=h z hz
 have h2:=z42 z.1 hi
 have h3:¬bcmp z.1 hi<0:=by omega
 simp[inR,h0,h3]
theorem z62:∀{l:List KV} {fs:List (List KV)} {i:Nat} (h:i<l.length) (h2:i<fs.length),interH (l.take (i+1)) (fs.take (i+1))=interH (l.take i) (fs.take i)++(fs[i]++[l[i]])
 |[],_,_,h,_=>by simp at h
 |_::_,[],_,_,h=>by simp at h
 |x::l,f::fs,0,_,_=>by simp[interH]
 | x :: l, f :: fs, i + 1, h, h2 => by
   have:=z62 (l:=l) (fs:=fs) (i:=i) (by simpa using h) (by simpa using h2)
   simp[interH,this]
theorem z63 {l:List KV} {fs:List (List KV)} {i:Nat} (h:fs.length=l.length+1) (hs:Sorted (inter l fs)) (hi:i≤l.length) :
 inter l fs=interH (l.take i) (fs.take i)++((fs[i]'(by omega))++interT (l.drop i) (fs.drop (i+1)))∧Sorted (fs[i]'(by omega))∧
  ∀hl:i<l.length,(∀z∈fs[i]'(by omega),klt z l[i])∧∀z∈interT (l.drop i) (fs.drop (i+1)),bcmp l[i].1 z.1≤0:=by
 have e:inter l fs=interH (l.take i) (fs.take i)++((fs[i]'(by omega))++interT (l.drop i) (fs.drop (i+1))):=by
  have:=z4b (l.drop i) (fs[i]'(by omega)) (fs.drop (i+1)) (l1:=l.take i) (f1:=fs.take i) (by simp;omega)
  rw[←this,List.take_append_drop,←List.drop_eq_getElem_cons,List.take_append_drop]
 rw[e] at hs
 have p:=(List.pairwise_append.1 hs).2.1
 have p2:=List.pairwise_append.1 p
 refine⟨e,p2.1,fun hl=>?_⟩
 have hd:interT (l.drop i) (fs.drop (i+1))=l[i]::((fs[i+1]'(by omega))++interT (l.drop (i+1)) (fs.drop (i+2))):=by
  rw[List.drop_eq_getElem_cons hl,List.drop_eq_getElem_cons (show i+1<fs.length by omega)];rfl
 refine⟨fun z hz=>p2.2.2 z hz l[i] (by rw[hd];simp),fun z hz=>?_⟩
 have p3:=p2.2.1
 rw[hd] at hz p3
 rcases List.mem_cons.1 hz with rfl|hz
 · rw[z40];exact Int.le_refl _
 · exact Int.le_of_lt ((List.pairwise_cons.1 p3).1 z hz)
theorem z64:∀(l:List KV) (n:Nat),interT l (List.replicate n ([]:List KV))=l.take n
 |[],n=>by cases n<;>simp[interT,List.replicate]
 |x::l,0=>by simp[interT]
 |x::l,n+1=>by simp[interT,List.replicate,z64 l n]
theorem z65 (l:List KV):inter l (List.replicate (l.length+1) [])=l:=by
 simp[inter,List.replicate,z64]
end
section
open Go.RowKit
inductive PairCells (F:Nat→Prop) (w:World):List Value→List KV→Prop
 |nil:PairCells F w [] []
 |cons {x:KV} {kv vv:Value} {xs:List Value} {l:List KV}:BytesAt F w kv x.1→BytesAt F w vv x.2→PairCells F w xs l→PairCells F w (.int .i64 0::kv::vv::xs) (x::l)
namespace PairCells
variable {F F' C : Nat → Prop} {w w' : World}
theorem fr (hf:Fr C w w') (hd:∀b,F b→¬C b):∀{xs:List Value} {l:List KV},PairCells F w xs l→PairCells F w' xs l
 |_,_,.nil=>.nil
 |_,_,.cons h1 h2 h3=>.cons (h1.fr hf hd) (h2.fr hf hd) (fr hf hd h3)
theorem mono (hF:∀b,F b→b<w.heap.size→F' b):∀{xs:List Value} {l:List KV},PairCells F w xs l→PairCells F' w xs l
 |_,_,.nil=>.nil
 |_,_,.cons h1 h2 h3=>.cons (h1.mono hF) (h2.mono hF) (mono hF h3)
theorem append {ys:List Value} {m:List KV} (k:PairCells F w ys m):∀{xs:List Value} {l:List KV},PairCells F w xs l→PairCells F w (xs++ys) (l++m)
 |_,_,.nil=>k
 |_,_,.cons h1 h2 h3=>.cons h1 h2 (append k h3)
theorem length:∀{xs:List Value} {l:List KV},PairCells F w xs l→xs.length=l.length*3
 |_,_,.nil=>rfl
 |_,_,.cons h1 h2 h3=>by have:=length h3;simp only[List.length_cons];omega
theorem at_:∀{xs:List Value} {l:List KV} (i:Nat) (hi:i<l.length),PairCells F w xs l→∃kv vv,xs[i*3]?=some (.int .i64 0)∧xs[i*3+1]?=some kv∧xs[i*3+2]?=some vv∧BytesAt F w kv l[i].1∧BytesAt F w vv l[i].2
 |_,_,i,hi,.nil=>by simp at hi
 |_,_,0,hi,.cons h1 h2 h3=>⟨_,_,rfl,rfl,rfl,h1,h2⟩
 | _, _, i + 1, hi, .cons h1 h2 h3 => by
   have:=at_ i (by simpa using hi) h3
   rw[show(i+1)*3=i*3+1+1+1 by omega]
   exact this
end PairCells
def SndU (uT:Nat) (F:Nat→Prop) (w:World) (u:Value):Prop:=(∀A n k,u=.slice A n k→∃l,w.ownsRow 0 uT 1 u n l)∧∀b,u.ownBlock=some b→F b
theorem SndU.mono {uT:Nat} {F F':Nat→Prop} {w:World} {u:Value} (h:SndU uT F w u) (hF:∀b,F b→b<w.heap.size→F' b):SndU uT F' w u:=
 ⟨h.1, fun b e => hF b (h.2 b e) (by
  cases u with
  | slice A n k =>
    obtain⟨l,hl⟩:=h.1 A n k rfl
    exact(hl.lt b e).2
  |_=>simp[Value.ownBlock] at e)⟩
theorem SndU.fr {uT:Nat} {F C:Nat→Prop} {w w':World} {u:Value} (h:SndU uT F w u) (hf:Fr C w w') (hd:∀b,F b→¬C b):SndU uT F w' u:=
 ⟨fun A n k e => by
  obtain⟨l,hl⟩:=h.1 A n k e
  exact⟨l,z0l hl hf (fun b hb=>hd b (h.2 b hb))⟩,h.2⟩
theorem SndU.int (uT:Nat) (F:Nat→Prop) (w:World) (i:IntKind) (n:Int):SndU uT F w (.int i n):=⟨fun _ _ _ e=>(by cases e),fun b e=>(by simp[Value.ownBlock] at e)⟩
theorem SndU.own {uT B n:Nat} {F:Nat→Prop} {w:World} {u:Value} {l:List Value} (h:w.ownsRow B uT 1 u n l) (hF:∀b,u.ownBlock=some b→F b):SndU uT F w u:=by
 refine⟨fun A n' k e=>⟨l,z0m (B:=B) ?_ (fun b _=>Nat.zero_le _)⟩,hF⟩
 obtain⟨A',k',e',_⟩:=z0n h
 rw[e'] at e
 injection e with _ e2 _
 rw[←e2];exact h
def OutAt (pT uT:Nat) (B:Nat) (c:Nat→Nat) (q:Nat) (w:World) (v:Value) (L:List KV):Prop:=
 ∃xs,w.ownsRow 0 pT 3 v L.length xs∧PairCells (fun b=>c b=0∧B≤b) w xs L∧(∀b,v.ownBlock=some b→c b=q∧B≤b)∧∀u∈xs,SndU uT (fun b=>c b=0∧B≤b) w u
theorem OutAt.fr {pT uT B:Nat} {C:Nat→Prop} {c:Nat→Nat} {q:Nat} {w w':World} {v:Value} {L:List KV} (h:OutAt pT uT B c q w v L) (hf:Fr C w w') (h1:∀b,C b→c b≠q) (h2:∀b,C b→c b≠0):OutAt pT uT B c q w' v L:=by
 obtain⟨xs,a,b,e,s⟩:=h
 exact⟨xs,z0l a hf (fun b hb k=>h1 _ k (e b hb).1),b.fr hf (fun b hb k=>h2 _ k hb.1),e,fun u hu=>(s u hu).fr hf (fun b hb k=>h2 _ k hb.1)⟩
theorem OutAt.fr0 {pT uT B:Nat} {c:Nat→Nat} {q:Nat} {w w':World} {v:Value} {L:List KV} (h:OutAt pT uT B c q w v L) (hf:Fr C0 w w'):OutAt pT uT B c q w' v L:=h.fr hf (fun _ k=>k.elim) (fun _ k=>k.elim)
theorem OutAt.form {pT uT B:Nat} {c:Nat→Nat} {q:Nat} {w:World} {v:Value} {L:List KV} (h:OutAt pT uT B c q w v L):∃A cp,v=.slice A L.length cp∧(∀a,A=some a→∃g,a=⟨g,0,none⟩):=by
 obtain⟨xs,a,_⟩:=h;exact z0n a
theorem OutAt.frB {pT uT B:Nat} {C:Nat→Prop} {c:Nat→Nat} {q:Nat} {w w':World} {v:Value} {L:List KV} (h:OutAt pT uT B c q w v L) (hf:Fr C w w') (h1:∀b,C b→b<B):OutAt pT uT B c q w' v L:=by
 obtain⟨xs,a,b,e,s⟩:=h
 exact⟨xs,z0l a hf (fun b hb k=>by have:=h1 _ k;have:=(e b hb).2;omega),b.fr hf (fun b hb k=>by have:=h1 _ k;have:=hb.2;omega),e,fun u hu=>(s u hu).fr hf (fun b hb k=>by have:=h1 _ k;have:=hb.2;omega)⟩
theorem OutAt.lower {pT uT B B':Nat} {c:Nat→Nat} {q:Nat} {w:World} {v:Value} {L:List KV} (h:OutAt pT uT B c q w v L) (hB:B'≤B):OutAt pT uT B' c q w v L:=by
 obtain⟨xs,a,b,e,s⟩:=h
 exact⟨xs,a,b.mono fun b hb _=>⟨hb.1,by omega⟩,fun b hb=>⟨(e b hb).1,by have:=(e b hb).2;omega⟩,fun u hu=>(s u hu).mono fun b hb _=>⟨hb.1,by omega⟩⟩
theorem OutAt.nil (pT uT B:Nat) (c:Nat→Nat) (q:Nat) (w:World):OutAt pT uT B c q w (.slice none 0 0) []:=⟨[],World.ownsRow_nil _ _ _ _,.nil,fun b e=>by simp[Value.ownBlock] at e,by simp⟩
end
end Go.H
