import Derived.Test.YtidalepbkljkpaaGreatLocalSpaces14
import Derived.Deep.LoopGhost
import Derived.Deep.CutRange
import Derived.Deep.CutBlock
import Derived.Deep.DeepCutAuto
import Derived.Test.YtidalepbkljkpaaGreatLocalSpaces03
set_option linter.all false
namespace Go.Proofs.YtidalepbkljkpaaGreat
open Go.RowKit Go.H
set_option maxRecDepth 100000
section
set_option maxHeartbeats 1000000
theorem Loaded.iface {c:Nat→Nat} {rn:Nat} {w:World} {pg:Nat→Option Bs} {N:Nat} {X:Prop} {d:Nat} {t:T} {n g o:Nat} {kvs:List Value} {v:Value} (h:Loaded c rn w pg N X d t n g o kvs v):v=wLeaf n∨v=wInner n:=by
 obtain⟨⟨lv,_,_,_,h3⟩,_⟩:=h
 rcases h3 with⟨_,h⟩|⟨_,h,_⟩
 · exact .inl h
 · exact .inr h
theorem Rep.iface {c:Nat→Nat} {rn:Nat} {w:World} {pg:Nat→Option Bs} {N:Nat} {X:Prop} {d:Nat} {t:T} {v:Value} (h:Rep c rn w pg N X d t v):∃tx y,v=.iface tx y:=h.num.iface
def GetT (w w':World) (X:Prop) (e:Ending) (o:Option Bs):Prop:=
 Fr C0 w w'∧((X∧e=corrupt)∨match o with
  |some b=>∃v,e=.returned (.tuple #[v,.bool true])∧BytesAt (fun b=>w.heap.size≤b) w' v b
  |none=>e=.returned (.tuple #[.slice none 0 0,.bool false]))
theorem z8f {w:World} {tp:Nat} {kv:Value}:Calls Tryz.prog 94 #[.pointer (some ⟨tp,0,none⟩),.nilIface,kv] w fun e w'=>e=.returned (.tuple #[.slice none 0 0,.bool false])∧w=w':=by
 go_enter Tryz.func94,Tryz.ntmps94
 go_wp2
 refine wp_loop_rounds 1 ?_;rw[rounds_succ]
 go_wp2
 go_ret2
 exact⟨rfl,rfl⟩
theorem z8g {F:Nat→Prop} {c:Nat→Nat} {r rn:Nat} {w:World} {tp st:Nat} {S:SSt} {D:DSt} {X:Prop} {d m:Nat} {t:T} {v kv:Value} {key:Bs} (h:Hd c r w tp st S D) (hc:Cl w c) (hr:Rep c rn w (pgs D) D.blocks X d t v) (hs:Shape d m t) (hm:1≤m) (ho:Sorted (flat d t)) (hk:BytesAt F w kv key) :
 Calls Tryz.prog 94 #[.pointer (some ⟨tp,0,none⟩),v,kv] w fun e w'=>GetT w w' X e (getL key (flat d t)):=by
 have HK:=zhd hk
 have HH:=zhd h
 have HC:=zhd hc
 have HR:=zhd hr
 have HS:=zhd (show Shape d 1 t from hs.mono hm)
 have HO:=zhd ho
 obtain⟨A,cc,rfl,-⟩:=hk.form
 clear h hc hr hs ho hk
 go_enter Tryz.func94,Tryz.ntmps94
 go_wp2
 go_loopg [1,6,7] d (fun k v' s6 s7 wr=>s6=.slice none 0 0∧s7=.bool false∧Hid (Fr C0 w wr)∧∃t',Hid (Rep c rn wr (pgs D) D.blocks X k t' v')∧Hid (Shape k 1 t')∧Hid (Sorted (flat k t'))∧Hid (getL key (flat k t')=getL key (flat d t)))
 case atStart=>exact⟨rfl,rfl,zhd (Fr.refl _ _),t,HR,HS,HO,zhd rfl⟩
 case round=>
  obtain⟨rfl,rfl,HF,t',HR',HS',HO',HE⟩:=hrel
  cases gk with
  |zero=>exact HR'.out.elim
  | succ k =>
    have HL:=zhd (z81 (HH.out.fr0 HF.out) (HC.out.mono HF.out.size) HR'.out HS'.out (Nat.le_refl _))
    obtain⟨tx,y,rfl⟩:=HR'.out.iface
    go_wp2_with fail
    refine HL.out.mono ?_
    rintro e w1 ⟨f1,h1⟩
    have F1:=zhd (HF.out.trans0 f1)
    rcases h1 with⟨hX,rfl⟩|⟨v1,n,g,o,kvs,rfl,hl,_⟩
    · go_wp2
      exact⟨rfl,F1.out,.inl ⟨hX,rfl⟩⟩
    · have HSZ:=zhd F1.out.size
      obtain⟨nm,l,ks⟩:=t'
      have hif:=hl.iface
      obtain⟨hN0,_,_,hks0⟩:=hl
      have hN:NodeAt (Dt c) w1 n g o (T.node nm l ks).id l kvs v1:=hN0
      have hks:All2 (Rep c rn w1 (pgs D) D.blocks X k) ks kvs:=hks0
      clear hN0 hks0
      have HN:=zhd hN
      have HKS:=zhd hks
      have hkl:=All2.length hks
      obtain⟨lv,hlv,hit⟩:=z7g hN
      have HIT:=zhd hit
      have HLV:=zhd hlv
      have HFI:=zhd (z84 (hlv.mono (F':=fun _=>True) (fun _ _ _=>trivial)) ((HK.out.fr0 F1.out).mono (F':=fun _=>True) (fun _ _ _=>trivial)))
      obtain⟨q1,q2,q3,q4⟩:=HS'.out
      have hlen:l.length≤4:=q2
      have HQ4:=zhd q4
      have HKV:=zhd q3
      have HFS:Hid (if k=0 then flat (k+1) (.node nm l ks)=l else flat (k+1) (.node nm l ks)=inter l (ks.map (flat k))):=by
       refine zhd ?_
       split<;>rename_i hk0<;>simp[flat,hk0]
      clear hlv hit hN hks q1 q2 q3 q4
      obtain⟨A1,c1,rfl,hc1,hc2,hc3⟩:=HLV.out
      unfold maxLen at hc2
      have HC3:=zhd hc3
      clear hc3
      obtain⟨lv2,_,_,_,h3⟩:=HN.out
      have hso:=HO'.out
      have hge:=HE.out
      rcases h3 with⟨rfl,rfl⟩|⟨hne,rfl,kc,k0,k1,k2,k3⟩
      · have hks0:ks=[]:=by simpa using hkl
        have hk0:k=0:=by
         have:=HQ4.out
         split at this
         · assumption
         · rw[hks0] at this;simp at this
        have hfl:=HFS.out
        rw[if_pos hk0] at hfl
        rw[hfl] at hso hge
        have hgl:=z8d (k:=key) hso
        have HGE:=zhd hge.symm
        clear hso hge
        generalize hfk:findL key l=fk at *
        obtain⟨i,there⟩:=fk
        go_wp2_with fail
        refine(HIT.out _ (Fr.refl _ _)).mono ?_
        rintro e w2 ⟨rfl,rfl⟩
        go_wp2_with fail
        refine HFI.out.mono ?_
        rintro e w2 ⟨rfl,f2⟩
        have F2:=zhd (F1.out.trans0 f2)
        have F12:=zhd f2
        clear f2
        cases there with
        | true =>
          simp only[if_true] at hgl
          obtain⟨hi,hgv⟩:=hgl
          obtain⟨g1,o1,rfl,_,hcc⟩:=HC3.out (by intro h;subst h;simp at hi)
          obtain⟨kv,vv,_,d2,_,d4⟩:=hcc i hi
          have d2':=F12.out.cell0 d2
          have HV:=zhd (d4.fr0 F12.out)
          have HGV:=zhd hgv
          obtain⟨A3,c3,rfl,-⟩:=(show _ from d4).form
          have hsz2:=F2.out.size
          clear hcc d2 d4 hgv
          have hkv:=(HKV.out _ (List.getElem_mem hi)).2.2
          go_wp2_with (at_builtin;go_must (refine z0l z2o rfl _ _ rfl (v:=.slice none 0 0) (xv:=.slice A3 l[i].2.length c3) rfl rfl (B:=w.heap.size) (World.ownsRow_nil _ _ _ _) HV.out.row (z1c _) (by unfold maxLen;omega) (by omega) (by omega) ?_);intro v5 w5 o5 f5 k5 nil5)
          go_ret2
          refine⟨F2.out.trans f5 (fun b _ h=>by simp[Value.ownBlock] at h),.inr ?_⟩
          rw[HGE.out,HGV.out]
          refine⟨v5,rfl,BytesAt.ofOwn (by simpa using o5) (fun b e=>(o5.lt b e).1)⟩
        | false =>
          simp only[Bool.false_eq_true,if_false] at hgl
          have HGV:=zhd hgl
          clear hgl
          go_wp2
          go_ret2
          exact⟨F2.out,.inr (by rw[HGE.out,HGV.out];rfl)⟩
      · have hks0:ks≠[]:=fun e=>hne (by rw[e] at hkl;exact List.eq_nil_of_length_eq_zero hkl.symm)
        have hq:¬k=0∧ks.length=l.length+1∧∀x∈ks,Shape k 2 x:=by
         have:=HQ4.out
         split at this
         · exact absurd this hks0
         · exact⟨by assumption,this⟩
        obtain⟨hk0,hkn,hksh⟩:=hq
        have hfl:=HFS.out
        rw[if_neg hk0] at hfl
        rw[hfl] at hso hge
        have hgl:=z8e (k:=key) (by simpa using hkn) hso
        have HGE:=zhd hge.symm
        have HSH:=zhd hksh
        have HK3:=zhd k3
        have hknv:kvs.length=l.length+1:=by omega
        clear hso hge hksh k3 hfl
        generalize hfk:findL key l=fk at *
        obtain⟨i,there⟩:=fk
        go_wp2_with fail
        refine(HIT.out _ (Fr.refl _ _)).mono ?_
        rintro e w2 ⟨rfl,rfl⟩
        go_wp2_with fail
        refine HFI.out.mono ?_
        rintro e w2 ⟨rfl,f2⟩
        have F2:=zhd (F1.out.trans0 f2)
        have F12:=zhd f2
        clear f2
        cases there with
        | true =>
          simp only[if_true] at hgl
          obtain⟨hi,hgv⟩:=hgl
          obtain⟨g1,o1,rfl,_,hcc⟩:=HC3.out (by intro h;subst h;simp at hi)
          obtain⟨kv,vv,_,d2,_,d4⟩:=hcc i hi
          have d2':=F12.out.cell0 d2
          have HV:=zhd (d4.fr0 F12.out)
          have HGV:=zhd hgv
          obtain⟨A3,c3,rfl,-⟩:=(show _ from d4).form
          have hsz2:=F2.out.size
          clear hcc d2 d4 hgv
          have hkv:=(HKV.out _ (List.getElem_mem hi)).2.2
          go_wp2_with (at_builtin;go_must (refine z0l z2o rfl _ _ rfl (v:=.slice none 0 0) (xv:=.slice A3 l[i].2.length c3) rfl rfl (B:=w.heap.size) (World.ownsRow_nil _ _ _ _) HV.out.row (z1c _) (by unfold maxLen;omega) (by omega) (by omega) ?_);intro v5 w5 o5 f5 k5 nil5)
          go_ret2
          refine⟨F2.out.trans f5 (fun b _ h=>by simp[Value.ownBlock] at h),.inr ?_⟩
          rw[HGE.out,HGV.out]
          refine⟨v5,rfl,BytesAt.ofOwn (by simpa using o5) (fun b e=>(o5.lt b e).1)⟩
        | false =>
          simp only[Bool.false_eq_true,if_false,List.length_map] at hgl
          obtain⟨hi,hgv,hso2⟩:=hgl
          rw[List.getElem_map] at hgv hso2
          have HGV:=zhd hgv
          have HSO2:=zhd hso2
          have hiv:i<kvs.length:=by omega
          have HRK:=zhd ((All2.get i hi hiv HKS.out).fr0 F12.out)
          have k1':=F12.out.cell0 k0
          have k3':=F12.out.cell0 (HK3.out i kvs[i] (List.getElem?_eq_getElem _))
          rw[hknv] at k1'
          have hil:i≤l.length:=by omega
          clear hgv hso2 k0
          go_wp2
          go_roundg k
          case measure=>omega
          case rel=>
           exact⟨rfl,rfl,F2,ks[i],HRK,zhd ((HSH.out _ (List.getElem_mem hi)).mono (by omega)),HSO2,zhd (by rw[HGE.out,HGV.out])⟩
end
section
set_option maxHeartbeats 2000000
def natV (k:Nat):Value:=.int .i64 (k:Int)
structure WorkAt (c:Nat→Nat) (q:Nat) (w:World) (wp tp:Nat) (gone:List Nat):Prop where
 ex:∃gv,w.heap[wp]?=some (.cells #[.pointer (some ⟨tp,0,none⟩),gv] 229 (0,0))∧w.ownsRow 0 3 1 gv gone.length (gone.map natV)∧c wp=q∧∀b,gv.ownBlock=some b→c b=q
theorem WorkAt.fr {C:Nat→Prop} {c:Nat→Nat} {q:Nat} {w w':World} {wp tp:Nat} {gone:List Nat} (h:WorkAt c q w wp tp gone) (hf:Fr C w w') (h1:∀b,C b→c b≠q):WorkAt c q w' wp tp gone:=by
 obtain⟨gv,a,b,e,f⟩:=h
 exact⟨gv,hf.blk a (fun k=>h1 _ k e),z0m b hf (fun b hb k=>h1 _ k (f b hb)),e,f⟩
theorem WorkAt.fr0 {c:Nat→Nat} {q:Nat} {w w':World} {wp tp:Nat} {gone:List Nat} (h:WorkAt c q w wp tp gone) (hf:Fr C0 w w'):WorkAt c q w' wp tp gone:=h.fr hf (fun _ k=>k.elim)
theorem WorkAt.ag {c c':Nat→Nat} {q:Nat} {w:World} {wp tp:Nat} {gone:List Nat} (h:WorkAt c q w wp tp gone) (ha:Ag w.heap.size c c'):WorkAt c' q w wp tp gone:=by
 obtain⟨gv,a,b,e,f⟩:=h
 exact⟨gv,a,b,(ha _ (Array.getElem?_eq_some_iff.1 a).1).trans e,fun x hx=>(ha x (b.lt x hx).2).trans (f x hx)⟩
def goneOf (t:T):List Nat:=match t.nm with|.page id=>[id]|.mem ..=>[]
theorem z8h {c:Nat→Nat} {q:Nat} {w w1:World} {wp tp k:Nat} {gone:List Nat} {gv gv1:Value} (hc:Cl w c) (hb:w.heap[wp]?=some (.cells #[.pointer (some ⟨tp,0,none⟩),gv] 229 (0,0))) (ho:w.ownsRow 0 3 1 gv gone.length (gone.map natV)) (hq:c wp=q) (hg:∀b,gv.ownBlock=some b→c b=q)
 (o1:w1.ownsRow 0 3 1 gv1 (gone.length+1) ((gone.map natV)++[natV k])) (f1:Fr (fun b=>gv.ownBlock=some b) w w1) (k1:∀b,gv1.ownBlock=some b→gv.ownBlock=some b∨w.heap.size≤b) :
 ∃c',Ag w.heap.size c c'∧Cl (w1.setCell ⟨wp,1,none⟩ gv1) c'∧Fr (fun b=>c b=q) w (w1.setCell ⟨wp,1,none⟩ gv1)∧WorkAt c' q (w1.setCell ⟨wp,1,none⟩ gv1) wp tp (gone++[k])∧∀b,c' b=0→c b=0:=by
 have hag:Ag w.heap.size c (setc c gv1.ownBlock q):=z2m hg k1
 have hwl:=(Array.getElem?_eq_some_iff.1 hb).1
 have hne:∀b,gv.ownBlock=some b→b≠wp:=by
  intro b e h
  subst h
  obtain⟨cur,h2⟩:=z4y ho e
  rw[hb] at h2;simp at h2
 have hne1:∀b,gv1.ownBlock=some b→b≠wp:=fun b e h=>(k1 b e).elim (fun h2=>hne b h2 h) (fun h2=>by omega)
 have hf2:Fr (fun b=>b=wp) w1 (w1.setCell ⟨wp,1,none⟩ gv1):=(Fr.refl (fun b=>b=wp) w1).setCell (p:=⟨wp,1,none⟩) (.inr rfl) _
 have hb1:=f1.blk hb (fun e=>hne _ e rfl)
 refine⟨setc c gv1.ownBlock q,hag,fun b hbl=>?_,(f1.mono fun b _ e=>hg b e).trans hf2 (fun b _ e=>by rw[e];exact hq),⟨gv1,z2j (i:=1) hb1 gv1,?_,(hag wp hwl).trans hq,fun b e=>by simp[setc,e]⟩,fun b h=>?_⟩
 · have h1:=f1.size
   have h2:=hf2.size
   unfold setc
   split
   · rename_i e;have:=(o1.lt b e).2;omega
   · exact hc b (by omega)
 · have:=z0m o1 hf2 hne1
   simpa using this
 · unfold setc at h
   split at h
   · rename_i e
     rcases k1 b e with h2|h2
     · exact(hg b h2).trans h
     · exact hc b h2
   · exact h
def NewPage (w:World) (d n:Nat) (v lv kv:Value) (xs kvs:List Value):Prop:=
 w.ownsRow 0 200 2 lv (xs.length / 2) xs∧
  ((d = 0 ∧ v = wLeaf n ∧ w.heap[n]? = some (.cells #[.int .i64 0, lv] 223 (0, 0))) ∨
   (¬d=0∧v=wInner n∧w.heap[n]?=some (.cells #[.int .i64 0,lv,kv] 198 (0,0))∧w.ownsRow 0 20 1 kv kvs.length kvs))
structure CopiedRes (c:Nat→Nat) (rn q:Nat) (w:World) (pg:Nat→Option Bs) (N d:Nat) (t:T) (wp tp:Nat) (gone:List Nat) (e:Ending) (w':World):Prop where
 fr:Fr (fun b=>c b=q) w w'
 ex:∃v n lv kv xs kvs c',e=.returned v∧NewPage w' d n v lv kv xs kvs∧All2 (Rep c rn w pg N False d) t.ks kvs∧xs.length=t.l.length*2∧
  ItemCells (fun b=>c' b=0∧b≠n∧¬lv.ownBlock=some b∧¬kv.ownBlock=some b) w' xs t.l∧
  w.heap.size≤n∧c' n=0∧(∀b,lv.ownBlock=some b→w.heap.size≤b∧c' b=0)∧(∀b,kv.ownBlock=some b→w.heap.size≤b∧c' b=0∧b≠n∧¬lv.ownBlock=some b)∧(¬lv.ownBlock=some n)∧
  Ag w.heap.size c c'∧Cl w' c'∧WorkAt c' q w' wp tp (gone++goneOf t)
theorem z8i {c:Nat→Nat} {r rn q:Nat} {w:World} {tp st wp:Nat} {S:SSt} {D:DSt} {d m:Nat} {t:T} {v:Value} {gone:List Nat} (hq0:q≠0) (hqr:q≠r) (hqn:q≠rn) (h:Hd c r w tp st S D) (hc:Cl w c) (hw:WorkAt c q w wp tp gone) (hr:Rep c rn w (pgs D) D.blocks False (d+1) t v) (hs:Shape (d+1) m t) (hm:1≤m) (hgl:gone.length≤1000000) :
 Calls Tryz.prog 160 #[.pointer (some ⟨wp,0,none⟩),v] w (CopiedRes c rn q w (pgs D) D.blocks d t wp tp gone):=by
 have HL:=zhd (z81 h hc hr hs hm)
 obtain⟨tx,y,rfl⟩:=hr.iface
 obtain⟨gv,hb,ho,hcq,hg⟩:=hw.ex
 have w0:=z2k hb 0 rfl
 have HB:=zhd hb
 have HO:=zhd ho
 have HCQ:=zhd hcq
 have HG:=zhd hg
 have HW:=zhd hw
 have HC:=zhd hc
 have HR:=zhd hr
 have HS:=zhd hs
 clear h hc hr hs hb ho hcq hg hw
 go_enter Tryz.func160,Tryz.ntmps160
 go_wp2_with fail
 refine HL.out.mono ?_
 rintro e w1 ⟨f1,h1⟩
 rcases h1 with⟨hX,_⟩|⟨v1,nb,g,o,kvs,rfl,hl,hks0⟩
 · exact hX.elim
 have F1:=zhd f1
 have HLD:=zhd hl
 have HKS0:=zhd hks0
 clear HL f1 hl hks0
 have HNUM:Hid (Num w1 v1 t.id):=by
  obtain⟨⟨lv,h0,_,_,h3⟩,_⟩:=HLD.out
  rcases h3 with⟨_,rfl⟩|⟨_,rfl,_⟩
  · exact zhd (.inr ⟨nb,.inl rfl,h0⟩)
  · exact zhd (.inr ⟨nb,.inr rfl,h0⟩)
 have HFR:=zhd (z77 HNUM.out)
 go_wp2_with fail
 refine HFR.out.mono ?_
 rintro e w2 ⟨rfl,rfl⟩
 go_upto_if 16 with fail
 go_cut [] (fun wx=>∃c1,Hid (Ag w1.heap.size c c1)∧Hid (Cl wx c1)∧Hid (Fr (fun b=>c b=q) w1 wx)∧Hid (WorkAt c1 q wx wp tp (gone++goneOf t))∧Hid (∀b,c1 b=0→c b=0))
 case first=>
  have HC1:=zhd (HC.out.mono F1.out.size)
  have HW1:=zhd (HW.out.fr0 F1.out)
  obtain⟨nm,l,ks⟩:=t
  cases nm with
  | mem n0 g0 o0 =>
    have hid0:T.id (.node (.mem n0 g0 o0) l ks)=0:=rfl
    have HWF:Hid (WorkAt c q w1 wp tp (gone++goneOf (.node (.mem n0 g0 o0) l ks))):=zhd (by rw[show goneOf (.node (.mem n0 g0 o0) l ks)=[] from rfl,List.append_nil];exact HW1.out)
    rw[hid0]
    clear hid0
    go_wp2_with fail
    go_meet
    case rel=>exact⟨c,zhd (Ag.refl _ _),HC1,zhd (Fr.refl _ _),HWF,zhd (fun _ h=>h)⟩
  | page id =>
    have hid1:T.id (.node (.page id) l ks)=id:=rfl
    have hidp:id≠0:=by have:=HR.out.2.1;omega
    have hdec:decide (id=0)=false:=by simp[hidp]
    rw[hid1,hdec]
    rw[hid1] at HNUM
    clear hid1 hdec hidp
    have HGO:Hid (gone++goneOf (.node (.page id) l ks)=gone++[id]):=zhd rfl
    have hb1:=F1.out.blk HB.out (fun h=>h)
    have HB1:=zhd hb1
    have HO1:=zhd (z0m HO.out F1.out (fun _ _ h=>h))
    have d1:=z2k hb1 1 rfl
    have hnwp:¬gv.ownBlock=some wp:=fun e=>by
     obtain⟨cur,h2⟩:=z4y HO1.out e
     rw[hb1] at h2;simp at h2
    clear hb1
    go_wp2_with fail
    refine z1z (Fr (fun b=>gv.ownBlock=some b) w1) [11] (by kernel_rfl) ?_
    have hSw0:(Fr (fun b=>gv.ownBlock=some b) w1) _:=(Fr.refl _ w1).drew
    refine tk 0 hSw0 ?_
    refine tk 1 hSw0 ?_
    refine tk 2 hSw0 ?_
    refine tk 3 hSw0 ?_
    refine tk 4 hSw0 ?_ (hy:=by intro w_ hS_;have b1:=hS_.cell d1 hnwp;first|(go_simp;done)|(go_simp;with_reducible rfl))
    refine tk 5 hSw0 ?_
    refine one_ 6 rfl (fun K hK=>?_)
    go_simp
    refine(z76 (HNUM.out.fr0 (Fr.refl C0 w1).drew)).mono ?_
    rintro e w5 ⟨rfl,rfl⟩
    simp only[]
    refine hK.out _ _ ?kS1 (fun hSw1=>?kR1)
    case kS1=>exact(Fr.refl _ w1).drew
    clear hK K
    try simp only[Act.put,zs1,zs2,zs3]
    refine one_ 7 rfl (fun K hK=>?_)
    go_simp
    refine hK.out _ _ ?kS2 (fun hSw2=>?kR2)
    case kS2=>exact((Fr.refl _ w1).alloc _).drew
    clear hK K
    try simp only[Act.put,zs1,zs2,zs3]
    refine one_ 8 rfl (fun K hK=>?_)
    refine z0k z2r _ _ rfl (v:=gv) (xv:=.slice (some ⟨w1.heap.size,0,none⟩) 1 1) rfl rfl (z0m HO1.out (((Fr.refl C0 w1).drew.alloc (.cells #[natV id] 3))) (fun _ _ h=>h)) (Row.ofBlock (F:=fun _=>True) (heap_alloc_new _ _) trivial (by unfold maxLen;omega) rfl) (by simp[Value.oneCell',natV]) (by unfold maxLen;omega) (by omega) (Nat.zero_le _) ?_
    intro v6 w6 o6 f6 k6 nil6
    have F6:=zhd (((Fr.refl (fun b=>gv.ownBlock=some b) w1).drew.alloc (.cells #[natV id] 3)).trans f6 (fun _ _ h=>h))
    have hWs:(w1.drew.alloc (.cells #[natV id] 3)).heap.size=w1.heap.size+1:=by simp[go_sem]
    have HADD:=zhd (z8h (k:=id) (HC1.out.mono (w':=w1.drew.alloc (.cells #[natV id] 3)) (by omega)) (((Fr.refl C0 w1).drew.alloc (.cells #[natV id] 3)).blk HB1.out (fun h=>h)) (z0m HO1.out (((Fr.refl C0 w1).drew.alloc (.cells #[natV id] 3))) (fun _ _ h=>h)) HCQ.out HG.out o6 f6 k6)
    have hb6:=F6.out.blk HB1.out hnwp
    have e1:=z2k hb6 1 rfl
    have z1:=z2i 1 hb6
    obtain⟨A6,c6,rfl,-⟩:=z0o o6
    clear o6 f6 k6 nil6 hb6
    refine hK.out _ _ ?kS3 (fun hSw3=>?kR3)
    case kS3=>exact F6.out
    clear hK K
    try simp only[Act.put,zs1,zs2,zs3]
    refine tk 9 hSw3 ?_
    refine tk 10 hSw3 ?_
    refine z1v 11 rfl (fun K hK=>?_)
    go_simp
    refine hK.out _ _ ?_;clear hK K
    try simp only[Act.put,zs1,zs2,zs3]
    refine z1y (by kernel_rfl) ?_ _
    obtain⟨c7,ag7,cl7,f7,wk7,z7⟩:=HADD.out
    have A7:=zhd ag7
    have C7:=zhd cl7
    have F7:=zhd f7
    have W7:=zhd wk7
    have Z7:=zhd z7
    clear ag7 cl7 f7 wk7 z7
    go_wp2_with fail
    go_meet
    case rel=>
     refine⟨c7,zhd (fun b hb=>A7.out b (by omega)),C7,zhd ((((Fr.refl (fun b=>c b=q) w1).drew.alloc _)).trans F7.out (fun _ _ h=>h)),?_,Z7⟩
     rw[HGO.out]
     exact W7
 case rest=>
  obtain⟨c1,HA1,HCL1,HFR1,HW1,HZ1⟩:=hcut
  obtain⟨hN,hn1,hg1,hks⟩:=HLD.out
  have hnq:∀b,(c b=rn∨c b=0)→¬c b=q:=fun b h e=>h.elim (fun h=>hqn (e.symm.trans h)) (fun h=>hq0 (e.symm.trans h))
  obtain⟨lv0,m0,m1w,hit0,h3⟩:=hN
  have m1:=HFR1.out.cell m1w (hnq _ hn1)
  obtain⟨xs,hrow,hcells⟩:=hit0.cells
  have HXL:Hid (xs.length=t.l.length*2):=zhd hcells.length
  have HROW:=zhd (hrow.fr HFR1.out (fun b h e=>hq0 (e.symm.trans h)))
  have HCELLS:=zhd ((hcells.mono (F':=fun b=>c b=0∧b<w1.heap.size) (fun b h hl=>⟨h,hl⟩)).fr HFR1.out (fun b h e=>hq0 (e.symm.trans h.1)))
  obtain⟨A1,ca1,rfl,hca,hcam⟩:=hrow.form
  have hl4:t.l.length≤4:=by obtain⟨nm,l,ks⟩:=t;exact HS.out.2.1
  have hkl:=All2.length hks
  have HONE:=zhd hcells.one
  have HKSL:Hid (if d=0 then t.ks=[] else t.ks.length=t.l.length+1):=zhd (by obtain⟨nm,l,ks⟩:=t;have:=HS.out.2.2.2;split<;>rename_i hd;rwa [if_pos hd] at this;rw[if_neg hd] at this;exact this.1)
  have HN1:=zhd hn1
  have HG1:=zhd hg1
  have HNQ:=zhd hnq
  clear hit0 hrow hcells hks hn1 hg1 hnq m0 m1w
  unfold maxLen at hcam
  rcases h3 with⟨hkv0,rfl⟩|⟨hne,rfl,kc,k0,k1,k2,k3⟩
  · have hd0:d=0:=by
     have h1:=HKSL.out
     split at h1
     · assumption
     · rw[hkv0] at hkl;simp only[List.length_nil] at hkl;omega
    have HKE:=zhd hkl
    have HD0:=zhd hd0
    have HKV0:=zhd hkv0
    clear hkl hd0 hkv0
    go_wp2_with (at_builtin;go_must (refine z0l z2p rfl _ _ rfl (v:=.slice none 0 0) (xv:=.slice A1 t.l.length ca1) rfl rfl (B:=wc.heap.size) (World.ownsRow_nil _ _ _ _) HROW.out HONE.out (by unfold maxLen;omega) (by omega) (by omega) ?_);intro v5 w5 o5 f5 k5 nil5;obtain⟨A5,c5,rfl,-⟩:=z0o o5)
    rw[Nat.zero_add,List.nil_append] at o5
    go_ret
    have hf5:Fr C0 wc w5:=f5.mono (fun b _ h=>by simp[Value.ownBlock] at h)
    have hA:=(Fr.refl C0 w5).alloc (.cells #[.int .i64 0,.slice A5 t.l.length c5] 223)
    have hnew:=heap_alloc_new w5 (.cells #[.int .i64 0,.slice A5 t.l.length c5] 223)
    have hsz1:=F1.out.size
    have hsz2:=HFR1.out.size
    have hsz5:=hf5.size
    have hob:=fun b e=>o5.lt b e
    refine⟨(((F1.out.mono (fun _ _ h=>h.elim)).trans HFR1.out (fun _ _ h=>h)).trans0 hf5).trans0 hA,_,w5.heap.size,_,.slice none 0 0,xs,[],c1,rfl,⟨?_,.inl ⟨HD0.out,rfl,hnew⟩⟩,?_,HXL.out,?_,by omega,HCL1.out _ (by omega),fun b e=>⟨by have:=(hob b e).1;omega,HCL1.out _ (hob b e).1⟩,fun b e=>by simp[Value.ownBlock] at e,fun e=>by have:=(hob _ e).2;omega,fun b hb=>HA1.out b (by omega),HCL1.out.mono (by simp;omega),(HW1.out.fr0 hf5).fr0 hA⟩
    · have:=z0m (z0n (B':=0) o5 (fun _ _=>Nat.zero_le _)) hA (fun _ _ h=>h)
      rw[show xs.length / 2=t.l.length by have:=HXL.out;omega]
      exact this
    · have:=HKS0.out
      rwa [HKV0.out] at this
    · refine((HCELLS.out.fr0 hf5).fr0 hA).mono fun b hb _=>⟨by rw[HA1.out b hb.2];exact hb.1,by omega,fun e=>by have:=(hob b e).1;omega,fun e=>by simp[Value.ownBlock] at e⟩
  · have hd0:¬d=0:=by
     intro hd
     have h1:=HKSL.out
     rw[if_pos hd] at h1
     rw[h1] at hkl
     exact hne (List.eq_nil_of_length_eq_zero hkl.symm)
    have hkn:kvs.length=t.l.length+1:=by
     have h1:=HKSL.out
     rw[if_neg hd0] at h1
     omega
    have HKN:=zhd hkn
    have HD0:=zhd hd0
    have hq1:=HNQ.out _ HN1.out
    have hq2:=HNQ.out _ (HG1.out hne)
    have k0':=HFR1.out.cell k0 hq1
    have HKROW:Hid (Row (fun _=>True) wc (.slice (some ⟨g,o,none⟩) kvs.length kc) kvs.length 1 kvs):=zhd ⟨_,kc,rfl,k1,k2,by omega,fun _=>⟨g,o,rfl,trivial,fun j u hj=>HFR1.out.cell (k3 j u hj) hq2⟩⟩
    have HKONE:Hid (∀u∈kvs,u.oneCell'=true):=by
     refine zhd fun u hu=>?_
     obtain⟨i,hi,rfl⟩:=List.getElem_of_mem hu
     obtain⟨tx,y,hy⟩:=(All2.get i (by omega) hi HKS0.out).iface
     rw[hy];rfl
    have hk5:kvs.length≤5:=by omega
    unfold maxLen at k2
    clear hkl hd0 k3 hkn hq1 hq2
    go_wp2_with fail
    refine z1z (Fr C0 wc) [] (by kernel_rfl) ?_
    have hSw0:(Fr C0 wc) _:=(Fr.refl C0 wc).drew
    refine tk 0 hSw0 ?_
    refine tk 1 hSw0 ?_
    refine tk 2 hSw0 ?_
    refine tk 3 hSw0 ?_ (hy:=by intro w_ hS_;have b1:=hS_.cell0 m1;have b2:=hS_.cell0 k0';first|(go_simp;done)|(go_simp;with_reducible rfl))
    refine tk 5 hSw0 ?_
    refine tk 6 hSw0 ?_
    refine tk 7 hSw0 ?_
    refine tk 8 hSw0 ?_ (hy:=by intro w_ hS_;have b1:=hS_.cell0 m1;have b2:=hS_.cell0 k0';first|(go_simp;done)|(go_simp;with_reducible rfl))
    refine one_ 4 rfl (fun K hK=>?_)
    refine z0k z2p _ _ rfl (v:=.slice none 0 0) (xv:=.slice A1 t.l.length ca1) rfl rfl (B:=wc.heap.size) (World.ownsRow_nil _ _ _ _) (HROW.out.fr0 (by assumption)) HONE.out (by unfold maxLen;omega) (by omega) (by simp) ?_
    intro v5 w5 o5 f5 k5 nil5
    rw[Nat.zero_add,List.nil_append] at o5
    obtain⟨A5,c5,rfl,-⟩:=z0o o5
    have F5:=zhd ((Fr.refl C0 wc).drew.trans (f5.mono (C2:=C0) (fun b _ h=>by simp[Value.ownBlock] at h)) (fun _ _ h=>h))
    have O5:=zhd o5
    have hs5:=F5.out.size
    clear o5 f5 k5 nil5
    refine hK.out _ _ ?kS4 (fun hSw1=>?kR4)
    case kS4=>exact F5.out
    clear hK K
    try simp only[Act.put,zs1,zs2,zs3]
    refine one_ 9 rfl (fun K hK=>?_)
    refine z0k z2q _ _ rfl (v:=.slice none 0 0) (xv:=.slice (some ⟨g,o,none⟩) kvs.length kc) rfl rfl (B:=w5.heap.size) (World.ownsRow_nil _ _ _ _) (HKROW.out.fr0 F5.out) HKONE.out (by unfold maxLen;omega) (by omega) (by simp) ?_
    intro v6 w6 o6 f6 k6 nil6
    rw[Nat.zero_add,List.nil_append] at o6
    obtain⟨A6,c6,rfl,-⟩:=z0o o6
    have f6':=f6.mono (C2:=C0) (fun b _ h=>by simp[Value.ownBlock] at h)
    have F6:=zhd (F5.out.trans0 f6')
    have O6:=zhd o6
    have O56:=zhd (z0m O5.out f6' (fun _ _ h=>h))
    have hs6:=f6'.size
    clear o6 f6 k6 nil6 f6'
    refine hK.out _ _ ?kS5 (fun hSw2=>?kR5)
    case kS5=>exact F6.out
    clear hK K
    try simp only[Act.put,zs1,zs2,zs3]
    refine tk 10 hSw2 ?_
    refine one_ 11 rfl (fun K hK=>?_)
    go_simp
    refine hK.out _ _ ?kS6 (fun hSw3=>?kR6)
    case kS6=>exact F6.out.alloc _
    clear hK K
    try simp only[Act.put,zs1,zs2,zs3]
    refine tk 12 hSw3 ?_
    refine tk 13 hSw3 ?_
    refine z1y (by kernel_rfl) ?_ _
    go_wp2
    go_ret
    have hA:=(Fr.refl C0 w6).alloc (.cells #[.int .i64 0,.slice A5 t.l.length c5,.slice A6 kvs.length c6] 198)
    have hnew:=heap_alloc_new w6 (.cells #[.int .i64 0,.slice A5 t.l.length c5,.slice A6 kvs.length c6] 198)
    have hsz1:=F1.out.size
    have hsz2:=HFR1.out.size
    have hob5:=fun b e=>O5.out.lt b e
    have hob6:=fun b e=>O6.out.lt b e
    refine⟨((F1.out.mono (fun _ _ h=>h.elim)).trans HFR1.out (fun _ _ h=>h)).trans0 (F6.out.trans0 hA),_,w6.heap.size,_,.slice A6 kvs.length c6,xs,kvs,c1,rfl,⟨?_,.inr ⟨HD0.out,rfl,hnew,z0m (z0n (B':=0) O6.out (fun _ _=>Nat.zero_le _)) hA (fun _ _ h=>h)⟩⟩,HKS0.out,HXL.out,?_,by omega,HCL1.out _ (by omega),fun b e=>⟨by have:=(hob5 b e).1;omega,HCL1.out _ (hob5 b e).1⟩,fun b e=>⟨by have:=(hob6 b e).1;omega,HCL1.out _ (by have:=(hob6 b e).1;omega),fun h=>by have:=(hob6 b e).2;omega,fun h=>by have h1:=(hob6 b e).1;have h2:=(hob5 b h).2;omega⟩,fun e=>by have:=(hob5 _ e).2;omega,fun b hb=>HA1.out b (by omega),HCL1.out.mono (by simp;omega),(HW1.out.fr0 F6.out).fr0 hA⟩
    · have:=z0m (z0n (B':=0) O56.out (fun _ _=>Nat.zero_le _)) hA (fun _ _ h=>h)
      rw[show xs.length / 2=t.l.length by have:=HXL.out;omega]
      exact this
    · refine((HCELLS.out.fr0 F6.out).fr0 hA).mono fun b hb _=>⟨by rw[HA1.out b hb.2];exact hb.1,by omega,fun e=>by have:=(hob5 b e).1;omega,fun e=>by have:=(hob6 b e).1;omega⟩
end
section
set_option maxHeartbeats 1000000
theorem z8j {F:Nat→Prop} {A:Option Addr} {n c i:Nat} {xs:List Value} {kA vA:Option Addr} {kn kc vn vc:Nat} {w:World} (hl:Row F w (.slice A n c) n 2 xs) (hone:∀u∈xs,u.oneCell'=true) (hi:i≤n) (hn:n≤100) :
 Calls Tryz.prog 166 #[.slice A n c,.int .i64 i,.agg #[.slice kA kn kc,.slice vA vn vc]] w fun e w'=>∃v',e=.returned v'∧Fr C0 w w'∧w'.ownsRow w.heap.size 200 2 v' (n+1) (xs.take (i*2)++[.slice kA kn kc,.slice vA vn vc]++xs.drop (i*2)):=by
 obtain⟨_,_,he,hnc,hcm⟩:=hl.form
 injection he with e1 e2 e3
 subst e1;subst e3;clear e2
 unfold maxLen at hcm
 have HL:=zhd (hl.mono (F':=fun b=>b<w.heap.size) (fun b _ h=>h));clear hl
 have HO:=zhd hone;clear hone
 have hfr:=zhd ((Fr.refl C0 w).alloc (.cells #[.slice kA kn kc,.slice vA vn vc] 200))
 go_enter Tryz.func166,Tryz.ntmps166
 go_wp2_with (at_builtin;refine z0l z2p rfl _ _ rfl (v:=.slice none 0 0) (xv:=.slice A i c) rfl rfl (B:=w.heap.size+1) (World.ownsRow_nil _ _ _ _) ((HL.out.take hi).fr0 hfr.out) (z0p HO.out) (by unfold maxLen;omega) (by omega) (by simp) ?_;intro v1 w1 o1 f1 k1 nil1)
 have d0:w1.cell? ⟨w.heap.size,0,none⟩=some (.slice kA kn kc):=f1.cell (by simp[go_sem]) (by simp[Value.ownBlock])
 have d1:w1.cell? ⟨w.heap.size,1,none⟩=some (.slice vA vn vc):=f1.cell (by simp[go_sem]) (by simp[Value.ownBlock])
 have g1:Hid (Fr C0 w w1):=hfr.out.trans f1 (fun b _ h=>by simp[Value.ownBlock] at h)
 have O1:=zhd o1;clear o1
 have hB1:w.heap.size+1≤w1.heap.size:=by have:=f1.size;simpa using this
 clear nil1 k1 f1
 refine z1z (Fr (fun b=>v1.ownBlock=some b) w1) [] (by kernel_rfl) ?_
 have hSw0:(Fr (fun b=>v1.ownBlock=some b) w1) _:=(Fr.refl _ w1).drew
 refine tk 0 hSw0 ?_
 refine tk 1 hSw0 ?_ (hy:=by intro w_ hS_;have e0:=hS_.cellO O1.out d0 (by simp);have e1:=hS_.cellO O1.out d1 (by simp);first|(go_simp;done)|(go_simp;with_reducible rfl))
 refine tk 4 hSw0 ?_
 refine tk 5 hSw0 ?_
 refine tk 6 hSw0 ?_
 refine one_ 2 rfl (fun K hK=>?_)
 go_simp
 refine hK.out _ _ ?kS1 (fun hSw1=>?kR1)
 case kS1=>exact((Fr.refl _ w1).alloc _).drew
 clear hK K
 try simp only[Act.put,zs1,zs2,zs3]
 refine one_ 3 rfl (fun K hK=>?_)
 refine z0k z2p _ _ rfl (v:=v1) (xv:=.slice (some ⟨w1.heap.size,0,none⟩) 1 1) rfl rfl (z0m O1.out (((Fr.refl C0 w1).alloc _).drew) (fun _ _ h=>h)) (Row.ofBlock (F:=fun _=>True) (heap_alloc_new _ _) trivial (by unfold maxLen;omega) rfl) (by simp[Value.oneCell']) (by unfold maxLen;omega) (by omega) (by simp;omega) ?_
 intro v2 w2 o2 f2 k2 nil2
 have g2:=((Fr.refl (fun b=>v1.ownBlock=some b) w1).alloc (.cells #[.slice kA kn kc,.slice vA vn vc] 200)).drew.trans f2 (fun b _ h=>h)
 have O2:=zhd o2;clear o2
 have k2':∀b,b<w1.heap.size→v2.ownBlock=some b→v1.ownBlock=some b:=fun b hb e=>(k2 b e).elim id (fun h=>by simp at h;omega)
 have G2:=zhd (g1.out.transO g2 (fun b e=>by have:=(O1.out.lt _ e).1;omega))
 have hB2:=g2.size
 refine hK.out _ _ ?kS2 (fun hSw2=>?kR2)
 case kS2=>exact g2
 clear hK K
 try simp only[Act.put,zs1,zs2,zs3]
 refine one_ 7 rfl (fun K hK=>?_)
 refine z0k z2p _ _ rfl (v:=v2) (xv:=.slice (if c=i then A else A.map (·.add (i*2))) (n-i) (c-i)) rfl rfl O2.out ((HL.out.drop hi).fr0 G2.out) (z0q HO.out) (by unfold maxLen;omega) (by omega) (by omega) ?_
 intro v3 w3 o3 f3 k3 nil3
 have G3:=G2.out.transO f3 (fun b e=>by have:=(O2.out.lt _ e).1;omega)
 refine hK.out _ _ ?kS3 (fun hSw3=>?kR3)
 case kS3=>exact g2.trans f3 k2'
 clear hK K
 try simp only[Act.put,zs1,zs2,zs3]
 refine tk 8 hSw3 ?_
 refine z1y (by kernel_rfl) ?_ _
 go_wp2
 all_goals
  go_ret
  refine⟨v3,rfl,G3,?_⟩
  have o4:=z0n (B':=w.heap.size) o3 (fun b e=>by have:=(o3.lt _ e).1;omega)
  rw[show n+1=0+i+1+(n-i) by omega]
  simpa using o4
theorem z8k {F:Nat→Prop} {A:Option Addr} {n c i:Nat} {xs:List Value} {tx:Nat} {y:Value} {w:World} (hl:Row F w (.slice A n c) n 1 xs) (hone:∀u∈xs,u.oneCell'=true) (hi:i≤n) (hn:n≤100) :
 Calls Tryz.prog 167 #[.slice A n c,.int .i64 i,.iface tx y] w fun e w'=>∃v',e=.returned v'∧Fr C0 w w'∧w'.ownsRow w.heap.size 20 1 v' (n+1) (xs.take (i)++[.iface tx y]++xs.drop (i)):=by
 obtain⟨_,_,he,hnc,hcm⟩:=hl.form
 injection he with e1 e2 e3
 subst e1;subst e3;clear e2
 unfold maxLen at hcm
 have HL:=zhd (hl.mono (F':=fun b=>b<w.heap.size) (fun b _ h=>h));clear hl
 have HO:=zhd hone;clear hone
 have hfr:=zhd (Fr.refl C0 w)
 go_enter Tryz.func167,Tryz.ntmps167
 go_wp2_with (at_builtin;refine z0l z2q rfl _ _ rfl (v:=.slice none 0 0) (xv:=.slice A i c) rfl rfl (B:=w.heap.size) (World.ownsRow_nil _ _ _ _) ((HL.out.take1 hi).fr0 hfr.out) (z0p HO.out) (by unfold maxLen;omega) (by omega) (by simp) ?_;intro v1 w1 o1 f1 k1 nil1)
 have g1:Hid (Fr C0 w w1):=hfr.out.trans f1 (fun b _ h=>by simp[Value.ownBlock] at h)
 have O1:=zhd o1;clear o1
 have hB1:w.heap.size≤w1.heap.size:=by have:=f1.size;simpa using this
 clear nil1 k1 f1
 refine z1z (Fr (fun b=>v1.ownBlock=some b) w1) [] (by kernel_rfl) ?_
 have hSw0:(Fr (fun b=>v1.ownBlock=some b) w1) _:=(Fr.refl _ w1).drew
 refine tk 0 hSw0 ?_
 refine tk 1 hSw0 ?_
 refine tk 4 hSw0 ?_
 refine tk 5 hSw0 ?_
 refine tk 6 hSw0 ?_
 refine one_ 2 rfl (fun K hK=>?_)
 go_simp
 refine hK.out _ _ ?kS4 (fun hSw1=>?kR4)
 case kS4=>exact((Fr.refl _ w1).alloc _).drew
 clear hK K
 try simp only[Act.put,zs1,zs2,zs3]
 refine one_ 3 rfl (fun K hK=>?_)
 refine z0k z2q _ _ rfl (v:=v1) (xv:=.slice (some ⟨w1.heap.size,0,none⟩) 1 1) rfl rfl (z0m O1.out (((Fr.refl C0 w1).alloc _).drew) (fun _ _ h=>h)) (Row.ofBlock (F:=fun _=>True) (heap_alloc_new _ _) trivial (by unfold maxLen;omega) rfl) (by simp[Value.oneCell']) (by unfold maxLen;omega) (by omega) (by simp;omega) ?_
 intro v2 w2 o2 f2 k2 nil2
 have g2:=((Fr.refl (fun b=>v1.ownBlock=some b) w1).alloc (.cells #[.iface tx y] 20)).drew.trans f2 (fun b _ h=>h)
 have O2:=zhd o2;clear o2
 have k2':∀b,b<w1.heap.size→v2.ownBlock=some b→v1.ownBlock=some b:=fun b hb e=>(k2 b e).elim id (fun h=>by simp at h;omega)
 have G2:=zhd (g1.out.transO g2 (fun b e=>by have:=(O1.out.lt _ e).1;omega))
 have hB2:=g2.size
 refine hK.out _ _ ?kS5 (fun hSw2=>?kR5)
 case kS5=>exact g2
 clear hK K
 try simp only[Act.put,zs1,zs2,zs3]
 refine one_ 7 rfl (fun K hK=>?_)
 refine z0k z2q _ _ rfl (v:=v2) (xv:=.slice (if c=i then A else A.map (·.add (i))) (n-i) (c-i)) rfl rfl O2.out ((HL.out.drop1 hi).fr0 G2.out) (z0q HO.out) (by unfold maxLen;omega) (by omega) (by omega) ?_
 intro v3 w3 o3 f3 k3 nil3
 have G3:=G2.out.transO f3 (fun b e=>by have:=(O2.out.lt _ e).1;omega)
 refine hK.out _ _ ?kS6 (fun hSw3=>?kR6)
 case kS6=>exact g2.trans f3 k2'
 clear hK K
 try simp only[Act.put,zs1,zs2,zs3]
 refine tk 8 hSw3 ?_
 refine z1y (by kernel_rfl) ?_ _
 go_wp2
 all_goals
  go_ret
  refine⟨v3,rfl,G3,?_⟩
  have o4:=z0n (B':=w.heap.size) o3 (fun b e=>by have:=(o3.lt _ e).1;omega)
  rw[show n+1=0+i+1+(n-i) by omega]
  simpa using o4
end
end Go.Proofs.YtidalepbkljkpaaGreat
