import Derived.Test.YtidalepbkljkpaaGreatLocalSpaces15
import Derived.Test.YtidalepbkljkpaaGreatLocalSpaces16
import Derived.Deep.CutRange
import Derived.Deep.CutBlock
import Derived.Deep.DeepCutAuto
set_option linter.all false
namespace Go.Proofs.YtidalepbkljkpaaGreat
open Go.RowKit Go.H
set_option maxHeartbeats 2000000
set_option maxRecDepth 100000
section
abbrev Out (B:Nat) (c:Nat→Nat) (q:Nat) (w:World) (v:Value) (L:List KV):Prop:=OutAt 42 5 B c q w v L
def ThroughRes (B:Nat) (c:Nat→Nat) (q:Nat) (w:World) (X:Prop) (L:List KV) (e:Ending) (w':World):Prop:=
 Fr (fun b=>c b=q) w w'∧((X∧e=corrupt)∨∃v' c',e=.returned v'∧Ag w.heap.size c c'∧Cl w' c'∧Out B c' q w' v' L)
theorem z9o {B:Nat} {c:Nat→Nat} {q:Nat} {w w1:World} {v v1 kv vv:Value} {L:List KV} {x:KV} {xs:List Value} (hq:q≠0) (hc:Cl w c) (ho:w.ownsRow 0 42 3 v L.length xs) (hB:B≤w.heap.size) (hp:PairCells (fun b=>c b=0∧B≤b) w xs L) (hb:∀b,v.ownBlock=some b→c b=q∧B≤b)
 (h1:w1.ownsRow 0 42 3 v1 (L.length+1) (xs++[.int .i64 0,kv,vv])) (hf:Fr (fun b=>v.ownBlock=some b) w w1) (hk:∀b,v1.ownBlock=some b→v.ownBlock=some b∨w.heap.size≤b) (ha:BytesAt (fun b=>c b=0∧B≤b) w kv x.1) (hv:BytesAt (fun b=>c b=0∧B≤b) w vv x.2) (hs:∀u∈xs,SndU 5 (fun b=>c b=0∧B≤b) w u) (hsk:SndU 5 (fun b=>c b=0∧B≤b) w kv) (hsv:SndU 5 (fun b=>c b=0∧B≤b) w vv) :
 Fr (fun b=>c b=q) w w1∧∃c',Ag w.heap.size c c'∧Cl w1 c'∧Out B c' q w1 v1 (L++[x]):=by
 have hag:Ag w.heap.size c (setc c v1.ownBlock q):=z2m (fun b e=>(hb b e).1) hk
 have hdt:∀b,c b=0→b<w.heap.size→(setc c v1.ownBlock q) b=0:=fun b h hl=>(hag b hl).trans h
 have hnd:∀b,c b=0→¬v.ownBlock=some b:=fun b h e=>hq ((hb b e).1.symm.trans h)
 refine⟨hf.mono fun b _ h=>(hb b h).1,_,hag,fun b hbl=>?_,_,by simpa using h1,?_,fun b e=>⟨by simp[setc,e],(hk b e).elim (fun h=>(hb b h).2) (fun h=>Nat.le_trans hB h)⟩,fun u hu=>?_⟩
 · unfold setc
   split
   · rename_i e;have:=(h1.lt b e).2;omega
   · exact hc b (by have:=hf.size;omega)
 · have hpk:PairCells (fun b=>c b=0∧B≤b∧b<w.heap.size) w1 (xs++[.int .i64 0,kv,vv]) (L++[x]):=by
    refine PairCells.append (.cons ?_ ?_ .nil) ?_
    · exact(ha.mono (F':=fun b=>c b=0∧B≤b∧b<w.heap.size) (fun b h hl=>⟨h.1,h.2,hl⟩)).fr hf (fun b h=>hnd b h.1)
    · exact(hv.mono (F':=fun b=>c b=0∧B≤b∧b<w.heap.size) (fun b h hl=>⟨h.1,h.2,hl⟩)).fr hf (fun b h=>hnd b h.1)
    · exact(hp.mono (F':=fun b=>c b=0∧B≤b∧b<w.heap.size) (fun b h hl=>⟨h.1,h.2,hl⟩)).fr hf (fun b h=>hnd b h.1)
   exact hpk.mono fun b h _=>⟨hdt b h.1 h.2.2,h.2.1⟩
 · have key:∀u,SndU 5 (fun b=>c b=0∧B≤b) w u→SndU 5 (fun b=>(setc c v1.ownBlock q) b=0∧B≤b) w1 u:=fun u h=>
    ((h.mono (F':=fun b=>c b=0∧B≤b∧b<w.heap.size) (fun b h hl=>⟨h.1,h.2,hl⟩)).fr hf (fun b h=>hnd b h.1)).mono fun b h _=>⟨hdt b h.1 h.2.2,h.2.1⟩
   rcases List.mem_append.1 hu with hu|hu
   · exact key u (hs u hu)
   · simp at hu
     rcases hu with rfl|rfl|rfl
     · exact .int _ _ _ _ _
     · exact key _ hsk
     · exact key _ hsv
def fsOf (d:Nat) (t:T):List (List KV):=if d=0 then List.replicate (t.l.length+1) [] else t.ks.map (flat d)
theorem z9p {d m:Nat} {t:T} (h:Shape (d+1) m t):(fsOf d t).length=t.l.length+1∧flat (d+1) t=inter t.l (fsOf d t):=by
 obtain⟨nm,l,ks⟩:=t
 obtain⟨_,_,_,h4⟩:=h
 unfold fsOf
 by_cases hd:d=0
 · rw[if_pos hd]
   exact⟨by simp,by simp only[flat,if_pos hd,T.l,z9n]⟩
 · rw[if_neg hd] at h4⊢
   exact⟨by rw[List.length_map];exact h4.1,by simp only[flat,if_neg hd,T.l,T.ks]⟩
theorem z9q {B:Nat} {w:World} {tp n:Nat} {v lov hiv A:Value} {c:Nat→Nat} {q:Nat} {L:List KV} {X:Prop} {M:List KV} (hv:∃tx y,v=.iface tx y) (ho:Out B c q w A L) (hc:Cl w c) (hf:n≤L.length) :
 Calls Tryz.prog 118 #[.pointer (some ⟨tp,0,none⟩),v,lov,hiv,.int .i64 (n:Int),A] w (ThroughRes B c q w X (addR n L M)):=by
 have HE:Hid (ThroughRes B c q w X (addR n L M) (.returned A) w):=zhd ⟨Fr.refl _ _,.inr ⟨A,c,rfl,Ag.refl _ _,hc,by rw[z9e hf];exact ho⟩⟩
 obtain⟨tx,y,rfl⟩:=hv
 obtain⟨A,cp,rfl,-⟩:=ho.form
 clear ho hc
 have hf':(n:Int)≤(L.length:Int):=by omega
 go_enter Tryz.func118,Tryz.ntmps118
 go_wp2
 go_ret
 exact HE.out
theorem z9r (n:Nat) (L:List KV) (lo hi:List UInt8) (P:List KV):(addR n L (rangeL lo hi P)).length≤L.length+P.length:=by
 have:=List.length_filter_le (inR lo hi) P
 simp only[addR,rangeL,List.length_append,List.length_take];omega
theorem _root_.Go.H.ItemsAt.at_ {F:Nat→Prop} {w:World} {g o n cp:Nat} {l:List KV} (h:ItemsAt F w (.slice (some ⟨g,o,none⟩) n cp) l) {i:Nat} (hi:i<l.length):∃kv vv,w.cell? ⟨g,o+i*2,none⟩=some kv∧w.cell? ⟨g,o+i*2+1,none⟩=some vv∧BytesAt F w kv l[i].1∧BytesAt F w vv l[i].2:=by
 obtain⟨_,_,hsl,_,_,h3⟩:=h
 injection hsl with hsl _ _
 obtain⟨g1,o1,he,_,hc⟩:=h3 (by intro h;rw[h] at hi;simp at hi)
 rw[←hsl] at he
 injection he with he
 injection he with e1 e2 _
 subst e1;subst e2
 exact hc i hi
theorem agq {c c1:Nat→Nat} {w:World} {q:Nat} (hq:q≠0) (hc:Cl w c) (ha:Ag w.heap.size c c1):∀b,c b=q→c1 b=q:=fun b e=>by
 by_cases hb:b<w.heap.size
 · rw[ha b hb,e]
 · exact absurd ((hc b (by omega)).symm.trans e) (fun h=>hq h.symm)
def condA (ok:Bool) (i:Nat) (lo:List UInt8) (l:List KV):Bool:=ok && (decide (i=l.length) || decide (lo=[]) || decide (bcmp lo (l.getD i ([],[])).1<0))
def condB (n i:Nat) (hi:List UInt8) (l out:List KV):Bool:=decide (i=l.length) || decide (n≤out.length) || (decide (hi≠[]) && decide (0≤bcmp (l.getD i ([],[])).1 hi))
def condC (lo:List UInt8) (x:KV):Bool:=decide (lo=[]) || decide (bcmp lo x.1≤0)
theorem z9s {ok:Bool} {i:Nat} {lo hi:List UInt8} {l F:List KV} (h:condA ok i lo l=false) (hle:i≤l.length) (h0:ok=false→F=[]) (hz:∀h:i<l.length,∀z∈F,klt z l[i]):rangeL lo hi F=[]:=by
 cases ok with
 |false=>rw[h0 rfl];rfl
 | true =>
   simp only[condA,Bool.true_and,Bool.or_eq_false_iff,decide_eq_false_iff_not] at h
   obtain⟨⟨h1,h2⟩,h3⟩:=h
   have hlt:i<l.length:=by omega
   rw[List.getD_eq_getElem?_getD,List.getElem?_eq_getElem hlt] at h3
   refine z9i h2 fun z hz'=>z71 (hz hlt z hz') ?_
   have:=z6g lo l[i].1
   simp only[Option.getD_some] at h3
   omega
theorem z9t {n i:Nat} {lo hi:List UInt8} {l out R:List KV} (h:condB n i hi l out=true) (hle:i≤l.length) (h0:i=l.length→R=[]) (hR:∀h:i<l.length,∀z∈R,bcmp l[i].1 z.1≤0):addR n out (rangeL lo hi R)=out:=by
 by_cases hi1:i=l.length
 · rw[h0 hi1];exact z9d _ _
 by_cases hf:n≤out.length
 · exact z9e hf _
 have hlt:i<l.length:=by omega
 simp only[condB,hi1,hf,decide_false,Bool.false_or,Bool.and_eq_true,decide_eq_true_eq,List.getD_eq_getElem?_getD,List.getElem?_eq_getElem hlt,Option.getD_some] at h
 rw[z9j h.1 fun z hz=>?_]
 · exact z9d _ _
 · have h1:=hR hlt z hz
   by_cases e:bcmp l[i].1 hi=0
   · rw[←z6f e];exact h1
   · have h2:=z6g l[i].1 hi
     exact Int.le_of_lt (z71 (by omega:bcmp hi l[i].1<0) h1)
theorem z9u {n i:Nat} {lo hi:List UInt8} {l out:List KV} (hlt:i<l.length) (hB:condB n i hi l out=false) (hC:condC lo l[i]=true):out.length<n∧addR n out (rangeL lo hi [l[i]])=out++[l[i]]:=by
 simp only[condB,Bool.or_eq_false_iff,Bool.and_eq_false_iff,decide_eq_false_iff_not,List.getD_eq_getElem?_getD,List.getElem?_eq_getElem hlt,Option.getD_some] at hB
 obtain⟨⟨_,h2⟩,h3⟩:=hB
 have hin:inR lo hi l[i]=true:=by
  unfold condC at hC
  simp only[inR,Bool.and_eq_true,hC,true_and,Bool.or_eq_true,decide_eq_true_eq]
  rcases h3 with h3|h3
  · exact .inl (by simpa using h3)
  · exact .inr (by omega)
 refine⟨by omega,?_⟩
 rw[show rangeL lo hi [l[i]]=[l[i]] by simp[rangeL,hin],z9g (by omega)]
theorem z9v {lo hi:List UInt8} {x:KV} (hC:condC lo x=false):rangeL lo hi [x]=[]:=by
 unfold condC at hC
 simp[rangeL,inR,hC]
theorem z9w {B r rn q st tp n:Nat} {S:SSt} {D:DSt} {X:Prop} {lo hi:List UInt8} {lov hiv:Value} (hq0:q≠0) (hqr:q≠r) (hqn:q≠rn) (hn:n≤9223372036854775807) (d:Nat) :
 ∀ (m : Nat) (c : Nat → Nat) (w : World) (t : T) (v ov : Value) (L : List KV), Hd c r w tp st S D → Cl w c → Rep c rn w (pgs D) D.blocks X d t v → Shape d m t → 1 ≤ m → Sorted (flat d t) → BytesAt (Dt c) w lov lo → BytesAt (Dt c) w hiv hi → Out B c q w ov L → B ≤ w.heap.size → L.length + (flat d t).length ≤ 100000 →
   Calls Tryz.prog 118 #[.pointer (some ⟨tp,0,none⟩),v,lov,hiv,.int .i64 (n:Int),ov] w (ThroughRes B c q w X (addR n L (rangeL lo hi (flat d t)))):=by
 induction d with
 |zero=>intro m c w t v ov L hh hc hr;exact hr.elim
 | succ d ih =>
   intro m c w t v ov L hh hc hr hs hm hso hlo hhi hov hBw hL
   by_cases hf:n≤L.length
   · exact z9q hr.iface hov hc hf
   have HL:=zhd (z81 hh hc hr hs hm)
   obtain⟨tx,y,rfl⟩:=hr.iface
   have hf':¬(n:Int)≤(L.length:Int):=by omega
   have IH:=zhd ih
   obtain⟨A,cp,rfl,-⟩:=hov.form
   obtain⟨LA,lc,rfl,-⟩:=hlo.form
   obtain⟨HA,hcc,rfl,-⟩:=hhi.form
   have HOV:=zhd hov
   have HH:=zhd hh
   have HC:=zhd hc
   have HLO:=zhd hlo
   have HHI:=zhd hhi
   obtain⟨hfs,hfl⟩:=z9p hs
   have hl4:t.l.length≤4:=by obtain⟨nm,l,ks⟩:=t;exact hs.2.1
   have hl1:1≤t.l.length:=by obtain⟨nm,l,ks⟩:=t;exact Nat.le_trans hm hs.1
   have HKV:Hid (∀x∈t.l,KVok x):=zhd (by obtain⟨nm,l,ks⟩:=t;exact hs.2.2.1)
   have HSH:Hid (¬d=0→∀k∈t.ks,Shape d 2 k):=zhd (by obtain⟨nm,l,ks⟩:=t;intro hd;have:=hs.2.2.2;rw[if_neg hd] at this;exact this.2)
   have HFS0:Hid (¬d=0→fsOf d t=t.ks.map (flat d)):=zhd (fun hd=>by unfold fsOf;rw[if_neg hd])
   have HFS1:Hid (d=0→∀f∈fsOf d t,f=[]):=zhd (fun hd f hf=>by unfold fsOf at hf;rw[if_pos hd] at hf;exact List.eq_of_mem_replicate hf)
   have HKSL:Hid (if d=0 then t.ks=[] else t.ks.length=t.l.length+1):=zhd (by obtain⟨nm,l,ks⟩:=t;have:=hs.2.2.2;split<;>rename_i hd;rwa [if_pos hd] at this;rw[if_neg hd] at this;exact this.1)
   rw[hfl] at hso hL⊢
   have HSO:=zhd hso
   have HFSL:=zhd hfs
   clear hov hh hc hr hs hso hlo hhi ih hfl hfs
   go_enter Tryz.func118,Tryz.ntmps118
   go_wp2_with fail
   refine HL.out.mono ?_
   rintro e w1 ⟨f1,h1⟩
   have F1:=zhd f1
   rcases h1 with⟨hX,rfl⟩|⟨v1,nb,g,o,kvs,rfl,hl,_⟩
   · go_wp2
     exact⟨rfl,F1.out.mono (fun _ _ h=>h.elim),.inl ⟨hX,rfl⟩⟩
   · clear HL f1
     have HLD:=zhd hl
     clear hl
     go_upto_region 4 with fail
     go_cut [14,15] (fun s14 s15 wx=>∃p ok,s14=p∧s15=.bool ok∧Hid (¬d=0→p=.pointer (some ⟨nb,0,none⟩))∧Hid (ok=decide (¬d=0))∧w1=wx)
     case first=>
      obtain⟨⟨_,_,_,_,h3⟩,_,_,hk⟩:=HLD.out
      have hkl:=All2.length hk
      have HKL:=zhd hkl
      clear hk hkl
      rcases h3 with⟨rfl,rfl⟩|⟨hne,rfl,_⟩
      · go_wp2_with fail
        go_meet
        case rel=>
         have hd:d=0:=by
          have h1:=HKSL.out
          have h2:t.ks.length=0:=HKL.out
          split at h1
          · assumption
          · omega
         exact⟨_,_,rfl,rfl,zhd (fun h=>absurd hd h),zhd (by simp[hd]),rfl⟩
      · go_wp2_with fail
        go_meet
        case rel=>
         have hd:¬d=0:=by
          intro hd
          have h1:=HKSL.out
          rw[if_pos hd] at h1
          have h2:=HKL.out
          rw[h1] at h2
          exact hne (List.eq_nil_of_length_eq_zero h2.symm)
         exact⟨_,_,rfl,rfl,zhd (fun h=>rfl),zhd (by simp[hd]),rfl⟩
     case rest=>
      obtain⟨p,ok,rfl,rfl,HP,HOK,rfl⟩:=hcut
      obtain⟨lv,hlv,hit⟩:=z7g HLD.out.1
      have HIT:=zhd hit
      have HLV:=zhd hlv
      obtain⟨A1,ca1,rfl,_,_,hlv3⟩:=hlv
      obtain⟨g1,o1,rfl,hg1d,hlv4⟩:=hlv3 (by intro h;rw[h] at hl1;simp at hl1)
      have HG1:Hid (c g1=0∧g1<w1.heap.size):=zhd ⟨hg1d,by obtain⟨_,_,a1,_⟩:=hlv4 0 (by omega);exact World.block_lt_of_cell? w1 _ a1⟩
      clear hlv3 hlv4 hg1d
      clear hit
      go_wp2_with fail
      refine(HIT.out _ (Fr.refl _ _)).mono ?_
      rintro e w2 ⟨rfl,rfl⟩
      go_wp2_with fail
      go_loopg [5,17] (t.l.length+1) (fun k s5 s17 wr=>∃i:Nat,k+i=t.l.length+1∧i≤t.l.length∧s17=.int .i64 (i:Int)∧∃c1,Hid (Ag w1.heap.size c c1)∧Hid (Cl wr c1)∧Hid (Fr (fun b=>c b=q) w1 wr)∧Hid (Out B c1 q wr s5 (addR n L (rangeL lo hi (interH (t.l.take i) ((fsOf d t).take i))))))
      case atStart=>
       refine⟨0,rfl,Nat.zero_le _,rfl,c,zhd (Ag.refl _ _),zhd (HC.out.mono F1.out.size),zhd (Fr.refl _ _),zhd ?_⟩
       rw[show interH (t.l.take 0) ((fsOf d t).take 0)=[] from rfl,show rangeL lo hi []=[] from rfl,z9d]
       exact HOV.out.fr0 F1.out
      case round=>
       obtain⟨i,hki,hil,rfl,c1,HAG,HCL,HFR,HOUT⟩:=hrel
       have hcutL:=z9l HFSL.out HSO.out hil
       have hiF:i<(fsOf d t).length:=by have:=HFSL.out;omega
       obtain⟨hcE,hcS,hcI⟩:=hcutL
       have hlen:=congrArg List.length hcE
       simp only[List.length_append] at hlen
       have HCS:=zhd hcS
       have HCI:Hid (∀hl:i<t.l.length,(∀z∈(fsOf d t)[i]'hiF,klt z t.l[i])∧∀z∈interT (t.l.drop i) ((fsOf d t).drop (i+1)),bcmp t.l[i].1 z.1≤0):=zhd (fun hl=>hcI hl)
       have HCE:=zhd hcE
       have hale:=z9r n L lo hi (interH (t.l.take i) ((fsOf d t).take i))
       clear hcS hcI hcE
       have HFx:Hid (¬d=0→∃(h:i<t.ks.length),(fsOf d t)[i]=flat d t.ks[i]):=zhd (fun hd=>by
        have h1:=HKSL.out
        rw[if_neg hd] at h1
        exact⟨by omega,by simp[HFS0.out hd]⟩)
       have HFy:Hid (d=0→(fsOf d t)[i]=[]):=zhd (fun h=>HFS1.out h _ (List.getElem_mem hiF))
       have HPS:Hid (∀h:i<t.l.length,interH (t.l.take (i+1)) ((fsOf d t).take (i+1))=interH (t.l.take i) ((fsOf d t).take i)++((fsOf d t)[i]++[t.l[i]])):=zhd (fun h=>z9k h hiF)
       generalize interH (t.l.take i) ((fsOf d t).take i)=P at *
       generalize (fsOf d t)[i]=F at *
       have hilI:(i:Int)≤(t.l.length:Int):=by omega
       have HAC:=zhd (agq hq0 (HC.out.mono F1.out.size) HAG.out)
       have HD0:Hid (∀b,c b=q→c b≠0):=zhd (fun b h e=>hq0 (h.symm.trans e))
       have HLW:Hid (ItemsAt (Dt c) wr (.slice (some ⟨g1,o1,none⟩) t.l.length ca1) t.l):=zhd (HLV.out.fr HFR.out (fun b h e=>HD0.out b e h))
       have HLOW:Hid (BytesAt (Dt c) wr (.slice LA lo.length lc) lo):=zhd ((HLO.out.fr0 F1.out).fr HFR.out (fun b h e=>HD0.out b e h))
       have HHIW:Hid (BytesAt (Dt c) wr (.slice HA hi.length hcc) hi):=zhd ((HHI.out.fr0 F1.out).fr HFR.out (fun b h e=>HD0.out b e h))
       have hAC:=HAC.out
       have HQ:Hid (∀b,c b=q→c1 b≠r∧c1 b≠0∧c1 b≠rn):=zhd (fun b h=>by rw[hAC b h];exact⟨hqr,hq0,hqn⟩)
       have HHW:Hid (Hd c1 r wr tp st S D):=zhd (((HH.out.fr0 F1.out).ag HAG.out).fr HFR.out (fun b h=>(HQ.out b h).1) (fun b h=>(HQ.out b h).2.1))
       have HLO1:Hid (BytesAt (Dt c1) wr (.slice LA lo.length lc) lo):=zhd (((HLO.out.fr0 F1.out).ag HAG.out).fr HFR.out (fun b h e=>(HQ.out b e).2.1 h))
       have HHI1:Hid (BytesAt (Dt c1) wr (.slice HA hi.length hcc) hi):=zhd (((HHI.out.fr0 F1.out).ag HAG.out).fr HFR.out (fun b h e=>(HQ.out b e).2.1 h))
       have HFW:Hid (Fr (fun b=>c b=q) w wr):=zhd ((F1.out.mono (fun _ _ h=>h.elim)).trans HFR.out (fun _ _ h=>h))
       have HS1:=zhd F1.out.size
       have HAR1:Hid (∀b,b<w1.heap.size→c1 b=q→c b=q):=zhd (fun b hb e=>by rw[←HAG.out b hb];exact e)
       have HAR:Hid (∀b,b<w.heap.size→c1 b=q→c b=q):=zhd (fun b hb e=>HAR1.out b (by have:=F1.out.size;omega) e)
       clear hAC
       go_upto_region 9 with fail
       go_cut [64] (fun s64 wx=>s64=.bool (condA ok i lo t.l)∧wr=wx)
       case first=>
        cases ok with
        | false =>
          go_wp2_with fail
          go_meet
          case rel=>exact⟨by simp[condA],rfl⟩
        | true =>
          by_cases hie:i=t.l.length
          · have he:((i:Int) == (t.l.length:Int))=true:=by rw[hie];exact beq_self_eq_true _
            go_wp2_with fail
            go_meet
            case rel=>exact⟨by simp[condA,hie],rfl⟩
          · have he:((i:Int) == (t.l.length:Int))=false:=beq_false_of_ne (by omega)
            have hlt:i<t.l.length:=by omega
            by_cases hlo:lo=[]
            · have h0:((lo.length:Int) == 0)=true:=by rw[hlo];rfl
              go_wp2_with fail
              go_meet
              case rel=>exact⟨by simp[condA,hlo],rfl⟩
            · have h0:((lo.length:Int) == 0)=false:=beq_false_of_ne (by have:=List.length_pos_iff.2 hlo;omega)
              obtain⟨kv,vv,d1,_,d3,_⟩:=HLW.out.at_ hlt
              have HCM:=zhd (z83 HLOW.out d3)
              obtain⟨A3,c3,rfl,-⟩:=(show _ from d3).form
              clear d3
              have HLO0:=zhd hlo
              have HHL:=zhd hlt
              go_wp2_with fail
              refine HCM.out.mono ?_
              rintro e w2 ⟨rfl,rfl⟩
              go_wp2_with fail
              go_meet
              case rel=>exact⟨by simp[condA,hie,HLO0.out,List.getD_eq_getElem?_getD,hlt],rfl⟩
       case rest=>
        obtain⟨rfl,rfl⟩:=hcut
        go_upto_if 64 with fail
        go_cut [5] (fun s5 wx=>∃c2,Hid (Ag w1.heap.size c c2)∧Hid (Cl wx c2)∧Hid (Fr (fun b=>c b=q) w1 wx)∧Hid (Out B c2 q wx s5 (addR n L (rangeL lo hi (P++F)))))
        case first=>
         cases hcA:condA ok i lo t.l with
         | false =>
           have HCA:=zhd hcA
           clear hcA
           go_wp2_with fail
           go_meet
           case rel=>
            refine⟨c1,HAG,HCL,HFR,?_⟩
            rw[z9h,z9s HCA.out hil (fun h=>HFy.out (by have:=HOK.out;rw[h] at this;simpa using this.symm)) (fun h=>(HCI.out h).1),List.append_nil]
            exact HOUT
         | true =>
           have hok:ok=true:=by cases ok with|true=>rfl|false=>simp[condA] at hcA
           have hd:¬d=0:=by have:=HOK.out;rw[hok] at this;simpa using this.symm
           obtain⟨hik,hFk⟩:=HFx.out hd
           obtain⟨hN,hn1,hg1,hks⟩:=HLD.out
           have hkl:=All2.length hks
           have hikv:i<kvs.length:=by omega
           have hkne:kvs≠[]:=fun e=>by rw[e] at hikv;simp at hikv
           have hNW:=hN.fr HFR.out (fun h=>hn1.elim (fun e=>hqn (h.symm.trans e)) (fun e=>hq0 (h.symm.trans e))) (fun hk h=>(hg1 hk).elim (fun e=>hqn (h.symm.trans e)) (fun e=>hq0 (h.symm.trans e))) (fun b h e=>hq0 (e.symm.trans h))
           obtain⟨_,_,_,_,h3⟩:=hNW
           rcases h3 with⟨h3,_⟩|⟨_,hv1,kc,k0,k1,k2,k3⟩
           · exact absurd h3 hkne
           have k3i:=k3 i kvs[i] (List.getElem?_eq_getElem _)
           have hrk:=Rep.fr HFR.out (fun b h=>(HQ.out b h).2.2) (fun b h=>(HQ.out b h).2.1) (Rep.ag HAG.out (All2.get i hik hikv hks))
           have hpe:=HP.out hd
           subst hpe
           have HIH:=zhd (IH.out 2 c1 wr t.ks[i] kvs[i] u5 _ HHW.out HCL.out hrk (HSH.out hd _ (List.getElem_mem _)) (by omega) (by rw[←hFk];exact HCS.out) HLO1.out HHI1.out HOUT.out (by have:=HFW.out.size;omega) (by rw[←hFk];omega))
           rw[←hFk] at HIH
           obtain⟨tx2,y2,hy2⟩:=hrk.iface
           rw[hy2] at k3i HIH
           have hilk:(i:Int)<(kvs.length:Int):=by omega
           clear hN hn1 hg1 hks hkl hkne k3 hrk hFk hy2 hcA hok hv1
           go_wp2_with fail
           refine HIH.out.mono ?_
           rintro e w3 ⟨f3,h3|⟨v3,c3,rfl,ag3,cl3,o3⟩⟩
           · obtain⟨hX,rfl⟩:=h3
             have HF3:=zhd (HFW.out.trans f3 (fun b hb e=>HAR.out b hb e))
             clear f3
             go_wp2
             exact⟨rfl,HF3.out,.inl ⟨hX,rfl⟩⟩
           · have F3:=zhd f3
             have A3:=zhd ag3
             have C3:=zhd cl3
             have O3:=zhd o3
             have HSW:=zhd HFR.out.size
             clear f3 ag3 cl3 o3
             go_wp2_with fail
             go_meet
             case rel=>
              refine⟨c3,zhd (HAG.out.trans A3.out HSW.out),C3,zhd (HFR.out.trans F3.out (fun b hb e=>HAR1.out b hb e)),?_⟩
              rw[z9h,←z9f]
              exact O3
        case rest=>
         obtain⟨c2,HAG2,HCL2,HFR2,HOUT2⟩:=hcut
         have hale2:=z9r n L lo hi (P++F)
         rw[List.length_append] at hale2
         have HFIN:Hid (∀R,inter t.l (fsOf d t)=P++(F++R)→addR n L (rangeL lo hi (inter t.l (fsOf d t)))=addR n (addR n L (rangeL lo hi (P++F))) (rangeL lo hi R)):=zhd (fun R e=>by rw[e,z9f,←z9h,List.append_assoc])
         have HNX:Hid (∀x,addR n L (rangeL lo hi (P++(F++[x])))=addR n (addR n L (rangeL lo hi (P++F))) (rangeL lo hi [x])):=zhd (fun x=>by rw[z9f,←z9h,List.append_assoc])
         generalize addR n L (rangeL lo hi (P++F))=O2 at *
         have hAC2:=agq hq0 (HC.out.mono HS1.out) HAG2.out
         have HQ2:Hid (∀b,c b=q→c2 b≠r∧c2 b≠0∧c2 b≠rn):=zhd (fun b h=>by rw[hAC2 b h];exact⟨hqr,hq0,hqn⟩)
         have HLW2:Hid (ItemsAt (Dt c) wc (.slice (some ⟨g1,o1,none⟩) t.l.length ca1) t.l):=zhd (HLV.out.fr HFR2.out (fun b h e=>HD0.out b e h))
         have HLOW2:Hid (BytesAt (Dt c) wc (.slice LA lo.length lc) lo):=zhd ((HLO.out.fr0 F1.out).fr HFR2.out (fun b h e=>HD0.out b e h))
         have HHIW2:Hid (BytesAt (Dt c) wc (.slice HA hi.length hcc) hi):=zhd ((HHI.out.fr0 F1.out).fr HFR2.out (fun b h e=>HD0.out b e h))
         have HFW2:Hid (Fr (fun b=>c b=q) w wc):=zhd ((F1.out.mono (fun _ _ h=>h.elim)).trans HFR2.out (fun _ _ h=>h))
         obtain⟨OA,oc,rfl,-⟩:=HOUT2.out.form
         clear hAC2 HFW HHW HLO1 HHI1 HQ HLW HLOW HHIW HOUT HFR HCL
         go_upto_region 11 with fail
         go_cut [102] (fun s102 wx=>s102=.bool (condB n i hi t.l O2)∧wc=wx)
         case first=>
          by_cases hie:i=t.l.length
          · have he:((i:Int) == (t.l.length:Int))=true:=by rw[hie];exact beq_self_eq_true _
            go_wp2_with fail
            go_meet
            case rel=>exact⟨by simp[condB,hie],rfl⟩
          · have he:((i:Int) == (t.l.length:Int))=false:=beq_false_of_ne (by omega)
            have hlt:i<t.l.length:=by omega
            by_cases hfu:n≤O2.length
            · have hfu':(n:Int)≤(O2.length:Int):=by omega
              go_wp2_with fail
              go_meet
              case rel=>exact⟨by simp[condB,hfu],rfl⟩
            · have hfu':¬(n:Int)≤(O2.length:Int):=by omega
              by_cases hh0:hi=[]
              · have h0:¬(0:Int)<(hi.length:Int):=by rw[hh0];simp
                have HH0:=zhd hh0
                clear hh0
                go_wp2_with fail
                go_meet
                case rel=>exact⟨by simp[condB,hie,hfu,HH0.out],rfl⟩
              · have h0:(0:Int)<(hi.length:Int):=by have:=List.length_pos_iff.2 hh0;omega
                obtain⟨kv,vv,d1,_,d3,_⟩:=HLW2.out.at_ hlt
                have HCM:=zhd (z83 d3 HHIW2.out)
                obtain⟨A3,c3,rfl,-⟩:=(show _ from d3).form
                have HH0:=zhd hh0
                clear d3 hh0
                go_wp2_with fail
                refine HCM.out.mono ?_
                rintro e w3 ⟨rfl,rfl⟩
                go_wp2_with fail
                go_meet
                case rel=>exact⟨by simp[condB,hie,HH0.out,hfu,List.getD_eq_getElem?_getD,hlt],rfl⟩
         case rest=>
          obtain⟨rfl,hw⟩:=hcut
          subst hw
          cases hcB:condB n i hi t.l O2 with
          | true =>
            have HCB:=zhd hcB
            clear hcB
            go_wp2
            go_ret
            refine⟨HFW2.out,.inr ⟨_,c2,rfl,fun b hb=>HAG2.out b (Nat.lt_of_lt_of_le hb HS1.out),HCL2.out,?_⟩⟩
            rw[HFIN.out _ HCE.out,z9t HCB.out hil (fun h=>by rw[h,List.drop_length];rfl) (fun h=>(HCI.out h).2)]
            exact HOUT2.out
          | false =>
            have HCB:=zhd hcB
            clear hcB
            have hlt:i<t.l.length:=by
             have:=HCB.out
             simp only[condB,Bool.or_eq_false_iff,decide_eq_false_iff_not] at this
             omega
            obtain⟨kv,vv,d1,d2,d3,d4⟩:=HLW2.out.at_ hlt
            have HCM:=zhd (z83 HLOW2.out d3)
            have HD3:=zhd d3
            have HD4:=zhd d4
            have HKX:=zhd (HKV.out _ (List.getElem_mem hlt))
            obtain⟨A3,c3,rfl,-⟩:=(show _ from d3).form
            obtain⟨A4,c4,rfl,-⟩:=(show _ from d4).form
            clear d3 d4
            go_upto_region 12 with fail
            go_cut [115] (fun s115 wx=>s115=.bool (condC lo t.l[i])∧wc=wx)
            case first=>
             by_cases hlo:lo=[]
             · have h0:((lo.length:Int) == 0)=true:=by rw[hlo];rfl
               have HLO0:=zhd hlo
               clear hlo
               go_wp2_with fail
               go_meet
               case rel=>exact⟨by simp[condC,HLO0.out],rfl⟩
             · have h0:((lo.length:Int) == 0)=false:=beq_false_of_ne (by have:=List.length_pos_iff.2 hlo;omega)
               have HLO0:=zhd hlo
               clear hlo
               go_wp2_with fail
               refine HCM.out.mono ?_
               rintro e w3 ⟨rfl,rfl⟩
               go_wp2_with fail
               go_meet
               case rel=>exact⟨by simp[condC,HLO0.out],rfl⟩
            case rest=>
             obtain⟨rfl,hw⟩:=hcut
             subst hw
             cases hcC:condC lo t.l[i] with
             | false =>
               have HCC:=zhd hcC
               clear hcC
               go_wp2
               go_roundg (gk-1)
               case measure=>omega
               case rel=>
                refine⟨i+1,by omega,by omega,by go_num,c2,HAG2,HCL2,HFR2,?_⟩
                rw[HPS.out hlt,HNX.out,z9v HCC.out,z9d]
                exact HOUT2
             | true =>
               have HCC:=zhd (z9u hlt HCB.out hcC)
               clear hcC
               obtain⟨xs,o2,p2,b2,s2⟩:=HOUT2.out
               have S2w:=zhd s2
               have O2w:=zhd o2
               have P2w:=zhd p2
               have B2w:=zhd b2
               have hkx:=HKX.out
               unfold KVok at hkx
               have hng:¬(Value.slice OA O2.length oc).ownBlock=some g1:=by
                intro e
                have h1:=(b2 g1 e).1
                have h2:=HG1.out
                have h3:=HAG2.out g1 (by have:=h2.2;omega)
                exact hq0 (h1.symm.trans (h3.trans h2.1))
               clear o2 p2 b2 s2
               go_wp2_with fail
               refine z1z (Fr (fun b=>(Value.slice OA O2.length oc).ownBlock=some b) wc) [] (by kernel_rfl) ?_
               have hSw0:(Fr (fun b=>(Value.slice OA O2.length oc).ownBlock=some b) wc) _:=(Fr.refl _ wc).drew
               refine tk 0 hSw0 ?_
               refine tk 1 hSw0 ?_
               refine tk 2 hSw0 ?_
               refine tk 3 hSw0 ?_
               refine tk 4 hSw0 ?_
               refine tk 5 hSw0 ?_ (hy:=by intro w_ hS_;have b1:=hS_.cell d1 hng;have b2:=hS_.cell d2 hng;first|(go_simp;done)|(go_simp;with_reducible rfl))
               refine tk 7 hSw0 ?_
               refine tk 8 hSw0 ?_
               refine tk 9 hSw0 ?_
               refine tk 10 hSw0 ?_
               refine tk 11 hSw0 ?_ (hy:=by intro w_ hS_;have b1:=hS_.cell d1 hng;have b2:=hS_.cell d2 hng;first|(go_simp;done)|(go_simp;with_reducible rfl))
               refine one_ 6 rfl (fun K hK=>?_)
               go_simp
               refine(z34 (HD3.out.fr0 (Fr.refl C0 wc).drew) (by omega)).mono ?_
               rintro e w5 ⟨v5,rfl,f5,n5⟩
               simp only[]
               have N5:=zhd n5
               have o5:=BytesAt.ofOwn n5 (fun b e=>(n5.lt b e).1)
               have O5:=zhd o5
               have F5:=zhd ((Fr.refl C0 wc).drew.trans0 f5)
               clear f5 o5 n5
               refine hK.out _ _ ?kS1 (fun hSw1=>?kR1)
               case kS1=>exact F5.out.mono (fun _ _ h=>h.elim)
               clear hK K
               try simp only[Act.put,zs1,zs2,zs3]
               refine one_ 12 rfl (fun K hK=>?_)
               go_simp
               refine(z34 (HD4.out.fr0 F5.out) (by omega)).mono ?_
               rintro e w6 ⟨v6,rfl,f6,n6⟩
               simp only[]
               have N6:=zhd n6
               have N56:=zhd (z0m N5.out f6 (fun _ _ h=>h))
               have o6:=BytesAt.ofOwn n6 (fun b e=>(n6.lt b e).1)
               have O6:=zhd o6
               have O56:=zhd (O5.out.fr0 f6)
               have F6:=zhd (F5.out.trans0 f6)
               have hs5:=F5.out.size
               obtain⟨A5,cc5,rfl,-⟩:=O5.out.form
               obtain⟨A6,cc6,rfl,-⟩:=O6.out.form
               clear f6 o6 n6
               refine hK.out _ _ ?kS2 (fun hSw2=>?kR2)
               case kS2=>exact F6.out.mono (fun _ _ h=>h.elim)
               clear hK K
               try simp only[Act.put,zs1,zs2,zs3]
               refine tk 13 hSw2 ?_
               refine one_ 14 rfl (fun K hK=>?_)
               go_simp
               refine hK.out _ _ ?kS3 (fun hSw3=>?kR3)
               case kS3=>exact(F6.out.alloc _).mono (fun _ _ h=>h.elim)
               clear hK K
               try simp only[Act.put,zs1,zs2,zs3]
               refine one_ 15 rfl (fun K hK=>?_)
               refine z0k z2s _ _ rfl (v:=.slice OA O2.length oc) (xv:=.slice (some ⟨w6.heap.size,0,none⟩) 1 1) rfl rfl (z0m O2w.out (F6.out.alloc (.cells #[.int .i64 0,.slice A5 t.l[i].1.length cc5,.slice A6 t.l[i].2.length cc6] 42)) (fun _ _ h=>h)) (Row.ofBlock (F:=fun _=>True) (heap_alloc_new _ _) trivial (by unfold maxLen;omega) rfl) (by simp[Value.oneCell']) (by unfold maxLen;omega) (by omega) (Nat.zero_le _) ?_
               intro v7 w7 o7 f7 k7 nil7
               have hs6:=F6.out.size
               have hsW:(w6.alloc (.cells #[.int .i64 0,.slice A5 t.l[i].1.length cc5,.slice A6 t.l[i].2.length cc6] 42)).heap.size=w6.heap.size+1:=by simp
               have HADD:=zhd (z9o (x:=t.l[i]) hq0 (HCL2.out.mono (w':=w6.alloc (.cells #[.int .i64 0,.slice A5 t.l[i].1.length cc5,.slice A6 t.l[i].2.length cc6] 42)) (by omega)) (z0m O2w.out (F6.out.alloc (.cells #[.int .i64 0,.slice A5 t.l[i].1.length cc5,.slice A6 t.l[i].2.length cc6] 42)) (fun _ _ h=>h)) (show B≤(w6.alloc (.cells #[.int .i64 0,.slice A5 t.l[i].1.length cc5,.slice A6 t.l[i].2.length cc6] 42)).heap.size by have:=HFW2.out.size;omega) (P2w.out.fr (F6.out.alloc (.cells #[.int .i64 0,.slice A5 t.l[i].1.length cc5,.slice A6 t.l[i].2.length cc6] 42)) (fun _ _ h=>h)) B2w.out o7 f7 k7 ((O56.out.mono (F':=fun b=>c2 b=0∧B≤b) (fun b h _=>⟨HCL2.out b h,by have:=HFW2.out.size;have h:wc.heap.size≤b:=h;omega⟩)).fr0 ((Fr.refl C0 w6).alloc (.cells #[.int .i64 0,.slice A5 t.l[i].1.length cc5,.slice A6 t.l[i].2.length cc6] 42))) ((O6.out.mono (F':=fun b=>c2 b=0∧B≤b) (fun b h _=>⟨HCL2.out b (by omega),by have:=HFW2.out.size;omega⟩)).fr0 ((Fr.refl C0 w6).alloc (.cells #[.int .i64 0,.slice A5 t.l[i].1.length cc5,.slice A6 t.l[i].2.length cc6] 42))) (fun u hu=>(S2w.out u hu).fr (F6.out.alloc (.cells #[.int .i64 0,.slice A5 t.l[i].1.length cc5,.slice A6 t.l[i].2.length cc6] 42)) (fun _ _ h=>h)) ((SndU.own N56.out (fun b e=>⟨HCL2.out b (N56.out.lt b e).1,by have:=HFW2.out.size;have h:wc.heap.size≤b:=(N56.out.lt b e).1;omega⟩)).fr ((Fr.refl C0 w6).alloc (.cells #[.int .i64 0,.slice A5 t.l[i].1.length cc5,.slice A6 t.l[i].2.length cc6] 42)) (fun _ _ h=>h)) ((SndU.own N6.out (fun b e=>⟨HCL2.out b (by have:=(N6.out.lt b e).1;omega),by have:=HFW2.out.size;have:=(N6.out.lt b e).1;omega⟩)).fr ((Fr.refl C0 w6).alloc (.cells #[.int .i64 0,.slice A5 t.l[i].1.length cc5,.slice A6 t.l[i].2.length cc6] 42)) (fun _ _ h=>h)))
               have F7:=zhd (((F6.out.alloc (.cells #[.int .i64 0,.slice A5 t.l[i].1.length cc5,.slice A6 t.l[i].2.length cc6] 42)).mono (C2:=fun b=>(Value.slice OA O2.length oc).ownBlock=some b) (fun _ _ h=>h.elim)).trans f7 (fun _ _ h=>h))
               clear o7 f7 k7 nil7
               refine hK.out _ _ ?kS4 (fun hSw4=>?kR4)
               case kS4=>exact F7.out
               clear hK K
               try simp only[Act.put,zs1,zs2,zs3]
               refine tk 16 hSw4 ?_
               refine z1y (by kernel_rfl) ?_ _
               go_wp2
               obtain⟨f8,c8,ag8,cl8,o8⟩:=HADD.out
               have F8:=zhd f8
               have A8:=zhd ag8
               have C8:=zhd cl8
               have O8:=zhd o8
               clear f8 ag8 cl8 o8
               go_roundg (gk-1)
               case measure=>omega
               case rel=>
                have hs1:=HFR2.out.size
                refine⟨i+1,by omega,by omega,by go_num,c8,zhd (HAG2.out.trans A8.out (by omega)),C8,zhd ((HFR2.out.trans0 (F6.out.alloc _)).trans F8.out (fun b hb e=>by rw[←HAG2.out b hb];exact e)),?_⟩
                rw[HPS.out hlt,HNX.out,HCC.out.2]
                exact O8
end
end Go.Proofs.YtidalepbkljkpaaGreat
