import Derived.Test.YtcmicdcikechkaaGreatPlays31
import Derived.Test.YtcmicdcikechkaaGreatPlays29
import Derived.Deep.CutRange
import Derived.Deep.CutBlock
import Derived.Deep.DeepCutAuto
set_option linter.all false
set_option autoImplicit true
set_option relaxedAutoImplicit true
namespace Go.Proofs.YtcmicdcikechkaaGreat
open Go.RowKit Go.H
set_option maxHeartbeats 2000000
set_option maxRecDepth 100000
section
theorem zec:∀{l:List KV} {fs:List (List KV)},fs.length=l.length→(interT l fs).length=l.length+sumN (fs.map List.length)
 |[],[],_=>rfl
 | x :: l, f :: fs, h => by
   have:=zec (l:=l) (fs:=fs) (by simpa using h)
   simp[interT,sumN,this];omega
theorem zed (h:fs.length=l.length+1):(inter l fs).length=l.length+sumN (fs.map List.length):=by
 cases fs with
 |nil=>simp at h
 | cons f fs =>
   have:=zec (l:=l) (fs:=fs) (by simpa using h)
   simp[inter,sumN,this];omega
theorem zee {i:Nat} (h:fs.length=l.length+1) (hs:Sorted (inter l fs)) (hi:i<l.length):∀z∈fs[i+1]'(by omega),klt l[i] z:=fun z hz=>by
 have e:=(z9j h hs (i:=i) (by omega)).1
 rw[e] at hs
 have p:=(List.pairwise_append.1 (List.pairwise_append.1 hs).2.1).2.1
 rw[List.drop_eq_getElem_cons hi,List.drop_eq_getElem_cons (show i+1<fs.length by omega)] at p
 exact(List.pairwise_cons.1 (show Sorted (l[i]::(fs[i+1]++interT (l.drop (i+1)) (fs.drop (i+2)))) from p)).1 z (List.mem_append_left _ hz)
theorem zef {i:Nat} (h:fs.length=l.length+1) (hs:Sorted (inter l fs)) (hi:i≤l.length):∀z∈fs[i]'(by omega),z∈inter l fs:=fun z hz=>by
 rw[(z9j h hs hi).1]
 exact List.mem_append_right _ (List.mem_append_left _ hz)
theorem zeg:0<sumN l↔∃i,∃h:i<l.length,0<l[i]:=by
 induction l with
 |nil=>simp[sumN]
 | cons a l ih =>
   simp only[sumN]
   constructor
   · intro h
     by_cases ha:0<a
     · exact⟨0,by simp,ha⟩
     · obtain⟨i,hi,h2⟩:=ih.1 (by omega)
       exact⟨i+1,by simpa using hi,by simpa using h2⟩
   · rintro⟨i,hi,h2⟩
     cases i with
     |zero=>have:0<a:=h2;omega
     | succ i =>
       have:=ih.2 ⟨i,by simpa using hi,by simpa using h2⟩
       omega
structure WalkIn (c:Nat→Nat) (r rn:Nat) (w:World) (tp st wb sm:Nat) (S:SSt) (D:DSt) (seen:List Nat):Prop where
 hd:Hd c r w tp st S D
 cl:Cl w c
 box:w.heap[wb]?=some (.cells #[.pointer (some ⟨tp,0,none⟩),.map (some sm)] 115 (0,0))
 mp:MapIs w sm (vmap (ones seen))
 m0:c sm≠0
 mr:c sm≠r
 mn:c sm≠rn
theorem WalkIn.wne {c:Nat→Nat} {r rn:Nat} {w:World} {tp st wb sm:Nat} {S:SSt} {D:DSt} {seen:List Nat} (h:WalkIn c r rn w tp st wb sm S D seen):wb≠sm:=by
 intro e
 have h1:=h.box
 obtain⟨es,k,h2,_⟩:=h.mp
 rw[e,h2] at h1;cases h1
theorem WalkIn.go {c:Nat→Nat} {r rn:Nat} {w w':World} {tp st wb sm:Nat} {S:SSt} {D:DSt} {seen seen':List Nat} (h:WalkIn c r rn w tp st wb sm S D seen) (hf:Fr (fun b=>b=sm) w w') (hm:MapIs w' sm (vmap (ones seen'))):WalkIn c r rn w' tp st wb sm S D seen':=
 ⟨h.hd.fr hf (fun b e=>by rw[e];exact h.mr) (fun b e=>by rw[e];exact h.m0),h.cl.mono hf.size,hf.blk h.box h.wne,hm,h.m0,h.mr,h.mn⟩
def WalkRes (rn:Nat) (w:World) (sm:Nat) (X:Prop) (d:Nat) (t:T) (seen:List Nat) (e:Ending) (w':World):Prop:=
 Fr (fun b=>b=sm) w w'∧((X∧e=corrupt)∨(e=.returned (.tuple #[.int .i64 ((flat d t).length:Int),.int .i64 (d:Int)])∧∃seen',MapIs w' sm (vmap (ones seen'))∧∀x,x∈seen'↔x∈seen∨0<cnt d (.pg x) t))
def WalkResS (rn:Nat) (pg:Nat→Option Bs) (w:World) (sm:Nat) (X:Prop) (d:Nat) (t:T) (seen:List Nat) (e:Ending) (w':World):Prop:=
 WalkRes rn w sm X d t seen e w'∧(e≠corrupt→∀x,0<cnt d (.pg x) t→pg x≠none)
def Within (lo hi:Bs) (l:List KV):Prop:=(∀x∈l,lo=[]∨bcmp lo x.1<0)∧∀x∈l,hi=[]∨bcmp x.1 hi<0
def WalkIH (c:Nat→Nat) (r rn tp st wb sm:Nat) (S:SSt) (D:DSt) (X:Prop) (d:Nat):Prop:=
 ∀ (w : World) (m : Nat) (t : T) (v lov hiv : Value) (root : Bool) (lo hi : Bs) (seen : List Nat), WalkIn c r rn w tp st wb sm S D seen → Rep c rn w (pgs D) D.blocks X d t v → Shape d m t → 1 ≤ m → (root = true ∨ 2 ≤ m) → Sorted (flat d t) → Within lo hi (flat d t) → BoundV (Dt c) w lov lo → BoundV (Dt c) w hiv hi → (∀ id, 0 < cnt d (.pg id) t → id ∉ seen) → (∀ id, cnt d (.pg id) t ≤ 1) → (flat d t).length ≤ 100000 →
   Calls Tryz.prog 54 #[.pointer (some ⟨wb,0,none⟩),v,.bool root,lov,hiv] w (WalkResS rn (pgs D) w sm X d t seen)
theorem Rep.id0 {c:Nat→Nat} {rn:Nat} {w:World} {pg:Nat→Option Bs} {N:Nat} {X:Prop} {d:Nat} {t:T} {v:Value} (h:Rep c rn w pg N X (d+1) t v):(t.id=0∧∀x,cnt (d+1) (.pg x) t=sumN (t.ks.map (cnt d (.pg x))))∨(2≤t.id∧t.id<N∧∀x,cnt (d+1) (.pg x) t=(if x=t.id then 1 else 0)+sumN (t.ks.map (cnt d (.pg x)))):=by
 obtain⟨nm,l,ks⟩:=t
 cases nm with
 | page id =>
   refine .inr ⟨h.2.1,h.2.2.1,fun x=>?_⟩
   show(if Th.pg x=Th.pg id then 1 else 0)+sumN _=(if x=id then 1 else 0)+sumN _
   by_cases h:x=id<;>simp[h,T.ks]
 |mem n g o=>exact .inl ⟨rfl,fun x=>zbc _ _ _ _ _ _ _⟩
theorem zeh {d m:Nat} (hs:Shape (d+1) m t):t.l.Sublist (flat (d+1) t):=by
 obtain⟨nm,l,ks⟩:=t
 obtain⟨_,_,_,h4⟩:=hs
 show l.Sublist (if d=0 then l else inter l (ks.map (flat d)))
 split
 · exact List.Sublist.refl _
 · rename_i hd
   rw[if_neg hd] at h4
   exact z84 (by simpa using h4.1)
theorem zei {r rn tp st wb sm:Nat} {d:Nat} (ih:WalkIH c r rn tp st wb sm S D X d):WalkIH c r rn tp st wb sm S D X (d+1):=by
 intro w m t v lov hiv root lo hi seen h hr hs hm hroot hso hwi hlo hhi hns hone hlen
 have HNUM:=zhd (z74 hr.num)
 have HIF:=hr.iface
 have hid:=hr.id0
 have HLD:=zhd (fun (w_:World) (seen_:List Nat) (hf:Fr (fun b=>b=sm) w w_) (hm_:MapIs w_ sm (vmap (ones seen_)))=>z7y (h.go hf hm_).hd (h.go hf hm_).cl (Rep.fr hf (fun b e=>by rw[e];exact h.mn) (fun b e=>by rw[e];exact h.m0) hr) hs hm)
 have b0:=z2g h.box 0 rfl
 have b1:=z2g h.box 1 rfl
 have hlk:=z4u h.mp (t.id:Int)
 have hget:(aget (t.id:Int) (ones seen)).getD 0=0∨t.id=0:=by
  rcases hid with h0|⟨h1,h2,h3⟩
  · exact .inr h0.1
  · refine .inl ?_
    rw[z8y,if_neg (hns _ (by rw[h3,if_pos rfl];omega))];rfl
 have HH:=zhd h
 have HR:=zhd hr
 have HS:=zhd hs
 have HSO:=zhd hso
 have HWI:=zhd hwi
 have HLO:=zhd hlo
 have HHI:=zhd hhi
 have HNS:=zhd hns
 have HONE:=zhd hone
 have HIH:=zhd ih
 have HID:=zhd hid
 have HROOT:=zhd hroot
 obtain⟨tx,y,rfl⟩:=HIF
 have HMS:Hid (∀(w_:World),Fr (fun b=>b=sm) w w_→MapIs w_ sm (aset (t.id:Int) (.int .i64 1) (vmap (ones seen)))→t.id∉seen→MapIs w_ sm (vmap (ones (seen++[t.id])))):=zhd fun w_ _ hm hn=>by rw[z4t,z8z hn] at hm;exact hm
 go_enter Tryz.func54,Tryz.ntmps54
 go_wp2_with fail
 refine HNUM.out.mono ?_
 rintro e w1 ⟨rfl,rfl⟩
 clear HNUM h hr hs hso hwi hlo hhi hns hone ih hid hroot
 go_upto_if 26 with fail
 go_cut [] (fun wx=>∃seen1,Hid (Fr (fun b=>b=sm) w wx)∧Hid (MapIs wx sm (vmap (ones seen1)))∧Hid (∀x,x∈seen1↔x∈seen∨(x=t.id∧t.id≠0)))
 case first=>
  by_cases h0:t.id=0
  · have h00:¬0<(t.id:Int):=by omega
    have H0:=zhd h0
    generalize t.id=id at *
    clear h0
    go_wp2_with fail
    go_meet
    case rel=>exact⟨seen,zhd (Fr.refl _ _),zhd HH.out.mp,zhd fun x=>⟨.inl,fun h=>h.elim (fun h=>h) (fun h=>absurd H0.out h.2)⟩⟩
  · have h00:0<(t.id:Int):=by omega
    have hg:=hget.resolve_right h0
    rw[hg] at hlk
    have hnin:t.id∉seen:=by
     rcases HID.out with h1|⟨h1,h2,h3⟩
     · exact absurd h1.1 h0
     · exact HNS.out _ (by rw[h3,if_pos rfl];omega)
    have HNI:=zhd hnin
    have H0:=zhd h0
    generalize t.id=id at *
    clear hg hnin h0 hget
    go_wp2_with (refine z1x rfl Tryz.underlying74 Tryz.underlying3 _ _ _ rfl (m:=sm) (k:=(id:Int)) (v:=.int .i64 1) rfl rfl rfl HH.out.mp ?_;intro w4 n4 f4)
    go_meet
    case rel=>exact⟨seen++[id],zhd f4,zhd (HMS.out w4 f4 n4 HNI.out),zhd fun x=>by simp only[List.mem_append,List.mem_singleton];exact⟨fun h=>h.imp (fun h=>h) (fun h=>⟨h,H0.out⟩),fun h=>h.imp (fun h=>h) (fun h=>h.1)⟩⟩
 case rest=>
  obtain⟨seen1,HF1,HM1,HS1⟩:=hcut
  have HLD1:=zhd (HLD.out wc seen1 HF1.out HM1.out)
  have HW1:=zhd (HH.out.go HF1.out HM1.out)
  have b0':=z2g HW1.out.box 0 rfl
  clear HLD hlk hget b0 b1
  go_wp2_with fail
  refine HLD1.out.mono ?_
  rintro e w2 ⟨⟨f2,h2⟩,sd2⟩
  have F2:=zhd f2
  clear f2 HLD1
  have F02:=zhd (HF1.out.trans F2.out (fun _ _ h=>h.elim))
  rcases h2 with⟨hX,rfl⟩|⟨v2,n,g,o,kvs,rfl,hld,hks0⟩
  · go_wp2
    exact⟨rfl,⟨F02.out,.inl ⟨hX,rfl⟩⟩,fun h=>absurd rfl h⟩
  have HSD:=zhd (sd2 (fun h=>by cases h))
  clear sd2
  have HLD:=zhd hld
  have HKS0:=zhd hks0
  clear hld hks0
  obtain⟨lv,hlv,hit⟩:=z7e HLD.out.1
  have HIT:=zhd (hit w2 (Fr.refl _ _))
  have HLV:=zhd hlv
  have hl4:t.l.length≤4:=by obtain⟨nm,l,ks⟩:=t;exact HS.out.2.1
  have hlm:m≤t.l.length:=by obtain⟨nm,l,ks⟩:=t;exact HS.out.1
  obtain⟨A,cp,rfl,h1,h2,-⟩:=id hlv
  have hvs:v2=wLeaf n∨v2=wInner n:=by
   obtain⟨⟨_,_,_,_,h3⟩,_⟩:=HLD.out
   rcases h3 with⟨_,h3⟩|⟨_,h3,_⟩
   · exact .inl h3
   · exact .inr h3
  clear hit hlv
  have hsub:=zeh HS.out
  have HASC:=zhd (fun (w_:World) (hf:Fr C0 w2 w_)=>zeb (HLV.out.fr0 hf) (((HLO.out.fr F02.out (fun b hb e=>HH.out.m0 (by rw[←e];exact hb))).fr0 hf)) (((HHI.out.fr F02.out (fun b hb e=>HH.out.m0 (by rw[←e];exact hb))).fr0 hf)) (HSO.out.sublist hsub) (fun x hx=>HWI.out.1 x (hsub.subset hx)) (fun x hx=>HWI.out.2 x (hsub.subset hx)) (fun e=>by rw[e] at hlm;simp at hlm;omega) (fun x hx e=>by
   have hk:KVok x:=by obtain⟨nm,l,ks⟩:=t;exact HS.out.2.2.1 x hx
   have:=hk.1
   rw[e] at this
   simp at this))
  clear hsub
  go_wp2_with fail
  refine HIT.out.mono ?_
  rintro e w2' ⟨rfl,rfl⟩
  go_upto_region 8 with fail
  go_cut [71] (fun s wx=>s=.bool false∧Hid (Fr C0 w2 wx))
  case first=>
   by_cases hl2:2≤t.l.length
   · have n1:¬(t.l.length:Int)<2:=by omega
     have n2:¬(t.l.length:Int)<1:=by omega
     have n3:¬(4:Int)<(t.l.length:Int):=by omega
     clear hl2
     go_wp2_with fail
     refine(HASC.out _ (Fr.refl _ _)).mono ?_
     rintro e w3 ⟨rfl,f3⟩
     have F3:=zhd f3
     clear f3
     go_wp2_with fail
     go_meet
     case rel=>exact⟨rfl,F3⟩
   · have hrt:root=true:=HROOT.out.elim id (fun h=>by omega)
     subst hrt
     have n1:(t.l.length:Int)<2:=by omega
     have n2:¬(t.l.length:Int)<1:=by omega
     have n3:¬(4:Int)<(t.l.length:Int):=by omega
     clear hl2
     go_wp2_with fail
     refine(HASC.out _ (Fr.refl _ _)).mono ?_
     rintro e w3 ⟨rfl,f3⟩
     have F3:=zhd f3
     clear f3
     go_wp2_with fail
     go_meet
     case rel=>exact⟨rfl,F3⟩
  case rest=>
   obtain⟨rfl,HFC⟩:=hcut
   have HSEEN:=zhd (show ∀x,0<(if t.id=0 then 0 else if x=t.id then 1 else 0)↔(x=t.id∧t.id≠0) from fun x=>by
    by_cases a:t.id=0<;>by_cases b:x=t.id<;>simp[a,b])
   have HCNT:Hid (∀x,cnt (d+1) (.pg x) t=(if t.id=0 then 0 else if x=t.id then 1 else 0)+sumN (t.ks.map (cnt d (.pg x)))):=zhd fun x=>by
    rcases HID.out with⟨h1,h2⟩|⟨h1,_,h2⟩
    · rw[if_pos h1,h2];omega
    · rw[if_neg (by omega),h2]
   have HM2:=zhd (HM1.out.fr F2.out (fun h=>h))
   have HMC:=zhd (HM2.out.fr HFC.out (fun h=>h))
   have hks:=HLD.out.2.2.2
   have hkl:=All2.length hks
   by_cases hd:d=0
   · subst hd
     have hk0:t.ks=[]:=by obtain⟨nm,l,ks⟩:=t;exact HS.out.2.2.2
     have hkv0:kvs=[]:=List.eq_nil_of_length_eq_zero (by rw[←hkl,hk0];rfl)
     have hv2:v2=wLeaf n:=by
      obtain⟨⟨_,_,_,_,h3⟩,_⟩:=HLD.out
      rcases h3 with⟨_,h3⟩|⟨h3,_⟩
      · exact h3
      · exact absurd hkv0 h3
     have HK0:=zhd hk0
     have HFL:Hid (flat (0+1) t=t.l):=zhd (by obtain⟨nm,l,ks⟩:=t;rfl)
     subst hv2
     clear hk0 hkv0 hks hkl hvs
     go_wp2
     go_ret2
     refine⟨⟨F02.out.trans0 HFC.out,.inr ⟨by rw[HFL.out];rfl,seen1,HMC.out,fun x=>?_⟩⟩,fun _ x hx=>?_⟩
     · rw[HS1.out x,HCNT.out x,HK0.out,←HSEEN.out x]
       simp[sumN]
     · rw[HCNT.out x,HK0.out] at hx
       have hx2:=(HSEEN.out x).1 (by simpa [sumN] using hx)
       rw[hx2.1]
       exact HSD.out hx2.2
   · have hq:t.ks.length=t.l.length+1∧∀k∈t.ks,Shape d 2 k:=by obtain⟨nm,l,ks⟩:=t;have:=HS.out.2.2.2;rw[if_neg hd] at this;exact this
     have hkne:kvs≠[]:=fun e=>by rw[e] at hkl;have h0:t.ks.length=0:=hkl;have:=hq.1;omega
     have hinn:=HLD.out.1
     obtain⟨_,_,_,_,h3⟩:=hinn
     rcases h3 with⟨h3,_⟩|⟨_,hv2,kc,q0,q1,q2,q3⟩
     · exact absurd h3 hkne
     subst hv2
     have hcg:c g≠c sm:=fun e=>(HLD.out.2.2.1 hkne).elim (fun h=>HH.out.mn (e.symm.trans h)) (fun h=>HH.out.m0 (e.symm.trans h))
     have hgs:¬g=sm:=fun e=>hcg (by rw[e])
     have q0':=HFC.out.cell0 q0
     have HQ3:=zhd (fun i u hu=>HFC.out.cell0 (q3 i u hu))
     have HSH:=zhd hq.2
     have HFL:Hid (flat (d+1) t=inter t.l (t.ks.map (flat d))):=zhd (by obtain⟨nm,l,ks⟩:=t;show(if d=0 then _ else _)=_;rw[if_neg hd];rfl)
     have HKS:=zhd hks
     have HLC:=zhd (HLV.out.fr0 HFC.out)
     have hk5:kvs.length≤5:=by have:=hq.1;omega
     have hkl1:kvs.length=t.l.length+1:=by have:=hq.1;omega
     have HW2:=zhd (HW1.out.go ((F2.out.mono (C2:=fun b=>b=sm) (fun _ _ h=>h.elim)).trans0 HFC.out) HMC.out)
     have HTOT:Hid ((flat (d+1) t).length=t.l.length+sumN (t.ks.map fun k=>(flat d k).length)):=zhd (by
      rw[HFL.out,zed (by simpa using hq.1),List.map_map];rfl)
     have HLEN:=zhd hlen
     have HSO2:Hid (Sorted (inter t.l (t.ks.map (flat d)))):=zhd (by rw[←HFL.out];exact HSO.out)
     have HFS:Hid ((t.ks.map (flat d)).length=t.l.length+1):=zhd (by simpa using hq.1)
     have hl0:t.l≠[]:=fun e=>by rw[e] at hlm;simp at hlm;omega
     obtain⟨ig,io,rfl,HIC⟩:∃ig io,A=some ⟨ig,io,none⟩∧Hid (∀(j:Nat) (h:j<t.l.length),∃kv,wc.cell? ⟨ig,io+j*2,none⟩=some kv∧ig≠sm∧BytesAt (Dt c) wc kv t.l[j].1):=by
      obtain⟨A2,c2,he,_,_,h3⟩:=HLC.out
      injection he with e1 e2 e3
      obtain⟨ig,io,hA,hF,h4⟩:=h3 hl0
      refine⟨ig,io,e1.trans hA,zhd fun j hj=>?_⟩
      obtain⟨kv,vv,a1,a2,a3,a4⟩:=h4 j hj
      exact⟨kv,a1,fun e=>HH.out.m0 (by rw[←e];exact hF),a3⟩
     have hcp:t.l.length≤cp:=h1
     unfold maxLen at q2
     clear hvs q0 q3 hks hq hlen
     go_wp2
     go_loopw [10,11,17,18,19,20,21,22,88] (fun s dp _ _ _ _ _ _ i wr=>∃k:Nat,k≤kvs.length∧i=.int .i64 (k:Int)∧s=.int .i64 ((t.l.length+sumN ((t.ks.map fun k=>(flat d k).length).take k):Nat):Int)∧dp=.int .i64 (if k=0 then 0 else(d:Int))∧Hid (Fr (fun b=>b=sm) wc wr)∧Hid (∃seen2,MapIs wr sm (vmap (ones seen2))∧∀x,x∈seen2↔x∈seen1∨∃(j:Nat) (hj:j<t.ks.length),j<k∧0<cnt d (.pg x) t.ks[j])∧Hid (∀(j:Nat) (hj:j<t.ks.length),j<k→∀x,0<cnt d (.pg x) t.ks[j]→pgs D x≠none)) (fun _ _ _ _ _ _ _ _ i _=>kvs.length-(intOf i).toNat)
     case atStart=>exact⟨0,Nat.zero_le _,rfl,by simp[sumN],rfl,zhd (Fr.refl _ _),zhd ⟨seen1,HMC.out,fun x=>⟨.inl,fun h=>h.elim id (fun ⟨j,_,hj,_⟩=>absurd hj (by omega))⟩⟩,zhd fun j _ hj=>absurd hj (by omega)⟩
     case round=>
      obtain⟨k,hk,rfl,rfl,rfl,HFR,HSN,HSK⟩:=hrel
      by_cases hlt:k<kvs.length
      · have hkk:k<t.ks.length:=by omega
        obtain⟨seen2,hm2,hx2⟩:=HSN.out
        have HM3:=zhd hm2
        have HX2:=zhd hx2
        clear hm2 hx2 HSN
        have hkc:=HFR.out.cell (HQ3.out k kvs[k] (List.getElem?_eq_getElem _)) hgs
        have hrk:=All2.get k hkk hlt HKS.out
        have hfk:(t.ks.map (flat d))[k]'(by simpa using hkk)=flat d t.ks[k]:=by simp
        have hcut:=z9j HFS.out HSO2.out (i:=k) (by omega)
        rw[hfk] at hcut
        have hmem:∀z∈flat d t.ks[k],z∈flat (d+1) t:=fun z hz=>by
         rw[HFL.out]
         exact zef HFS.out HSO2.out (i:=k) (by omega) z (by rw[hfk];exact hz)
        have hst:sumN ((t.ks.map fun k=>(flat d k).length).take (k+1))=sumN ((t.ks.map fun k=>(flat d k).length).take k)+(flat d t.ks[k]).length:=by
         rw[za8 (by simpa using hkk)];simp
        have hst2:=za9 (t.ks.map fun k=>(flat d k).length) (k+1)
        have htot:=HTOT.out
        have hlen:=HLEN.out
        have HC:=zhd (fun (lov' hiv':Value) (lo' hi':Bs) (hw:Within lo' hi' (flat d t.ks[k])) (hl':BoundV (Dt c) wr lov' lo') (hh':BoundV (Dt c) wr hiv' hi')=>HIH.out wr 2 t.ks[k] kvs[k] lov' hiv' false lo' hi' seen2 (HW2.out.go HFR.out HM3.out) (Rep.fr HFR.out (fun b e=>by rw[e];exact HH.out.mn) (fun b e=>by rw[e];exact HH.out.m0) (Rep.fr0 hrk HFC.out)) (HSH.out _ (List.getElem_mem hkk)) (by omega) (.inr (Nat.le_refl _)) hcut.2.1 hw hl' hh' (fun id hid hin=>by
         have h1:=HONE.out id
         have h2:=HCNT.out id
         rcases(HX2.out id).1 hin with h3|⟨j,hj,hjk,h3⟩
         · have h4:=z73 (List.mem_map_of_mem (f:=cnt d (.pg id)) (List.getElem_mem hkk))
           rcases(HS1.out id).1 h3 with h5|h5
           · exact HNS.out id (by omega) h5
           · have:=(HSEEN.out id).2 h5
             omega
         · have:=zcn (l:=t.ks.map (cnt d (.pg id))) hjk (by simpa using hkk)
           simp only[List.getElem_map] at this
           omega) (fun id=>by
         have h1:=HONE.out id
         have h2:=HCNT.out id
         have h4:=z73 (List.mem_map_of_mem (f:=cnt d (.pg id)) (List.getElem_mem hkk))
         omega) (by omega))
        have HNX:Hid (∀w' seen3,MapIs w' sm (vmap (ones seen3))→(∀x,x∈seen3↔x∈seen2∨0<cnt d (.pg x) t.ks[k])→∃seen2,MapIs w' sm (vmap (ones seen2))∧∀x,x∈seen2↔x∈seen1∨∃(j:Nat) (hj:j<t.ks.length),j<k+1∧0<cnt d (.pg x) t.ks[j]):=zhd fun w' seen3 hm3 h3=>⟨seen3,hm3,fun x=>by
         rw[h3 x,HX2.out x]
         constructor
         · rintro((h|⟨j,hj,hjk,h⟩)|h)
           · exact .inl h
           · exact .inr ⟨j,hj,by omega,h⟩
           · exact .inr ⟨k,hkk,by omega,h⟩
         · rintro(h|⟨j,hj,hjk,h⟩)
           · exact .inl (.inl h)
           · by_cases e:j=k
             · subst e;exact .inr h
             · exact .inl (.inr ⟨j,hj,by omega,h⟩)⟩
        have HSX:Hid ((∀x,0<cnt d (.pg x) t.ks[k]→pgs D x≠none)→∀(j:Nat) (hj:j<t.ks.length),j<k+1→∀x,0<cnt d (.pg x) t.ks[j]→pgs D x≠none):=zhd fun h j hj hjk=>by
         by_cases e:j=k
         · subst e;exact h
         · exact HSK.out j hj (by omega)
        have HWR:=zhd (And.intro HWI.out.1 HWI.out.2)
        have HLOW:Hid (∀j,j+1=k→∀(hj:j<t.l.length),∀z∈flat d t.ks[k],bcmp t.l[j].1 z.1<0):=zhd fun j hjk hj z hz=>by
         subst hjk
         exact zee HFS.out HSO2.out hj z (by simpa using hz)
        have HHIGH:Hid (∀(hj:k<t.l.length),∀z∈flat d t.ks[k],bcmp z.1 t.l[k].1<0):=zhd fun hj z hz=>(hcut.2.2 hj).1 z (by simpa using hz)
        have HMEM:=zhd hmem
        have HBL:=zhd (HLO.out.fr F02.out (fun b hb e=>HH.out.m0 (by rw[←e];exact hb)) |>.fr0 HFC.out |>.fr HFR.out (fun b hb e=>HH.out.m0 (by rw[←e];exact hb)))
        have HBH:=zhd (HHI.out.fr F02.out (fun b hb e=>HH.out.m0 (by rw[←e];exact hb)) |>.fr0 HFC.out |>.fr HFR.out (fun b hb e=>HH.out.m0 (by rw[←e];exact hb)))
        have HKEY:Hid (∀(j:Nat) (h:j<t.l.length),∃kv,wr.cell? ⟨ig,io+j*2,none⟩=some kv∧BoundV (Dt c) wr kv t.l[j].1):=zhd fun j hj=>by
         obtain⟨kv,a1,a2,a3⟩:=HIC.out j hj
         have hkv:KVok t.l[j]:=by obtain⟨nm,l,ks⟩:=t;exact HS.out.2.2.1 _ (List.getElem_mem hj)
         refine⟨kv,HFR.out.cell a1 a2,.inr ⟨fun e=>?_,a3.fr HFR.out (fun b hb e=>HH.out.m0 (by rw[←e];exact hb))⟩⟩
         have:=hkv.1
         rw[e] at this
         simp at this
        obtain⟨tx2,y2,hy⟩:=hrk.iface
        rw[hy] at hkc HC
        have HST:=zhd hst
        have hbound:t.l.length+(sumN ((t.ks.map fun k=>(flat d k).length).take k)+(flat d t.ks[k]).length)≤100000:=by omega
        clear hrk hfk hcut hmem hst2 htot hlen hy hst
        have HKN:Hid (∀(j:Nat) (h:j<t.l.length),t.l[j].1≠[]):=zhd fun j hj e=>by
         have hkv:KVok t.l[j]:=by obtain⟨nm,l,ks⟩:=t;exact HS.out.2.2.1 _ (List.getElem_mem hj)
         have:=hkv.1
         rw[e] at this
         simp at this
        rcases k with _|j
        · obtain⟨kR,cR,bR⟩:=HKEY.out 0 (by omega)
          have HCk:=zhd (HC.out lov kR lo (t.l[0]'(by omega)).1 ⟨fun z hz=>HWI.out.1 z (HMEM.out z hz),fun z hz=>.inr (HHIGH.out (by omega) z hz)⟩ HBL.out bR)
          have n1:(0:Int)<(t.l.length:Int):=by omega
          rcases bR.form with⟨hb0,_⟩|⟨aR,nR,ccR,_,rfl,_⟩
          · exact absurd hb0 (HKN.out 0 (by omega))
          clear bR
          simp only[Nat.zero_mul,Nat.add_zero] at cR hkc
          go_wp2_with fail
          refine HCk.out.mono ?_
          rintro e w' ⟨⟨f',R⟩,sd'⟩
          have F':=zhd ((F02.out.trans0 HFC.out).trans (HFR.out.trans f' (fun _ _ h=>h)) (fun _ _ h=>h))
          have FR':=zhd (HFR.out.trans f' (fun _ _ h=>h))
          rcases R with⟨hX,rfl⟩|⟨rfl,seen3,m3,h3⟩
          · clear f'
            go_wp2
            exact⟨rfl,⟨F'.out,.inl ⟨hX,rfl⟩⟩,fun h=>absurd rfl h⟩
          · have HN:=zhd (HNX.out w' seen3 m3 h3)
            have HSK':=zhd (HSX.out (sd' (fun h=>by cases h)))
            clear sd' HSX
            clear f' m3 h3 HNX HC HCk
            generalize sumN ((t.ks.map fun k=>(flat d k).length).take 0)=s0 at *
            generalize (flat d (t.ks[0]'hkk)).length=z at *
            go_wp2
            go_roundw
            case rel=>exact⟨0+1,by omega,by go_num,by rw[HST.out];go_num,by simp,FR',HN,HSK'⟩
            case measure=>simp[intOf];omega
        · by_cases hjl:j+1<t.l.length
          · obtain⟨kL,cL,bL⟩:=HKEY.out j (by omega)
            obtain⟨kR,cR,bR⟩:=HKEY.out (j+1) hjl
            have HCk:=zhd (HC.out kL kR (t.l[j]'(by omega)).1 (t.l[j+1]'hjl).1 ⟨fun z hz=>.inr (HLOW.out j rfl (by omega) z hz),fun z hz=>.inr (HHIGH.out hjl z hz)⟩ bL bR)
            rcases bR.form with⟨hb0,_⟩|⟨aR,nR,ccR,_,rfl,_⟩
            · exact absurd hb0 (HKN.out (j+1) hjl)
            rcases bL.form with⟨hb0,_⟩|⟨aL,nL,ccL,_,rfl,_⟩
            · exact absurd hb0 (HKN.out j (by omega))
            clear bR bL
            go_wp2_with fail
            refine HCk.out.mono ?_
            rintro e w' ⟨⟨f',R⟩,sd'⟩
            have F':=zhd ((F02.out.trans0 HFC.out).trans (HFR.out.trans f' (fun _ _ h=>h)) (fun _ _ h=>h))
            have FR':=zhd (HFR.out.trans f' (fun _ _ h=>h))
            rcases R with⟨hX,rfl⟩|⟨rfl,seen3,m3,h3⟩
            · clear f'
              go_wp2
              exact⟨rfl,⟨F'.out,.inl ⟨hX,rfl⟩⟩,fun h=>absurd rfl h⟩
            · have HN:=zhd (HNX.out w' seen3 m3 h3)
              have HSK':=zhd (HSX.out (sd' (fun h=>by cases h)))
              clear sd' HSX
              clear f' m3 h3 HNX HC HCk
              generalize sumN ((t.ks.map fun k=>(flat d k).length).take (j+1))=s0 at *
              generalize (flat d (t.ks[(j+1)]'hkk)).length=z at *
              go_wp2
              go_roundw
              case rel=>exact⟨(j+1)+1,by omega,by go_num,by rw[HST.out];go_num,by simp,FR',HN,HSK'⟩
              case measure=>simp[intOf];omega
          · obtain⟨kL,cL,bL⟩:=HKEY.out j (by omega)
            have HCk:=zhd (HC.out kL hiv (t.l[j]'(by omega)).1 hi ⟨fun z hz=>.inr (HLOW.out j rfl (by omega) z hz),fun z hz=>HWI.out.2 z (HMEM.out z hz)⟩ bL HBH.out)
            rcases bL.form with⟨hb0,_⟩|⟨aL,nL,ccL,_,rfl,_⟩
            · exact absurd hb0 (HKN.out j (by omega))
            clear bL
            go_wp2_with fail
            refine HCk.out.mono ?_
            rintro e w' ⟨⟨f',R⟩,sd'⟩
            have F':=zhd ((F02.out.trans0 HFC.out).trans (HFR.out.trans f' (fun _ _ h=>h)) (fun _ _ h=>h))
            have FR':=zhd (HFR.out.trans f' (fun _ _ h=>h))
            rcases R with⟨hX,rfl⟩|⟨rfl,seen3,m3,h3⟩
            · clear f'
              go_wp2
              exact⟨rfl,⟨F'.out,.inl ⟨hX,rfl⟩⟩,fun h=>absurd rfl h⟩
            · have HN:=zhd (HNX.out w' seen3 m3 h3)
              have HSK':=zhd (HSX.out (sd' (fun h=>by cases h)))
              clear sd' HSX
              clear f' m3 h3 HNX HC HCk
              generalize sumN ((t.ks.map fun k=>(flat d k).length).take (j+1))=s0 at *
              generalize (flat d (t.ks[(j+1)]'hkk)).length=z at *
              go_wp2
              go_roundw
              case rel=>exact⟨(j+1)+1,by omega,by go_num,by rw[HST.out];go_num,by simp,FR',HN,HSK'⟩
              case measure=>simp[intOf];omega
      · obtain rfl:k=kvs.length:=by omega
        obtain⟨seen2,hm2,hx2⟩:=HSN.out
        have hdp:(if kvs.length=0 then(0:Int) else(d:Int))=(d:Int):=if_neg (by omega)
        have htk:(t.ks.map fun k=>(flat d k).length).take kvs.length=t.ks.map fun k=>(flat d k).length:=List.take_of_length_le (by simp;omega)
        rw[hdp,htk,←HTOT.out]
        have HM3:=zhd hm2
        have HX2:=zhd hx2
        have hlen:=HLEN.out
        clear hm2 hx2 HSN hdp htk
        go_wp2
        go_ret2
        have hdl:=zdk hm HS.out
        have hw:=IntWalk.wrap64_in ((d:Int)+1) (by omega)
        have HSAID:∀x,0<cnt (d+1) (.pg x) t→pgs D x≠none:=fun x hx=>by
         rw[HCNT.out x] at hx
         by_cases h0:0<sumN (t.ks.map (cnt d (.pg x)))
         · obtain⟨j,hj,h2⟩:=zeg.1 h0
           exact HSK.out j (by simpa using hj) (by simp at hj;omega) x (by simpa using h2)
         · have hx2:=(HSEEN.out x).1 (by omega)
           rw[hx2.1]
           exact HSD.out hx2.2
        refine⟨⟨(F02.out.trans0 HFC.out).trans HFR.out (fun _ _ h=>h),.inr ⟨by show Ending.returned (.tuple #[_,.int .i64 (wrap64 ((d:Int)+1))])=_;rw[hw];rfl,seen2,HM3.out,fun x=>?_⟩⟩,fun _=>HSAID⟩
        rw[HX2.out x,HS1.out x,HCNT.out x,←HSEEN.out x]
        have hsp:=zeg (l:=t.ks.map (cnt d (.pg x)))
        constructor
        · rintro((h|h)|⟨j,hj,hjk,h⟩)
          · exact .inl h
          · exact .inr (by omega)
          · have:=hsp.2 ⟨j,by simpa using hj,by simpa using h⟩
            exact .inr (by omega)
        · rintro(h|h)
          · exact .inl (.inl h)
          · by_cases h0:0<sumN (t.ks.map (cnt d (.pg x)))
            · obtain⟨j,hj,h2⟩:=hsp.1 h0
              exact .inr ⟨j,by simpa using hj,by simp at hj;omega,by simpa using h2⟩
            · exact .inl (.inr (by omega))
theorem zej {r rn tp st wb sm:Nat} (d:Nat):WalkIH c r rn tp st wb sm S D X d:=by
 induction d with
 |zero=>intro w m t v lov hiv root lo hi seen h hr;exact hr.elim
 |succ d ih=>exact zei ih
end
section
theorem zek {r rn rm:Nat} {tp st lm km:Nat} {k:Nat} (h:TreeIn c r rn rm w tp st lm km .nilIface lr gv ov Z k sn):
 Calls Tryz.prog 18 #[.pointer (some ⟨tp,0,none⟩)] w fun e w'=>e=.returned (.int .i64 0)∧Fr C0 w w':=by
 have HD:=zhd (fun (w_:World) (hf:Fr C0 w w_)=>za5 (h.hd.fr0 hf))
 have t1:w.cell? ⟨tp,1,none⟩=some .nilIface:=z2g h.blk 1 rfl
 have F0:=zhd ((Fr.refl C0 w).alloc (.cells #[.int .i64 0] 28))
 have hb:=heap_alloc_new w (.cells #[.int .i64 0] 28)
 have e0:=z2g hb 0 rfl
 have ze:=z2e 0 hb
 have t1':=F0.out.cell0 t1
 clear h
 go_enter_defers Tryz.func18,Tryz.ntmps18
 go_wp2_with fail
 refine(HD.out _ F0.out).mono ?_
 rintro e w1 ⟨rfl,rfl⟩
 go_wp2_with fail
 simp[bodyPostD,Leaves,settle,results,Tryz.results18,go_sem,e0]
 exact F0.out.drew
theorem zel {r rn rm:Nat} {tp st lm km d:Nat} {k:Nat} (ho:Owners r rn rm) (h:TreeIn c r rn rm w tp st lm km nr lr gv ov Z k sn) (hz:Z.now=some (d,t)):
 Calls Tryz.prog 18 #[.pointer (some ⟨tp,0,none⟩)] w fun e w'=>e=.returned (.int .i64 0)∧Fr C0 w w':=by
 have HD:=zhd (fun (w_:World) (hf:Fr C0 w w_)=>za5 (h.hd.fr0 hf))
 have hnow:=h.now
 have hblk:=h.blk
 have hsn:=h.bk.sn
 have hbn:=h.bk.bn
 have hb1:=h.bk.b1
 rw[hz] at hnow hblk hsn hbn
 have hone:∀id,cnt d (.pg id) t≤1:=fun id=>by
  have:=hb1 id
  rw[hz] at this
  have h2:rcnt (.pg id) (some (d,t))=cnt d (.pg id) t:=rfl
  split at this<;>omega
 obtain⟨tx,y,rfl⟩:=hnow.1.iface
 have t1:w.cell? ⟨tp,1,none⟩=some (.iface tx y):=z2g hblk 1 rfl
 have t2:w.cell? ⟨tp,2,none⟩=some (.int .i64 ((flat d t).length:Int)):=z2g hblk 2 rfl
 have t3:w.cell? ⟨tp,3,none⟩=some (.int .i64 (d:Int)):=z2g hblk 3 rfl
 have F0:=zhd ((Fr.refl C0 w).alloc (.cells #[.int .i64 0] 28))
 have t1':=F0.out.cell0 t1
 have F2:=zhd ((F0.out.alloc (.map #[] 0)).alloc (.cells #[.pointer (some ⟨tp,0,none⟩),.map (some (w.heap.size+1))] 115))
 have t1w:=F2.out.cell0 t1
 have HH:=zhd h
 have HR:=zhd hnow
 have HSN:=zhd hsn
 have HBN:=zhd hbn
 have HONE:=zhd hone
 have HO:=zhd ho
 clear h hnow hblk hsn hbn hb1 hone hz ho t1
 go_enter_defers Tryz.func18,Tryz.ntmps18
 go_wp2_with fail
 refine(HD.out _ F0.out).mono ?_
 rintro e w1 ⟨rfl,rfl⟩
 go_wp2_with fail
 have hw2:=heap_alloc_new ((w.alloc (.cells #[.int .i64 0] 28)).alloc (.map #[] 0)) (.cells #[.pointer (some ⟨tp,0,none⟩),.map (some (w.heap.size+1))] 115)
 have hm2:MapIs (((w.alloc (.cells #[.int .i64 0] 28)).alloc (.map #[] 0)).alloc (.cells #[.pointer (some ⟨tp,0,none⟩),.map (some (w.heap.size+1))] 115)).drew (w.heap.size+1) (vmap (ones [])):=by
  have:=(MapIs.made (w.alloc (.cells #[.int .i64 0] 28))).fr ((Fr.refl C0 _).alloc (.cells #[.pointer (some ⟨tp,0,none⟩),.map (some (w.heap.size+1))] 115)) (fun h=>h)
  rw[show(w.alloc (.cells #[.int .i64 0] 28)).heap.size=w.heap.size+1 by simp] at this
  exact this
 have hbe:(((w.alloc (.cells #[.int .i64 0] 28)).alloc (.map #[] 0)).alloc (.cells #[.pointer (some ⟨tp,0,none⟩),.map (some (w.heap.size+1))] 115)).drew.heap[w.heap.size]?=some (.cells #[.int .i64 0] 28 (0,0)):=(((Fr.refl C0 _).alloc (.map #[] 0)).alloc (.cells #[.pointer (some ⟨tp,0,none⟩),.map (some (w.heap.size+1))] 115)).blk (heap_alloc_new w _) (fun h=>h)
 rw[show((w.alloc (.cells #[.int .i64 0] 28)).alloc (.map #[] 0)).heap.size=w.heap.size+2 by simp] at hw2
 have FD:=zhd F2.out.drew
 have hsz2:(((w.alloc (.cells #[.int .i64 0] 28)).alloc (.map #[] 0)).alloc (.cells #[.pointer (some ⟨tp,0,none⟩),.map (some (w.heap.size+1))] 115)).drew.heap.size=w.heap.size+3:=by simp
 have hw2':(((w.alloc (.cells #[.int .i64 0] 28)).alloc (.map #[] 0)).alloc (.cells #[.pointer (some ⟨tp,0,none⟩),.map (some (w.heap.size+1))] 115)).drew.heap[w.heap.size+2]?=some (.cells #[.pointer (some ⟨tp,0,none⟩),.map (some (w.heap.size+1))] 115 (0,0)):=hw2
 clear hw2 t1w t1' F2
 generalize (((w.alloc (.cells #[.int .i64 0] 28)).alloc (.map #[] 0)).alloc (.cells #[.pointer (some ⟨tp,0,none⟩),.map (some (w.heap.size+1))] 115)).drew=w2 at *
 obtain⟨q,hq0,hq1,hq2,hq3⟩:=zbr HH.out.cl r rn
 obtain⟨c1,hcm,hag,hcl⟩:∃c1:Nat→Nat,c1 (w.heap.size+1)=q∧Ag w.heap.size c c1∧Cl w2 c1:=by
  refine⟨fun b=>if b=w.heap.size+1 then q else c b,by simp,fun b hb=>?_,fun b hb=>?_⟩
  · simp only[];rw[if_neg (by omega)]
  · simp only[];rw[if_neg (by omega)];exact HH.out.cl b (by omega)
 have htl:=(Array.getElem?_eq_some_iff.1 HH.out.blk).1
 have t2':=FD.out.cell0 t2
 have t3':=FD.out.cell0 t3
 refine(zej (c:=c1) (r:=r) (rn:=rn) (X:=False) d w2 1 t (.iface tx y) (.slice none 0 0) (.slice none 0 0) true [] [] [] ⟨(HH.out.hd.ag hag).fr0 FD.out,hcl,hw2',hm2,by omega,by omega,by omega⟩ ((Rep.ag hag HR.out.1).fr0 FD.out) HR.out.2 (Nat.le_refl _) (.inl rfl) HSN.out ⟨fun _ _=>.inl rfl,fun _ _=>.inl rfl⟩ (.inl ⟨rfl,rfl⟩) (.inl ⟨rfl,rfl⟩) (fun _ _=>by simp) HONE.out (by have:=HBN.out;show(rootL (some (d,t))).length≤_;omega)).mono ?_
 rintro e w3 ⟨⟨f3,R⟩,-⟩
 rcases R with⟨hX,_⟩|⟨rfl,-⟩
 · exact hX.elim
 have hne:∀b,b<w.heap.size+1→¬b=w.heap.size+1:=fun b h=>by omega
 have k2:=f3.cell t2' (hne tp (by omega))
 have k3:=f3.cell t3' (hne tp (by omega))
 have hbe3:=f3.blk hbe (hne _ (by omega))
 have e3:=z2g hbe3 0 rfl
 have z3:=z2e 0 hbe3
 have F3:=zhd (FD.out.trans f3 (fun b hb e=>by omega))
 have FE:=zhd (F3.out.setCell (p:=⟨w.heap.size,0,none⟩) (.inl (Nat.le_refl _)) (.int .i64 0))
 clear f3 hbe hbe3 t2' t3' t2 t3 hm2 hw2' hcl hag hcm hq0 hq1 hq2 hq3 hne
 generalize ((flat d t).length:Int)=L at *
 go_wp2_with fail
 refine leaves_cons (f:=41) (args:=#[.pointer (some ⟨w.heap.size,0,none⟩)]) (by simp) (by simp[go_sem]) ?_
 refine(z9y _ _).mono ?_
 rintro e u' wq ⟨rfl,rfl,rfl⟩
 simp[Leaves,settle,results,Tryz.results18,go_sem,e3]
 first|exact FE.out|exact FE.out.drew|exact F3.out|exact F3.out.drew
theorem zem {r rn rm:Nat} {tp:Nat} {k:Nat} (ho:Owners r rn rm) (h:TreeAt c r rn rm w tp Z k):
 Calls Tryz.prog 18 #[.pointer (some ⟨tp,0,none⟩)] w fun e w'=>e=.returned (.int .i64 0)∧Fr C0 w w':=by
 obtain⟨st,lm,km,nr,lr,gv,ov,sn,h⟩:=h
 cases hz:Z.now with
 | none =>
   have hnow:=h.now
   rw[hz] at hnow
   obtain rfl:=hnow
   exact zek h
 |some p=>exact zel ho h hz
end
end Go.Proofs.YtcmicdcikechkaaGreat
