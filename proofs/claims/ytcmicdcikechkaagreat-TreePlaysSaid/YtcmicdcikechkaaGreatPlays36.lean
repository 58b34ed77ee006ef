import Derived.Test.YtcmicdcikechkaaGreatPlays35
import Derived.Lib.SmallJoins
import Derived.Test.YtcmicdcikechkaaGreatPlays01
import Derived.Test.YtcmicdcikechkaaGreatPlays09
import Derived.Test.YtcmicdcikechkaaGreatPlays03
import Derived.Test.YtcmicdcikechkaaGreatPlays16
import Derived.Maps.RangeRun
set_option linter.all false
set_option autoImplicit true
set_option relaxedAutoImplicit true
namespace Go.Proofs.YtcmicdcikechkaaGreat
section
open Go.RowKit Go.H
set_option maxHeartbeats 2000000
set_option maxRecDepth 100000
structure Stg (c0:Nat→Nat) (w0:World) (r rn rm:Nat) (c:Nat→Nat) (w:World) (tp:Nat) (Z:TSt) (k:Nat):Prop where
 fr:Fr C0 w0 w
 ag:Ag w0.heap.size c0 c
 tr:TreeAt c r rn rm w tp Z k
theorem Stg.next {r rn rm:Nat} {tp tp':Nat} {k k':Nat} (h:Stg c0 w0 r rn rm c w tp Z k) (hn:∀b,c0 b≠r∧c0 b≠rn∧c0 b≠rm) (hf:Fr (fun b=>c b=r∨c b=rn∨c b=rm) w w') (ha:Ag w.heap.size c c') (ht:TreeAt c' r rn rm w' tp' Z' k'):Stg c0 w0 r rn rm c' w' tp' Z' k':=by
 refine⟨h.fr.trans hf (fun b hb e=>?_),fun b hb=>(ha b (by have:=h.fr.size;omega)).trans (h.ag b hb),ht⟩
 rw[h.ag b hb] at e
 have:=hn b
 rcases e with e|e|e
 · exact this.1 e
 · exact this.2.1 e
 · exact this.2.2 e
theorem Stg.fr0 {r rn rm:Nat} {tp:Nat} {k:Nat} (h:Stg c0 w0 r rn rm c w tp Z k) (hf:Fr C0 w w'):Stg c0 w0 r rn rm c w' tp Z k:=⟨h.fr.trans0 hf,h.ag,h.tr.fr0 hf⟩
theorem TreeAt.move {r rn rm:Nat} {tp:Nat} {k:Nat} (h:TreeAt c r rn rm w tp Z k) (hf:Fr C0 w w') (ha:Ag w.heap.size c c') (hc:Cl w' c'):TreeAt c' r rn rm w' tp Z k:=by
 obtain⟨st,lm,km,nr,lr,gv,ov,sn,h⟩:=h
 exact⟨st,lm,km,nr,lr,gv,ov,sn,(h.hd.ag ha).fr0 hf,hc,hf.blk h.blk (fun h=>h),z0m h.gr hf (fun _ _ h=>h),fun b hb=>(ha b (h.gr.lt b hb).2).trans (h.go b hb),z0m h.orow hf (fun _ _ h=>h),fun b hb=>(ha b (h.orow.lt b hb).2).trans (h.oo b hb),h.live.fr hf (fun h=>h),(ha _ h.live.lt).trans h.lmo,h.kept.fr hf (fun h=>h),(ha _ h.kept.lt).trans h.kmo,h.lk,(h.now.ag ha).fr0 hf,(h.last.ag ha).fr0 hf,zdm h.sns h.bk.kp hf ha (fun _ _ e=>e.elim) (fun _ _ e=>e.elim),h.bk⟩
theorem Stg.move {r rn rm:Nat} {tp:Nat} {k:Nat} (h:Stg c0 w0 r rn rm c w tp Z k) (hf:Fr C0 w w') (ha:Ag w.heap.size c c') (hc:Cl w' c'):Stg c0 w0 r rn rm c' w' tp Z k:=⟨h.fr.trans0 hf,fun b hb=>(ha b (by have:=h.fr.size;omega)).trans (h.ag b hb),h.tr.move hf ha hc⟩
theorem zfi (h:BytesAt (Dt c) w v l) (hf:Fr C0 w w') (ha:Ag w.heap.size c c'):BytesAt (Dt c') w' v l:=
 (h.mono (F':=Dt c') (fun b hb hl=>(ha b hl).trans hb)).fr0 hf
theorem zfj {r rn rm:Nat} (ho:Owners r rn rm) (h:BytesAt (Dt c) w v l) (hf:Fr (fun b=>c b=r∨c b=rn∨c b=rm) w w') (ha:Ag w.heap.size c c'):BytesAt (Dt c') w' v l:=
 ((h.mono (F':=fun b=>c b=0∧b<w.heap.size) (fun b hb hl=>⟨hb,hl⟩)).fr hf (fun b hb e=>by rcases e with e|e|e;exact ho.r0 (e.symm.trans hb.1);exact ho.n0 (e.symm.trans hb.1);exact ho.m0 (e.symm.trans hb.1))).mono (fun b hb _=>(ha b hb.2).trans hb.1)
theorem zfk {r rn rm:Nat} {tp:Nat} {k:Nat} (ho:Owners r rn rm) (h:TreeAt c r rn rm w tp Z k) (hk:BytesAt (Dt c) w kv x.1) (hv:BytesAt (Dt c) w vv x.2) (hw:wrong x.1 x.2=0) (hb:(rootL Z.now).length<90000) (hr:(rootL Z.now).length<Z.S.pages-Z.S.state.length):
 Calls Tryz.prog 10 #[.pointer (some ⟨tp,0,none⟩),kv,vv] w fun e w'=>e=.returned (.int .i64 0)∧Fr (fun b=>c b=r∨c b=rn∨c b=rm) w w'∧∃c' o' gone',Ag w.heap.size c c'∧TreeAt c' r rn rm w' tp { Z with now:=o',gone:=gone' } k∧rootL o'=putL x (rootL Z.now):=by
 refine(zdo ho h hk hv hw hb).mono ?_
 rintro e w' (⟨rfl,f,o',h1,h2,h3,h4⟩|⟨rfl,f,c',o',gone',h1,h2,h3⟩)
 · have h5:=zc2 h2
   rw[h1,zbs h.bk.sn] at h5
   split at h5<;>omega
 · exact⟨rfl,f.mono fun b _ e=>.inl e,c',o',gone',h1,h2,h3⟩
@[go_sem] theorem zfl (w : World) : (binOp .eql 9 (.string ⟨#[97]⟩) (.string ⟨#[97]⟩)).run Tryz.prog w = .ok (.bool true) w := by kernel_rfl
theorem zfm (hc:Cl w c):Calls Tryz.prog 14 #[] w fun e w'=>e=.returned (.bool true)∧Fr C0 w w':=by
 obtain⟨r,rn,rm,ho,hn⟩:=zfg hc
 have HN:=zhd (z3d w 30 (by omega) (by omega))
 have HO:=zhd (fun (w_:World) (c_:Nat→Nat) (hd:DiskA (Dt c_) w_ (w.heap.size+1) w.heap.size (.slice none 0 0) (newD 30)) (e1:c_ (w.heap.size+1)=r) (e2:c_ w.heap.size=r) (hc_:Cl w_ c_)=>zep (num:=0) ho hd e1 e2 (fun b hb=>by simp[Value.ownBlock] at hb) hc_ rfl (by show 3≤30;omega) (by show 30≤4096;omega) (zeu 30) rfl (zet 30) (by omega) (zdj (zes 30)))
 have HC:=zhd hc
 have HOW:=zhd ho
 have HNW:=zhd hn
 clear hc ho hn
 go_enter Tryz.func14,Tryz.ntmps14
 go_wp2_with fail
 refine HN.out.mono ?_
 rintro e w1 ⟨rfl,f1,hs1,hd1⟩
 obtain⟨c1,hc1,hc2,hag,hcl⟩:∃c1:Nat→Nat,c1 (w.heap.size+1)=r∧c1 w.heap.size=r∧Ag w.heap.size c c1∧Cl w1 c1:=by
  refine⟨fun b=>if b=w.heap.size∨b=w.heap.size+1 then r else c b,by simp,by simp,fun b hb=>?_,fun b hb=>?_⟩
  · simp only[];rw[if_neg (by omega)]
  · simp only[];rw[if_neg (by omega)];exact HC.out b (by omega)
 have HO1:=zhd (HO.out w1 c1 (hd1.mono fun b hb _=>hb.elim) hc1 hc2 hcl)
 have F1:=zhd f1
 have HS1:=zhd hs1
 clear HN HO f1 hs1 hd1
 go_wp2_with fail
 refine HO1.out.mono ?_
 rintro e w2 ⟨f2,tp,c2,rfl,ag2,hle,ht2⟩
 have S2:Hid (Stg c w r rn rm c2 w2 tp (TSt.empty (newD 30) 0 (w.heap.size+1)) 0):=zhd ⟨F1.out.trans0 f2,fun b hb=>(ag2 b (by have:=HS1.out;omega)).trans (hag b hb),ht2⟩
 clear f2 ht2 HO1 ag2 hag hcl hc1 hc2 F1 HS1
 have hcv1:=Go.Joins.run_convert_bytes_const_at (P:=Tryz.prog) w2 30 5 #[.int .u8 97] 1 1 w2.heap.size rfl Tryz.underlying30 Tryz.underlying5
 have hcv2:=Go.Joins.run_convert_bytes_const_at (P:=Tryz.prog) (w2.alloc (.cells #[.int .u8 97] 5 (1,2))) 30 5 #[.int .u8 98] 1 1 (w2.heap.size+1) (by simp) Tryz.underlying30 Tryz.underlying5
 go_wp2_with fail
 clear hcv1 hcv2
 have g3:=((Fr.refl C0 w2).alloc (.cells #[.int .u8 97] 5 (1,2))).alloc (.cells #[.int .u8 98] 5 (1,2))
 have hba:=((Fr.refl C0 _).alloc (.cells #[.int .u8 98] 5 (1,2))).blk (heap_alloc_new w2 (.cells #[.int .u8 97] 5 (1,2))) (fun h=>h)
 have hbb:=heap_alloc_new (w2.alloc (.cells #[.int .u8 97] 5 (1,2))) (.cells #[.int .u8 98] 5 (1,2))
 rw[show(w2.alloc (.cells #[.int .u8 97] 5 (1,2))).heap.size=w2.heap.size+1 by simp] at hbb
 generalize (w2.alloc (.cells #[.int .u8 97] 5 (1,2))).alloc (.cells #[.int .u8 98] 5 (1,2))=w3 at *
 have S3:=zhd (S2.out.fr0 g3)
 have A3:Hid (BytesAt (Dt c2) w3 (.slice (some ⟨w2.heap.size,0,none⟩) 1 1) [97]):=zhd (z0i.2 (Row.ofBlock (n:=1) (size:=1) hba (S2.out.tr.cl _ (Nat.le_refl _)) (by unfold maxLen;omega) rfl))
 have B3:Hid (BytesAt (Dt c2) w3 (.slice (some ⟨w2.heap.size+1,0,none⟩) 1 1) [98]):=zhd (z0i.2 (Row.ofBlock (n:=1) (size:=1) hbb (S2.out.tr.cl _ (by omega)) (by unfold maxLen;omega) rfl))
 clear hba hbb g3 S2
 refine(zfk (x:=([97],[98])) HOW.out S3.out.tr A3.out B3.out rfl (by show 0<90000;omega) (by show 0<28-0;omega)).mono ?_
 rintro e w4 ⟨rfl,f4,c4,o4,g4,ag4,t4,hl4⟩
 have S4:=zhd (S3.out.next HNW.out f4 ag4 t4)
 have A4:=zhd (zfj HOW.out A3.out f4 ag4)
 have B4:=zhd (zfj HOW.out B3.out f4 ag4)
 have HL4:Hid (rootL o4=[([97],[98])]):=zhd hl4
 clear f4 ag4 t4 hl4 S3 A3 B3
 go_wp2_with fail
 refine(zf2 HOW.out S4.out.tr (by show 0<1000000;omega) (by show(0:Int)<1;omega)).mono ?_
 rintro e w5 ⟨rfl,f5,c5,Z5,ag5,t5,h50,h51,h52,h53,h54,h55,h56,h57,-⟩
 have S5:=zhd (S4.out.next HNW.out f5 ag5 t5)
 have A5:=zhd (zfj HOW.out A4.out f5 ag5)
 have B5:=zhd (zfj HOW.out B4.out f5 ag5)
 have HL5:Hid (rootL Z5.now=[([97],[98])]):=zhd (h51.trans HL4.out)
 have HZ5:Hid (Z5.last=Z5.now∧Z5.S.pages=28∧Z5.S.num=1∧Z5.S.state.length≤1):=zhd ⟨h52,h55,h56,by
  have:=zfa t5 h50.1
  rw[h52,h51,HL4.out] at this
  simpa using this⟩
 clear f5 ag5 t5 h51 h52 h53 h54 h55 h56 h57 S4 A4 B4 HL4
 go_wp2_with fail
 refine(zfk (x:=([98],[97])) HOW.out S5.out.tr B5.out A5.out rfl (by rw[HL5.out];simp) (by rw[HL5.out];have:=HZ5.out;simp;omega)).mono ?_
 rintro e w6 ⟨rfl,f6,c6,o6,g6,ag6,t6,hl6⟩
 have S6:=zhd (S5.out.next HNW.out f6 ag6 t6)
 have B6:=zhd (zfj HOW.out B5.out f6 ag6)
 have HL6:Hid (rootL o6=[([97],[98]),([98],[97])]):=zhd (by rw[hl6,HL5.out];rfl)
 clear f6 ag6 t6 hl6 S5 A5 B5
 go_wp2_with fail
 refine(zf9 HOW.out S6.out.tr).mono ?_
 rintro e w7 ⟨sp,rfl,f7,pm7,c7,ag7,t7,hsr⟩
 have f7':Fr (fun b=>c6 b=r∨c6 b=rn∨c6 b=rm) w6 w7:=f7.mono fun b _ e=>e.elim .inl (fun e=>.inr (.inr e))
 have S7:=zhd (S6.out.next HNW.out f7' ag7 t7)
 have B7:=zhd (zfj HOW.out B6.out f7' ag7)
 obtain⟨q,q0,q1,q2,q3⟩:=zbr t7.cl r rn
 have HSR:=zhd (hsr q 9 (.slice none 0 0) (.slice none 0 0) [] [] q1 q2 q3 q0 (by omega) ⟨none,0,rfl,Nat.le_refl _,by unfold maxLen;omega,fun h=>absurd rfl h⟩ ⟨none,0,rfl,Nat.le_refl _,by unfold maxLen;omega,fun h=>absurd rfl h⟩ (by simp) (by simp))
 clear f7 ag7 t7 hsr f7' S6 B6 q0 q1 q2 q3
 go_wp2_with fail
 refine HSR.out.mono ?_
 rintro e w8 ⟨f8,v8,c8,rfl,ag8,cl8,o8⟩
 have S8:=zhd (S7.out.move f8 ag8 cl8)
 have B8:=zhd (zfi B7.out f8 ag8)
 obtain⟨vA,vc,rfl,-⟩:=o8.form
 have hlen8:((rangeL [] [] (rootL Z5.last)).take 9).length=1:=by rw[HZ5.out.1,HL5.out];rfl
 rw[hlen8]
 clear f8 ag8 cl8 o8 HSR S7 B7 hlen8
 go_wp2_with fail
 refine(zfb S8.out.tr B8.out rfl).mono ?_
 rintro e w9 ⟨f9,h9⟩
 have hg9:getL [98] (rootL ({ S:=Z5.S,D:=Z5.D,now:=o6,last:=Z5.last,gone:=g6,live:=Z5.live,held:=Z5.held }:TSt).now)=some [97]:=by
  show getL [98] (rootL o6)=_
  rw[HL6.out];rfl
 rcases h9 with⟨hX,_⟩|h9
 · exact hX.elim
 have hz9:∀(sp pm:Nat) (bk kp:List Nat) (ss:List SnapS),(({ S:=Z5.S,D:=Z5.D,now:=o6,last:=Z5.last,gone:=g6,live:=Z5.live,held:=Z5.held,back:=bk,kept:=kp,snaps:=ss }:TSt).snapped sp pm).now=({ S:=Z5.S,D:=Z5.D,now:=o6,last:=Z5.last,gone:=g6,live:=Z5.live,held:=Z5.held }:TSt).now:=fun _ _ _ _ _=>rfl
 rw[hz9,hg9] at h9
 obtain⟨v9,rfl,b9⟩:=h9
 have S9:=zhd (S8.out.fr0 f9)
 have B9:Hid (BytesAt (Dt c8) w9 v9 [97]):=zhd (b9.mono fun b hb _=>S8.out.tr.cl b hb)
 obtain⟨gA,gc,rfl,-⟩:=b9.form
 clear f9 b9 hg9 S8 B8
 go_wp2_with fail
 refine(zf3 HOW.out S9.out.tr).mono ?_
 rintro e w10 ⟨rfl,f10,t10⟩
 have f10':Fr (fun b=>c8 b=r∨c8 b=rn∨c8 b=rm) w9 w10:=f10.mono fun b _ e=>.inl e
 have S10:=zhd (S9.out.next HNW.out f10' (Ag.refl _ _) t10)
 have B10:=zhd (zfj HOW.out B9.out f10' (Ag.refl _ _))
 clear f10 f10' t10 S9 B9
 have hst:(convert 30 9 (.slice gA 1 gc)).run Tryz.prog w10=.ok (.string ⟨#[97]⟩) w10:=z2u B10.out
 have HCHK:=zhd (zem HOW.out S10.out.tr)
 have HWR:=zhd (fun (w_:World) (hf:Fr C0 w10 w_)=>zff (k:=[]) (v:=[]) (F:=fun _=>True) (G:=fun _=>True) (kv:=.slice none 0 0) (vv:=.slice none 0 0) (S10.out.tr.fr0 hf) ⟨none,0,rfl,Nat.le_refl _,by unfold maxLen;omega,fun h=>absurd rfl h⟩ ⟨none,0,rfl,Nat.le_refl _,by unfold maxLen;omega,fun h=>absurd rfl h⟩ (by decide))
 have HLEN:Hid (Calls Tryz.prog 15 #[.pointer (some ⟨tp,0,none⟩)] w10 fun e w'=>e=.returned (.int .i64 1)∧w10=w'):=zhd ((zfd S10.out.tr).mono (by
  rintro e w' ⟨rfl,rfl⟩
  refine⟨?_,rfl⟩
  show Ending.returned (.int .i64 ((rootL Z5.last).length:Int))=_
  rw[HZ5.out.1,HL5.out];rfl))
 have HNUM:Hid (Calls Tryz.prog 20 #[.pointer (some ⟨tp,0,none⟩)] w10 fun e w'=>e=.returned (.int .i64 1)∧w10=w'):=zhd ((zfe S10.out.tr).mono (by
  rintro e w' ⟨rfl,rfl⟩
  refine⟨?_,rfl⟩
  show Ending.returned (.int .i64 (Z5.S.num:Int))=_
  rw[HZ5.out.2.2.1];rfl))
 have HFR:=zhd S10.out.fr
 have hw1:(wrong [] []:Int)=1:=rfl
 rw[hw1] at HWR
 clear hw1 S10 B10 HZ5 HL5 HL6 HC HOW HNW hle
 go_wp2_with fail
 refine HLEN.out.mono ?_
 rintro e w11 ⟨rfl,rfl⟩
 go_wp2_with fail
 refine HNUM.out.mono ?_
 rintro e w12 ⟨rfl,rfl⟩
 go_wp2_with fail
 refine HCHK.out.mono ?_
 rintro e w13 ⟨rfl,f13⟩
 have F13:=zhd f13
 clear f13
 go_wp2_with fail
 refine(HWR.out _ F13.out).mono ?_
 rintro e w14 ⟨rfl,f14⟩
 have F14:=zhd f14
 clear f14
 go_wp2
 go_ret
 exact⟨rfl,(HFR.out.trans0 F13.out).trans0 F14.out⟩
end
section
open Go.RowKit Go.H
set_option maxHeartbeats 2000000
set_option maxRecDepth 100000
theorem zfn:∀{xs:List Value} {l:List KV},PairCells F w xs l→∀u∈xs,u.oneCell'=true
 |_,_,.nil,u,hu=>by simp at hu
 | _, _, .cons h1 h2 h3, u, hu => by
   obtain⟨_,_,rfl,_⟩:=h1
   obtain⟨_,_,rfl,_⟩:=h2
   rcases List.mem_cons.1 hu with rfl|hu
   · rfl
   · rcases List.mem_cons.1 hu with rfl|hu
     · rfl
     · rcases List.mem_cons.1 hu with rfl|hu
       · rfl
       · exact zfn h3 u hu
theorem zfo:∀{d m:Nat} {t:T},Shape d m t→∀x∈flat d t,KVok x
 |0,_,_,h,_,_=>h.elim
 | d + 1, m, .node nm l ks, h, x, hx => by
   obtain⟨h1,h2,h3,h4⟩:=h
   by_cases hd:d=0
   · subst hd
     have:x∈l:=by
      have e:flat (0+1) (.node nm l ks)=l:=rfl
      rw[e] at hx;exact hx
     exact h3 x this
   · rw[if_neg hd] at h4
     have e:flat (d+1) (.node nm l ks)=inter l (ks.map (flat d)):=by show(if d=0 then _ else _)=_;rw[if_neg hd]
     rw[e] at hx
     have key:∀(l:List KV) (fs:List (List KV)),(∀x∈l,KVok x)→(∀f∈fs,∀x∈f,KVok x)→∀x∈interT l fs,KVok x:=by
      intro l
      induction l with
      |nil=>intro fs _ _ x hx;simp[interT] at hx
      | cons y l ih =>
        intro fs hl hf x hx
        cases fs with
        |nil=>simp[interT] at hx
        | cons f fs =>
          simp only[interT,List.cons_append] at hx
          rcases List.mem_cons.1 hx with rfl|hx
          · exact hl _ (by simp)
          · rcases List.mem_append.1 hx with hx|hx
            · exact hf f (by simp) x hx
            · exact ih fs (fun a ha=>hl a (List.mem_cons_of_mem _ ha)) (fun a ha=>hf a (List.mem_cons_of_mem _ ha)) x hx
     have hfs:∀f∈ks.map (flat d),∀x∈f,KVok x:=fun f hf x hx=>by
      obtain⟨k,hk,rfl⟩:=List.mem_map.1 hf
      exact zfo (h4.2 k hk) x hx
     cases hm:ks.map (flat d) with
     |nil=>rw[hm] at hx;simp[inter] at hx
     | cons f fs =>
       rw[hm] at hx hfs
       simp only[inter] at hx
       rcases List.mem_append.1 hx with hx|hx
       · exact hfs f (by simp) x hx
       · exact key l fs h3 (fun a ha=>hfs a (List.mem_cons_of_mem _ ha)) x hx
theorem TreeAt.ok {r rn rm:Nat} {tp:Nat} {k:Nat} (h:TreeAt c r rn rm w tp Z k):∀x∈rootL Z.now,KVok x:=by
 obtain⟨st,lm,km,nr,lr,gv,ov,sn,h⟩:=h
 have:=h.now.sh
 cases hz:Z.now with
 |none=>intro x hx;simp[rootL] at hx
 |some p=>rw[hz] at this;exact zfo this
def KeysAt (w:World) (v:Value) (ks:List Bs):Prop:=∃A c,v=.slice A ks.length c∧ks.length≤c∧c≤maxLen∧∀(i:Nat) (h:i<ks.length),∃g o kv,A=some ⟨g,o,none⟩∧w.cell? ⟨g,o+i,none⟩=some kv∧BytesAt (fun _=>True) w kv ks[i]
theorem zfp (h:BytesAt (fun _=>True) w0 v l) (h0:∀b,c0 b=0) (hf:Fr C0 w0 w) (ha:Ag w0.heap.size c0 c):BytesAt (Dt c) w v l:=
 (h.mono (F':=Dt c) (fun b _ hl=>(ha b hl).trans (h0 b))).fr0 hf
theorem zfq (hc:Cl w c) (l:List Nat):∃q,(∀k,c k≠q)∧q≠0∧∀a∈l,q≠a:=by
 have h:∀n,∃M,∀k,k<n→c k≤M:=by
  intro n
  induction n with
  |zero=>exact⟨0,fun k h=>absurd h (by omega)⟩
  | succ n ih =>
    obtain⟨M,h⟩:=ih
    refine⟨M+c n,fun k hk=>?_⟩
    by_cases e:k=n
    · subst e;omega
    · have:=h k (by omega);omega
 obtain⟨M,h⟩:=h w.heap.size
 refine⟨M+sumN l+1,fun k e=>?_,by omega,fun a ha=>by have:=z73 ha;omega⟩
 by_cases hk:k<w.heap.size
 · have:=h k hk;omega
 · have:=hc k (by omega);omega
theorem zfr:BytesAt F w (.slice none 0 0) []:=⟨none,0,rfl,Nat.le_refl _,by unfold maxLen;omega,fun h=>absurd rfl h⟩
end
section
open Go.RowKit Go.H Go.ChangeShapes Go.WideShapes Go.ChangeAt Go.Deep
theorem zfs {n:Int} (h:(Lit.int .u8 n).wf=true):Value.int .u8 n=bv (UInt8.ofNat n.toNat):=by
 have:0≤n∧n≤255:=by simpa [Lit.wf,IntKind.min,IntKind.max,IntKind.signed,IntKind.bits] using h
 unfold bv
 congr 1
 have h2:(UInt8.ofNat n.toNat).toNat=n.toNat % 2 ^ 8:=UInt8.toNat_ofNat'
 rw[h2]
 omega
theorem zft {w:World} {A:Option Addr} {L C:Nat} {zs:List Int} (h1:L≤C) (h2:C≤maxLen) (h3:zs.length=C) (hw:∀n∈zs,(Lit.int .u8 n).wf=true) (h0:A=none→C=0) (hc:∀a,A=some a→∀c,c<C→w.cell? (a.add c)=some (.int .u8 (zs.getD c 0))):BytesAt (fun _=>True) w (.slice A L C) ((zs.take L).map fun n=>UInt8.ofNat n.toNat):=by
 refine⟨A,C,by simp[h3,Nat.min_eq_left h1],by simp[h3];omega,h2,fun hne=>?_⟩
 have hL:0<L:=by
  apply Nat.pos_of_ne_zero
  rintro rfl
  exact hne (by simp)
 cases A with
 |none=>exact absurd (h0 rfl) (by omega)
 | some a =>
   have hz:=hc a rfl 0 (by omega)
   obtain⟨g,o,sp⟩:=a
   have hsp:sp=none:=by simpa [Addr.add] using World.cell?_spot hz
   subst hsp
   refine⟨g,o,rfl,trivial,fun j hj=>?_⟩
   have hj':j<L:=by simp[h3] at hj;omega
   have hcj:=hc _ rfl j (by omega)
   rw[add_plain] at hcj
   rw[hcj]
   have hjz:j<zs.length:=by omega
   simp only[List.getElem_map,List.getElem_take]
   have e2:zs.getD j 0=zs[j]:=by simp[List.getD,List.getElem?_eq_getElem hjz]
   rw[e2]
   congr 1
   exact zfs (hw _ (List.getElem_mem hjz))
section
variable {H : Type} {enc : TypeId × Value → H} {P : Program} {w : World} {base : Nat}
end
theorem zfu:ownKnob Tryz.prog.godebug=none:=by kernel_rfl
theorem zfv:laidOutB Tryz.prog=true:=by kernel_rfl
theorem zfw:Tryz.prog.cellsOf 5=1:=by kernel_rfl
theorem zfx:Tryz.prog.cellsOf 30=1:=by kernel_rfl
end
section
open Go.RowKit Go.H
set_option maxHeartbeats 1000000
set_option maxRecDepth 100000
theorem zfy {x:Nat}:x∈L↔((x:Int),(1:Int))∈ones L:=by
 unfold ones marks
 constructor
 · intro h;exact List.mem_map.2 ⟨x,by simpa using h,by simp⟩
 · intro h
   obtain⟨a,h,e⟩:=List.mem_map.1 h
   injection e with e
   have:a=x:=by omega
   rw[←this];simpa using h
def leftAt (w:World) (lm r:Nat):Nat:=match w.heap[lm]? with
 |some (.map es _)=>(leftOf es (w.iterSeen r)).size
 |_=>0
theorem zfz {lm r:Nat} {clock a c0:Nat} (h:w.heap[lm]?=some (.map es clock)) (hr:w.heap[r]?=some (.mapIter q a s c0)):leftAt w lm r=(leftOf es s).size:=by
 unfold leftAt World.iterSeen
 rw[h,hr]
theorem zg0 {α β:Type} {f:α→β} {x y:α}:∀{l:List α},(l.map f).Nodup→x∈l→y∈l→f x=f y→x=y
 | a :: l, hn, hx, hy, h => by
   have hn2:f a∉l.map f∧(l.map f).Nodup:=List.nodup_cons.1 hn
   rcases List.mem_cons.1 hx with rfl|hx2<;>rcases List.mem_cons.1 hy with rfl|hy2
   · rfl
   · exact absurd (h▸List.mem_map_of_mem hy2) hn2.1
   · exact absurd (h▸List.mem_map_of_mem hx2) hn2.1
   · exact zg0 hn2.2 hx2 hy2 h
theorem zg1 {cl:Nat} (h:Ent es cl L) (hx:x∈es.toList) (hy:y∈es.toList) (hk:x.key=y.key):x=y:=by
 have h1:es.toList.map (·.key)=(L.map Prod.fst).map (Value.int .i64):=by
  have:=congrArg (List.map Prod.fst) h.kv
  simp only[List.map_map] at this⊢
  exact this
 refine zg0 (f:=(·.key)) ?_ hx hy hk
 rw[h1]
 have:=h.keys
 exact List.Pairwise.map _ (fun a b hab e=>hab (by injection e)) this
theorem zg2 {lm:Nat} (h:MapIs w lm (vmap (ones L))) (hlen:L.length≤5000):
 Calls Tryz.prog 63 #[.map (some lm)] w fun e w'=>∃(v:Value) (K:List Nat),e=.returned v∧K.Nodup∧(∀x,x∈K↔x∈L)∧w'.ownsRow w.heap.size 3 1 v K.length (K.map natV)∧Fr C0 w w':=by
 obtain⟨es,clock,hb,he⟩:=h
 have hrg:=run_range_map (P:=Tryz.prog) w 74 3 3 lm es clock Tryz.underlying74 hb
 have HE:=zhd he
 have HB:=zhd hb
 have hlt:lm<w.heap.size:=(Array.getElem?_eq_some_iff.1 hb).1
 clear he hb
 go_enter Tryz.func63,Tryz.ntmps63
 go_wp2
 go_loopw [3,4] (fun v _ wr=>∃(seen:Array Nat) (K:List Nat) (c0:Nat),Hid (wr.heap[w.heap.size]?=some (.mapIter (some lm) clock seen c0))∧Hid (clock≤c0)∧Hid (Fr C0 w wr)∧Hid (wr.ownsRow (w.heap.size+1) 3 1 v K.length (K.map natV))∧Hid (w.heap.size<wr.heap.size)∧Hid (∀x∈es.toList,(seen.contains x.born=true↔∃k∈K,x.key=natV k))∧Hid K.Nodup∧Hid (∀k∈K,k∈L)) (fun _ _ wr=>leftAt wr lm w.heap.size)
 case atStart=>
  exact⟨#[],[],clock,zhd (heap_alloc_new _ _),zhd (Nat.le_refl _),zhd ((Fr.refl _ _).alloc _),zhd (World.ownsRow_nil _ _ _ _),zhd (by simp),zhd (by simp),zhd .nil,zhd (by simp)⟩
 case round=>
  obtain⟨seen,K,c0,HI,HC0,HF,HO,HL,HS,HN,HK⟩:=hrel
  have hlt1:¬lm=w.heap.size:=by omega
  have HB1:=zhd (HF.out.blk HB.out (fun h=>h))
  rcases run_next_at (P:=Tryz.prog) wr 0 w.heap.size lm clock c0 seen es clock HI.out HB1.out HE.out.clock HC0.out with⟨h0,hrun⟩|⟨e,hel,w2,hal,hrun⟩
  · have H0:=zhd h0
    clear h0
    go_wp2
    go_ret
    have hall:∀x∈es.toList,seen.contains x.born=true:=by
     intro x hx
     cases hc:seen.contains x.born with
     |true=>rfl
     | false =>
       have h1:x∈leftOf es seen:=by unfold leftOf;rw[Array.mem_filter];exact⟨by simpa using hx,by simpa using hc⟩
       have:=Array.size_pos_of_mem h1
       have:=H0.out
       omega
    refine⟨_,K,rfl,HN.out,fun x=>⟨HK.out x,fun hx=>?_⟩,z0n HO.out (fun b e=>by have:=(HO.out.lt b e).1;omega),HF.out⟩
    obtain⟨y,hy,hk,-⟩:=z59 HE.out (zfy.1 hx)
    obtain⟨k,hk2,hk3⟩:=(HS.out y hy).1 (hall y hy)
    rw[hk] at hk3
    injection hk3 with _ hk3
    have:x=k:=by omega
    rw[this];exact hk2
  · obtain⟨he1,hns⟩:e∈es.toList∧seen.contains e.born=false:=by
     unfold leftOf at hel
     simpa using hel
    obtain⟨p,hp,hk,hv⟩:=z5a HE.out he1
    obtain⟨k,rfl,hkL⟩:∃k:Nat,p=((k:Int),(1:Int))∧k∈L:=by
     unfold ones marks at hp
     obtain⟨k,hk1,rfl⟩:=List.mem_map.1 hp
     exact⟨k,by simp,hk1⟩
    have F2:Fr (fun b=>b=w.heap.size) wr (ChangeMaps.setBlock w2 w.heap.size (.mapIter (some lm) clock (seen.push e.born) clock)):=by
     rcases hal with rfl|rfl
     · exact Fr.putObj (C:=fun b=>b=w.heap.size) (r:=w.heap.size) (Fr.refl _ _) (.inr rfl) _
     · exact Fr.putObj (C:=fun b=>b=w.heap.size) (r:=w.heap.size) (Fr.refl _ wr).drew (.inr rfl) _
    have hs2:w.heap.size<w2.heap.size:=by rcases hal with rfl|rfl<;>exact HL.out
    have hI2:(ChangeMaps.setBlock w2 w.heap.size (.mapIter (some lm) clock (seen.push e.born) clock)).heap[w.heap.size]?=some (.mapIter (some lm) clock (seen.push e.born) clock):=z02 hs2
    generalize ChangeMaps.setBlock w2 w.heap.size (.mapIter (some lm) clock (seen.push e.born) clock)=w3 at *
    have hB3:=F2.blk HB1.out hlt1
    have hent:=run_entry_at (P:=Tryz.prog) w3 w.heap.size lm clock seen es clock e hI2 hB3 he1 HE.out.born
    rw[hk,hv] at hrun hent
    have HO3:=zhd (z0m HO.out F2 (fun b hb e=>by have:=(HO.out.lt b hb).1;omega))
    have HI3:=zhd hI2
    have HB3:=zhd hB3
    have hKl:K.length≤5000:=by
     have:=z97 HN.out HK.out
     omega
    have hF3:Fr C0 w w3:=⟨F2.os.trans HF.out.os,F2.output.trans HF.out.output,Nat.le_trans HF.out.size F2.size,fun j hj hn=>by
     rw[F2.block j (Nat.lt_of_lt_of_le hj HF.out.size) (by omega)];exact HF.out.block j hj hn⟩
    have HF3:=zhd hF3
    have hs3:w.heap.size<w3.heap.size:=Nat.lt_of_lt_of_le HL.out F2.size
    clear hI2 hB3 F2 hal hs2 hF3
    go_wp2_with (at_builtin;go_must (refine z0l z2n rfl _ _ rfl (xv:=.slice (some ⟨w3.heap.size,0,none⟩) 1 1) rfl rfl (z0m HO3.out ((Fr.refl C0 w3).alloc (.cells #[natV k] 3)) (fun _ _ h=>h)) (Row.ofBlock (F:=fun _=>True) (heap_alloc_new _ _) trivial (by unfold maxLen;omega) rfl) (by simp[Value.oneCell',natV]) (by unfold maxLen;omega) (by omega) (by rw[show ∀o,(w3.alloc o).heap.size=w3.heap.size+1 from fun o=>by simp[go_sem]];omega) ?_);intro v6 w6 o6 f6 k6 nil6)
    have F6:=zhd ((Fr.refl C0 w3).alloc (.cells #[.int .i64 (k:Int)] 3))
    have hnk:k∉K:=fun hk2=>by
     have:=(HS.out e he1).2 ⟨k,hk2,hk⟩
     rw[hns] at this;cases this
    have hnr:=fun b hb=>(HO.out.lt b hb).1
    have hI6:=f6.blk (F6.out.blk HI3.out (fun h=>h)) (fun h=>by have:=hnr _ h;omega)
    have hF6:Fr C0 w w6:=⟨f6.os.trans (F6.out.os.trans HF3.out.os),f6.output.trans (F6.out.output.trans HF3.out.output),Nat.le_trans HF3.out.size (Nat.le_trans F6.out.size f6.size),fun j hj hn=>by
     rw[f6.block j (Nat.lt_of_lt_of_le hj (Nat.le_trans HF3.out.size F6.out.size)) (fun h=>by have:=(HO.out.lt _ h).1;omega),F6.out.block j (Nat.lt_of_lt_of_le hj HF3.out.size) (fun h=>h)]
     exact HF3.out.block j hj hn⟩
    have HI6:=zhd hI6
    have HF6:=zhd hF6
    have O6:=zhd o6
    have hs6:=f6.size
    have hs36:=F6.out.size
    clear hI6 hF6 o6 f6 k6 nil6
    go_wp2
    go_roundw
    case rel=>
     refine⟨seen.push e.born,K++[k],clock,HI6,zhd (Nat.le_refl _),HF6,zhd (by have:=O6.out;simp only[List.length_append,List.length_singleton,List.map_append,List.map_cons,List.map_nil];exact this),zhd (by omega),zhd fun x hx=>?_,zhd ?_,zhd ?_⟩
     · have hx0:(seen.push e.born).contains x.born=true↔(seen.contains x.born=true∨x=e):=by
        constructor
        · intro hc
          simp at hc
          rcases hc with hc|hc
          · exact .inl (by simpa using hc)
          · exact .inr (z5c HE.out.born hx he1 hc)
        · rintro(hc|rfl)
          · simp at hc⊢;exact .inl hc
          · simp
       rw[hx0,HS.out x hx]
       constructor
       · rintro(⟨k2,h2,h3⟩|rfl)
         · exact⟨k2,by simp[h2],h3⟩
         · exact⟨k,by simp,hk⟩
       · rintro⟨k2,h2,h3⟩
         rcases List.mem_append.1 h2 with h2|h2
         · exact .inl ⟨k2,h2,h3⟩
         · simp at h2
           subst h2
           exact .inr (zg1 HE.out hx he1 (h3.trans hk.symm))
     · exact List.nodup_append.2 ⟨HN.out,by simp,fun a ha b hb e2=>hnk (by simp at hb;rw[←hb,←e2];exact ha)⟩
     · intro x hx
       rcases List.mem_append.1 hx with h|h
       · exact HK.out x h
       · simp at h;rw[h];exact hkL
    case measure=>
     rw[zfz (HF6.out.blk HB.out (fun h=>h)) HI6.out,zfz HB1.out HI.out]
     exact z5b (List.Sublist.refl _) he1 hns
theorem zg3 {m:Nat} (h:MapIs w m (vmap (ones L))):L.Nodup:=by
 obtain⟨es,ck,_,he⟩:=h
 have h1:=he.keys
 have h2:(vmap (ones L)).map Prod.fst=L.map fun k:Nat=>(k:Int):=by
  simp[vmap,ones,marks]
 rw[h2] at h1
 exact(List.pairwise_map.1 h1).imp fun h e=>h (by rw[e])
theorem zg4 {r B:Nat} {st:Nat} (h:StoreOk c r w st S D) (ha:Alive S D) (hs:S.state=[]) (ho:w.ownsRow B 3 1 v K.length (K.map natV)) (hk:∀k∈K,2≤k∧k<S.pages+2) (hn:K.Nodup) (hr:r≠0) (hvo:∀b,v.ownBlock=some b→c b≠r):
 Calls Tryz.prog 62 #[.pointer (some ⟨st,0,none⟩),v] w fun e w'=>e=.returned (.int .i64 0)∧StoreOk c r w' st { S with state:=ones K } D∧∃sm,c sm=r∧(∃es ck,w.heap[sm]?=some (.map es ck))∧Fr (fun b=>b=sm) w w':=by
 obtain⟨sm,d,m,ov,h⟩:=h
 have HDEAD:=zhd (z4w h)
 rw[ha.dead] at HDEAD
 have HS:=zhd h
 have HSM:=zhd ha.small
 have HKK:=zhd hk
 have HN:=zhd hn
 have hst:=h.st_sm
 have c1:=z2g h.blk 1 rfl
 have hsm:=h.map
 rw[hs] at hsm
 have HMP:Hid (MapIs w sm (vmap [])):=zhd hsm
 have hlen:K.length≤5000:=by
  have:=z97 (b:=(List.range S.pages).map (·+2)) hn fun x hx=>by
   have:=hk x hx
   exact List.mem_map.2 ⟨x-2,List.mem_range.2 (by omega),by show x-2+2=x;omega⟩
  have h2:=ha.small
  simp at this
  omega
 obtain⟨A,cp,rfl,hcp,HCELL⟩:∃A cp,v=.slice A K.length cp∧K.length≤cp∧Hid (∀w_,Fr (fun b=>b=sm) w w_→∀(i:Nat) (hi:i<K.length),∃g,A=some ⟨g,0,none⟩∧w_.cell? ⟨g,i,none⟩=some (.int .i64 (K[i]:Int))):=by
  rcases ho.2 with⟨rfl,hnil⟩|⟨g,cap,cur,rfl,hb,hg,hcc,-⟩
  · have h0:K.length=0:=hnil
    exact⟨none,0,by rw[h0],by omega,zhd fun w_ _ i hi=>by omega⟩
  · refine⟨some ⟨g,0,none⟩,cap,rfl,hcc,zhd fun w_ hf i hi=>⟨g,rfl,?_⟩⟩
    have h1:=ho.cells (g:=g) rfl i (natV K[i]) (by simp[hi])
    rw[show(⟨g,0,none⟩:Addr).add i=⟨g,i,none⟩ from by unfold Addr.add;split<;>simp_all] at h1
    exact hf.cell h1 (fun e=>hvo g rfl (by rw[show g=sm from e];exact HS.out.osm))
 clear h ha hsm ho hvo hk hn
 go_enter Tryz.func62,Tryz.ntmps62
 go_wp2_with fail
 refine HDEAD.out.mono ?_
 rintro e w1 ⟨rfl,hw1⟩
 have F1:=zhd (show Fr C0 w w1 from by rw[hw1];exact(Fr.refl _ w).drew)
 clear hw1 HDEAD
 go_wp2
 go_loopw [6,13] (fun _ i wr=>∃k:Nat,k≤K.length∧i=.int .i64 (k:Int)∧w1=wr) (fun _ i _=>K.length-(intOf i).toNat)
 case atStart=>exact⟨0,by omega,rfl,rfl⟩
 case round=>
  obtain⟨k,hk,rfl,rfl⟩:=hrel
  by_cases hlt:k<K.length
  · obtain⟨g,rfl,hcell⟩:=HCELL.out w1 (F1.out.mono (fun _ _ h=>h.elim)) k hlt
    have hkk:=HKK.out _ (List.getElem_mem hlt)
    have HIS1:=zhd (z4z (HS.out.fr F1.out (fun _ h=>h.elim) (fun _ h=>h.elim)) HSM.out K[k])
    have e1:(decide (2≤K[k]) && decide (K[k]<2+S.pages))=true:=by simp;omega
    rw[e1] at HIS1
    clear e1 hkk
    generalize (K[k]:Nat)=x at *
    go_wp2_with fail
    refine HIS1.out.mono ?_
    rintro e w2 ⟨rfl,rfl⟩
    go_wp2
    go_roundw
    case rel=>exact⟨k+1,by omega,by go_num,by first|rfl|trivial⟩
    case measure=>simp[intOf];omega
  · obtain rfl:k=K.length:=by omega
    go_wp2
    go_loopw [8,26] (fun _ i wr=>∃k:Nat,k≤K.length∧i=.int .i64 (k:Int)∧Hid (Fr (fun b=>b=sm) w1 wr)∧Hid (MapIs wr sm (vmap (ones (K.take k))))) (fun _ i _=>K.length-(intOf i).toNat)
    case atStart=>exact⟨0,by omega,rfl,zhd (Fr.refl _ _),zhd (HMP.out.fr F1.out (fun h=>h))⟩
    case round=>
     obtain⟨j,hj,rfl,HF,HM⟩:=hrel
     by_cases hlt2:j<K.length
     · obtain⟨g,rfl,hcell⟩:=HCELL.out wr ((F1.out.mono (C2:=fun b=>b=sm) (fun _ _ h=>h.elim)).trans HF.out (fun _ _ h=>h)) j hlt2
       have c1r:=HF.out.cell (F1.out.cell0 c1) hst
       have hnew:K[j]∉K.take j:=fun hm=>by
        have h2:=HN.out
        rw[←List.take_append_drop j K,List.drop_eq_getElem_cons hlt2] at h2
        exact(List.nodup_append.1 h2).2.2 _ hm _ List.mem_cons_self rfl
       have htk:K.take (j+1)=K.take j++[K[j]]:=by rw[List.take_succ_eq_append_getElem hlt2]
       have HTK:=zhd htk
       have HNEW:=zhd hnew
       clear htk hnew
       generalize hx:(K[j]:Nat)=x at *
       clear hx
       go_wp2_with (refine z1x rfl Tryz.underlying74 Tryz.underlying3 _ _ _ rfl (m:=sm) (k:=(x:Int)) (v:=.int .i64 1) rfl rfl rfl HM.out ?_;intro w4 n4 f4)
       have N4:=zhd (show MapIs w4 sm (vmap (ones (K.take (j+1)))) from by rw[HTK.out,←z8z HNEW.out,←z4t];exact n4)
       have F4:=zhd (HF.out.trans f4 (fun _ _ h=>h))
       clear n4 f4
       go_wp2
       go_roundw
       case rel=>exact⟨j+1,by omega,by go_num,F4,N4⟩
       case measure=>simp[intOf];omega
     · obtain rfl:j=K.length:=by omega
       have hm:=HM.out
       rw[List.take_of_length_le (Nat.le_refl _)] at hm
       have HM2:=zhd hm
       clear hm
       go_wp2
       go_ret
       have f:=(F1.out.mono (C2:=fun b=>b=sm) (fun _ _ h=>h.elim)).trans HF.out (fun _ _ h=>h)
       exact⟨rfl,⟨sm,d,m,ov,HS.out.setState hr HM2.out f⟩,sm,HS.out.osm,by obtain⟨es,ck,h1,_⟩:=HS.out.map;exact⟨es,ck,h1⟩,f⟩
end
end Go.Proofs.YtcmicdcikechkaaGreat
namespace Go.H
open Go.RowKit
section
def Qp (s:List Nat) (Q:Exit→Act→World→Prop) (e:Exit) (a:Act) (w:World):Prop:=
 match e with
 |.panic c=>∀a':Act,(∀j∈s,a'.tmps[j]?=a.tmps[j]?)→a'.defers=a.defers→Q (.panic c) a' w
 |x=>Q x a w
theorem zg5 {a:Act} {d:Option Tmp} {v:Value} {j:Nat} (h:d≠some j):(a.put d v).tmps[j]?=a.tmps[j]?:=by
 cases d with
 |none=>rfl
 | some i =>
   show(a.tmps.setIfInBounds i v)[j]?=_
   rw[Array.getElem?_setIfInBounds,if_neg (fun e=>h (by rw[e]))]
theorem zg6 {a:Act} {d:Option Tmp} {v:Value}:(a.put d v).defers=a.defers:=by cases d<;>rfl
theorem zg7 (h:(s.all fun j=>decide (d≠some j))=true):∀c a w,Qp s Q (.panic c) (a.put d v) w→Qp s Q (.panic c) a w:=fun c a w k a' h1 h2=>
 k a' (fun j hj=>(h1 j hj).trans (zg5 (by have:=List.all_eq_true.1 h j hj;simpa using this)).symm) (h2.trans zg6.symm)
theorem zg8 {P:Program} {c:Code} (s:List Nat) {Q:Exit→Act→World→Prop} {a:Act} {w:World} (h:c.wp P (Qp s Q) a w):c.wp P Q a w:=
 Code.wp_mono (fun e a w h=>by
  cases e with
  |panic c=>exact h a (fun _ _=>rfl) rfl
  |_=>exact h) h
end
end Go.H
