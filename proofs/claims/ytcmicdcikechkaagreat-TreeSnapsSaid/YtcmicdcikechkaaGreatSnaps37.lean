import Derived.Test.YtcmicdcikechkaaGreatSnaps36
import Derived.Lib.SmallJoins
import Derived.Test.YtcmicdcikechkaaGreatSnaps01
import Derived.Test.YtcmicdcikechkaaGreatSnaps10
import Derived.Test.YtcmicdcikechkaaGreatSnaps03
import Derived.Test.YtcmicdcikechkaaGreatSnaps17
import Derived.Maps.RangeRun
import Derived.Test.YtcmicdcikechkaaGreatSnaps34
import Derived.Test.YtcmicdcikechkaaGreatSnaps33
import Derived.Test.YtcmicdcikechkaaGreatSnaps19
import Derived.Test.YtcmicdcikechkaaGreatSnaps31
import Derived.Test.YtcmicdcikechkaaGreatSnaps21
set_option linter.all false
namespace Go.Proofs.YtcmicdcikechkaaGreat
section
open Go.RowKit Go.H
set_option maxHeartbeats 2000000
set_option maxRecDepth 100000
structure Stg (c0:Nat→Nat) (w0:World) (r rn rm:Nat) (c:Nat→Nat) (w:World) (tp:Nat) (Z:TSt) (k:Nat):Prop where
 fr:Fr C0 w0 w
 ag:Ag w0.heap.size c0 c
 tr:TreeAt c r rn rm w tp Z k
theorem Stg.next {c0:Nat→Nat} {w0:World} {r rn rm:Nat} {c c':Nat→Nat} {w w':World} {tp tp':Nat} {Z Z':TSt} {k k':Nat} (h:Stg c0 w0 r rn rm c w tp Z k) (hn:∀b,c0 b≠r∧c0 b≠rn∧c0 b≠rm) (hf:Fr (fun b=>c b=r∨c b=rn∨c b=rm) w w') (ha:Ag w.heap.size c c') (ht:TreeAt c' r rn rm w' tp' Z' k'):Stg c0 w0 r rn rm c' w' tp' Z' k':=by
 refine⟨h.fr.trans hf (fun b hb e=>?_),fun b hb=>(ha b (by have:=h.fr.size;omega)).trans (h.ag b hb),ht⟩
 rw[h.ag b hb] at e
 have:=hn b
 rcases e with e|e|e
 · exact this.1 e
 · exact this.2.1 e
 · exact this.2.2 e
theorem Stg.fr0 {c0:Nat→Nat} {w0:World} {r rn rm:Nat} {c:Nat→Nat} {w w':World} {tp:Nat} {Z:TSt} {k:Nat} (h:Stg c0 w0 r rn rm c w tp Z k) (hf:Fr C0 w w'):Stg c0 w0 r rn rm c w' tp Z k:=⟨h.fr.trans0 hf,h.ag,h.tr.fr0 hf⟩
theorem TreeAt.move {c c':Nat→Nat} {r rn rm:Nat} {w w':World} {tp:Nat} {Z:TSt} {k:Nat} (h:TreeAt c r rn rm w tp Z k) (hf:Fr C0 w w') (ha:Ag w.heap.size c c') (hc:Cl w' c'):TreeAt c' r rn rm w' tp Z k:=by
 obtain⟨st,lm,km,nr,lr,gv,ov,sn,h⟩:=h
 exact⟨st,lm,km,nr,lr,gv,ov,sn,(h.hd.ag ha).fr0 hf,hc,hf.blk h.blk (fun h=>h),z0m h.gr hf (fun _ _ h=>h),fun b hb=>(ha b (h.gr.lt b hb).2).trans (h.go b hb),z0m h.orow hf (fun _ _ h=>h),fun b hb=>(ha b (h.orow.lt b hb).2).trans (h.oo b hb),h.live.fr hf (fun h=>h),(ha _ h.live.lt).trans h.lmo,h.kept.fr hf (fun h=>h),(ha _ h.kept.lt).trans h.kmo,h.lk,(h.now.ag ha).fr0 hf,(h.last.ag ha).fr0 hf,zdl h.sns h.bk.kp hf ha (fun _ _ e=>e.elim) (fun _ _ e=>e.elim),h.bk⟩
theorem Stg.move {c0:Nat→Nat} {w0:World} {r rn rm:Nat} {c c':Nat→Nat} {w w':World} {tp:Nat} {Z:TSt} {k:Nat} (h:Stg c0 w0 r rn rm c w tp Z k) (hf:Fr C0 w w') (ha:Ag w.heap.size c c') (hc:Cl w' c'):Stg c0 w0 r rn rm c' w' tp Z k:=⟨h.fr.trans0 hf,fun b hb=>(ha b (by have:=h.fr.size;omega)).trans (h.ag b hb),h.tr.move hf ha hc⟩
theorem zfg {c c':Nat→Nat} {w w':World} {v:Value} {l:Bs} (h:BytesAt (Dt c) w v l) (hf:Fr C0 w w') (ha:Ag w.heap.size c c'):BytesAt (Dt c') w' v l:=
 (h.mono (F':=Dt c') (fun b hb hl=>(ha b hl).trans hb)).fr0 hf
theorem zfh {c c':Nat→Nat} {r rn rm:Nat} {w w':World} {v:Value} {l:Bs} (ho:Owners r rn rm) (h:BytesAt (Dt c) w v l) (hf:Fr (fun b=>c b=r∨c b=rn∨c b=rm) w w') (ha:Ag w.heap.size c c'):BytesAt (Dt c') w' v l:=
 ((h.mono (F':=fun b=>c b=0∧b<w.heap.size) (fun b hb hl=>⟨hb,hl⟩)).fr hf (fun b hb e=>by rcases e with e|e|e;exact ho.r0 (e.symm.trans hb.1);exact ho.n0 (e.symm.trans hb.1);exact ho.m0 (e.symm.trans hb.1))).mono (fun b hb _=>(ha b hb.2).trans hb.1)
theorem zfi {c:Nat→Nat} {r rn rm:Nat} {w:World} {tp:Nat} {Z:TSt} {k:Nat} {kv vv:Value} {x:KV} (ho:Owners r rn rm) (h:TreeAt c r rn rm w tp Z k) (hk:BytesAt (Dt c) w kv x.1) (hv:BytesAt (Dt c) w vv x.2) (hw:wrong x.1 x.2=0) (hb:(rootL Z.now).length<90000) (hr:(rootL Z.now).length<Z.S.pages-Z.S.state.length) :
 Calls Tryz.prog 10 #[.pointer (some ⟨tp,0,none⟩),kv,vv] w fun e w'=>e=.returned (.int .i64 0)∧Fr (fun b=>c b=r∨c b=rn∨c b=rm) w w'∧∃c' o' gone',Ag w.heap.size c c'∧TreeAt c' r rn rm w' tp { Z with now:=o',gone:=gone' } k∧rootL o'=putL x (rootL Z.now):=by
 refine(zdn ho h hk hv hw hb).mono ?_
 rintro e w' (⟨rfl,f,o',h1,h2,h3,h4⟩|⟨rfl,f,c',o',gone',h1,h2,h3⟩)
 · have h5:=zc2 h2
   rw[h1,zbs h.bk.sn] at h5
   split at h5<;>omega
 · exact⟨rfl,f.mono fun b _ e=>.inl e,c',o',gone',h1,h2,h3⟩
@[go_sem] theorem zfj (w : World) : (binOp .eql 9 (.string ⟨#[97]⟩) (.string ⟨#[97]⟩)).run Tryz.prog w = .ok (.bool true) w := by kernel_rfl
theorem zfk {c:Nat→Nat} {w:World} (hc:Cl w c):Calls Tryz.prog 14 #[] w fun e w'=>e=.returned (.bool true)∧Fr C0 w w':=by
 obtain⟨r,rn,rm,ho,hn⟩:=zfe hc
 have HN:=zhd (z3d w 30 (by omega) (by omega))
 have HO:=zhd (fun (w_:World) (c_:Nat→Nat) (hd:DiskA (Dt c_) w_ (w.heap.size+1) w.heap.size (.slice none 0 0) (newD 30)) (e1:c_ (w.heap.size+1)=r) (e2:c_ w.heap.size=r) (hc_:Cl w_ c_)=>zeo (num:=0) ho hd e1 e2 (fun b hb=>by simp[Value.ownBlock] at hb) hc_ rfl (by show 3≤30;omega) (by show 30≤4096;omega) (zet 30) rfl (zes 30) (by omega) (zdi (zer 30)))
 have HC:=zhd hc
 have HOW:=zhd ho
 have HNW:=zhd hn
 clear hc ho hn
 go_enter Tryz.func14,Tryz.ntmps14
 go_wp2_with fail
 refine HN.out.mono ?_
 rintro e w1 ⟨rfl,f1,hs1,hd1⟩
 obtain⟨c1,hc1,hc2,hag,hcl⟩:∃c1:Nat→Nat,c1 (w.heap.size+1)=r∧c1 w.heap.size=r∧Ag w.heap.size c c1∧Cl w1 c1:=by
  refine⟨fun b=>if b=w.heap.size∨b=w.heap.size+1 then r else c b,by simp,by simp,fun b hb=>?_,fun b hb=>?_⟩
  · simp only[];rw[if_neg (by omega)]
  · simp only[];rw[if_neg (by omega)];exact HC.out b (by omega)
 have HO1:=zhd (HO.out w1 c1 (hd1.mono fun b hb _=>hb.elim) hc1 hc2 hcl)
 have F1:=zhd f1
 have HS1:=zhd hs1
 clear HN HO f1 hs1 hd1
 go_wp2_with fail
 refine HO1.out.mono ?_
 rintro e w2 ⟨f2,tp,c2,rfl,ag2,hle,ht2⟩
 have S2:Hid (Stg c w r rn rm c2 w2 tp (TSt.empty (newD 30) 0 (w.heap.size+1)) 0):=zhd ⟨F1.out.trans0 f2,fun b hb=>(ag2 b (by have:=HS1.out;omega)).trans (hag b hb),ht2⟩
 clear f2 ht2 HO1 ag2 hag hcl hc1 hc2 F1 HS1
 have hcv1:=Go.Joins.run_convert_bytes_const_at (P:=Tryz.prog) w2 30 5 #[.int .u8 97] 1 1 w2.heap.size rfl Tryz.underlying30 Tryz.underlying5
 have hcv2:=Go.Joins.run_convert_bytes_const_at (P:=Tryz.prog) (w2.alloc (.cells #[.int .u8 97] 5 (1,2))) 30 5 #[.int .u8 98] 1 1 (w2.heap.size+1) (by simp) Tryz.underlying30 Tryz.underlying5
 go_wp2_with fail
 clear hcv1 hcv2
 have g3:=((Fr.refl C0 w2).alloc (.cells #[.int .u8 97] 5 (1,2))).alloc (.cells #[.int .u8 98] 5 (1,2))
 have hba:=((Fr.refl C0 _).alloc (.cells #[.int .u8 98] 5 (1,2))).blk (heap_alloc_new w2 (.cells #[.int .u8 97] 5 (1,2))) (fun h=>h)
 have hbb:=heap_alloc_new (w2.alloc (.cells #[.int .u8 97] 5 (1,2))) (.cells #[.int .u8 98] 5 (1,2))
 rw[show(w2.alloc (.cells #[.int .u8 97] 5 (1,2))).heap.size=w2.heap.size+1 by simp] at hbb
 generalize (w2.alloc (.cells #[.int .u8 97] 5 (1,2))).alloc (.cells #[.int .u8 98] 5 (1,2))=w3 at *
 have S3:=zhd (S2.out.fr0 g3)
 have A3:Hid (BytesAt (Dt c2) w3 (.slice (some ⟨w2.heap.size,0,none⟩) 1 1) [97]):=zhd (z0i.2 (Row.ofBlock (n:=1) (size:=1) hba (S2.out.tr.cl _ (Nat.le_refl _)) (by unfold maxLen;omega) rfl))
 have B3:Hid (BytesAt (Dt c2) w3 (.slice (some ⟨w2.heap.size+1,0,none⟩) 1 1) [98]):=zhd (z0i.2 (Row.ofBlock (n:=1) (size:=1) hbb (S2.out.tr.cl _ (by omega)) (by unfold maxLen;omega) rfl))
 clear hba hbb g3 S2
 refine(zfi (x:=([97],[98])) HOW.out S3.out.tr A3.out B3.out rfl (by show 0<90000;omega) (by show 0<28-0;omega)).mono ?_
 rintro e w4 ⟨rfl,f4,c4,o4,g4,ag4,t4,hl4⟩
 have S4:=zhd (S3.out.next HNW.out f4 ag4 t4)
 have A4:=zhd (zfh HOW.out A3.out f4 ag4)
 have B4:=zhd (zfh HOW.out B3.out f4 ag4)
 have HL4:Hid (rootL o4=[([97],[98])]):=zhd hl4
 clear f4 ag4 t4 hl4 S3 A3 B3
 go_wp2_with fail
 refine(zf0 HOW.out S4.out.tr (by show 0<1000000;omega) (by show(0:Int)<1;omega)).mono ?_
 rintro e w5 ⟨rfl,f5,c5,Z5,ag5,t5,h50,h51,h52,h53,h54,h55,h56,h57,-⟩
 have S5:=zhd (S4.out.next HNW.out f5 ag5 t5)
 have A5:=zhd (zfh HOW.out A4.out f5 ag5)
 have B5:=zhd (zfh HOW.out B4.out f5 ag5)
 have HL5:Hid (rootL Z5.now=[([97],[98])]):=zhd (h51.trans HL4.out)
 have HZ5:Hid (Z5.last=Z5.now∧Z5.S.pages=28∧Z5.S.num=1∧Z5.S.state.length≤1):=zhd ⟨h52,h55,h56,by
  have:=zf8 t5 h50.1
  rw[h52,h51,HL4.out] at this
  simpa using this⟩
 clear f5 ag5 t5 h51 h52 h53 h54 h55 h56 h57 S4 A4 B4 HL4
 go_wp2_with fail
 refine(zfi (x:=([98],[97])) HOW.out S5.out.tr B5.out A5.out rfl (by rw[HL5.out];simp) (by rw[HL5.out];have:=HZ5.out;simp;omega)).mono ?_
 rintro e w6 ⟨rfl,f6,c6,o6,g6,ag6,t6,hl6⟩
 have S6:=zhd (S5.out.next HNW.out f6 ag6 t6)
 have B6:=zhd (zfh HOW.out B5.out f6 ag6)
 have HL6:Hid (rootL o6=[([97],[98]),([98],[97])]):=zhd (by rw[hl6,HL5.out];rfl)
 clear f6 ag6 t6 hl6 S5 A5 B5
 go_wp2_with fail
 refine(zf7 HOW.out S6.out.tr).mono ?_
 rintro e w7 ⟨sp,rfl,f7,pm7,c7,ag7,t7,hsr⟩
 have f7':Fr (fun b=>c6 b=r∨c6 b=rn∨c6 b=rm) w6 w7:=f7.mono fun b _ e=>e.elim .inl (fun e=>.inr (.inr e))
 have S7:=zhd (S6.out.next HNW.out f7' ag7 t7)
 have B7:=zhd (zfh HOW.out B6.out f7' ag7)
 obtain⟨q,q0,q1,q2,q3⟩:=zbr t7.cl r rn
 have HSR:=zhd (hsr q 9 (.slice none 0 0) (.slice none 0 0) [] [] q1 q2 q3 q0 (by omega) ⟨none,0,rfl,Nat.le_refl _,by unfold maxLen;omega,fun h=>absurd rfl h⟩ ⟨none,0,rfl,Nat.le_refl _,by unfold maxLen;omega,fun h=>absurd rfl h⟩ (by simp) (by simp))
 clear f7 ag7 t7 hsr f7' S6 B6 q0 q1 q2 q3
 go_wp2_with fail
 refine HSR.out.mono ?_
 rintro e w8 ⟨f8,v8,c8,rfl,ag8,cl8,o8⟩
 have S8:=zhd (S7.out.move f8 ag8 cl8)
 have B8:=zhd (zfg B7.out f8 ag8)
 obtain⟨vA,vc,rfl,-⟩:=o8.form
 have hlen8:((rangeL [] [] (rootL Z5.last)).take 9).length=1:=by rw[HZ5.out.1,HL5.out];rfl
 rw[hlen8]
 clear f8 ag8 cl8 o8 HSR S7 B7 hlen8
 go_wp2_with fail
 refine(zf9 S8.out.tr B8.out rfl).mono ?_
 rintro e w9 ⟨f9,h9⟩
 have hg9:getL [98] (rootL ({ S:=Z5.S,D:=Z5.D,now:=o6,last:=Z5.last,gone:=g6,live:=Z5.live,held:=Z5.held }:TSt).now)=some [97]:=by
  show getL [98] (rootL o6)=_
  rw[HL6.out];rfl
 rcases h9 with⟨hX,_⟩|h9
 · exact hX.elim
 have hz9:∀(sp pm:Nat) (bk kp:List Nat) (ss:List SnapS),(({ S:=Z5.S,D:=Z5.D,now:=o6,last:=Z5.last,gone:=g6,live:=Z5.live,held:=Z5.held,back:=bk,kept:=kp,snaps:=ss }:TSt).snapped sp pm).now=({ S:=Z5.S,D:=Z5.D,now:=o6,last:=Z5.last,gone:=g6,live:=Z5.live,held:=Z5.held }:TSt).now:=fun _ _ _ _ _=>rfl
 rw[hz9,hg9] at h9
 obtain⟨v9,rfl,b9⟩:=h9
 have S9:=zhd (S8.out.fr0 f9)
 have B9:Hid (BytesAt (Dt c8) w9 v9 [97]):=zhd (b9.mono fun b hb _=>S8.out.tr.cl b hb)
 obtain⟨gA,gc,rfl,-⟩:=b9.form
 clear f9 b9 hg9 S8 B8
 go_wp2_with fail
 refine(zf1 HOW.out S9.out.tr).mono ?_
 rintro e w10 ⟨rfl,f10,t10⟩
 have f10':Fr (fun b=>c8 b=r∨c8 b=rn∨c8 b=rm) w9 w10:=f10.mono fun b _ e=>.inl e
 have S10:=zhd (S9.out.next HNW.out f10' (Ag.refl _ _) t10)
 have B10:=zhd (zfh HOW.out B9.out f10' (Ag.refl _ _))
 clear f10 f10' t10 S9 B9
 have hst:(convert 30 9 (.slice gA 1 gc)).run Tryz.prog w10=.ok (.string ⟨#[97]⟩) w10:=z2u B10.out
 have HCHK:=zhd (zel HOW.out S10.out.tr)
 have HWR:=zhd (fun (w_:World) (hf:Fr C0 w10 w_)=>zfd (k:=[]) (v:=[]) (F:=fun _=>True) (G:=fun _=>True) (kv:=.slice none 0 0) (vv:=.slice none 0 0) (S10.out.tr.fr0 hf) ⟨none,0,rfl,Nat.le_refl _,by unfold maxLen;omega,fun h=>absurd rfl h⟩ ⟨none,0,rfl,Nat.le_refl _,by unfold maxLen;omega,fun h=>absurd rfl h⟩ (by decide))
 have HLEN:Hid (Calls Tryz.prog 15 #[.pointer (some ⟨tp,0,none⟩)] w10 fun e w'=>e=.returned (.int .i64 1)∧w10=w'):=zhd ((zfb S10.out.tr).mono (by
  rintro e w' ⟨rfl,rfl⟩
  refine⟨?_,rfl⟩
  show Ending.returned (.int .i64 ((rootL Z5.last).length:Int))=_
  rw[HZ5.out.1,HL5.out];rfl))
 have HNUM:Hid (Calls Tryz.prog 20 #[.pointer (some ⟨tp,0,none⟩)] w10 fun e w'=>e=.returned (.int .i64 1)∧w10=w'):=zhd ((zfc S10.out.tr).mono (by
  rintro e w' ⟨rfl,rfl⟩
  refine⟨?_,rfl⟩
  show Ending.returned (.int .i64 (Z5.S.num:Int))=_
  rw[HZ5.out.2.2.1];rfl))
 have HFR:=zhd S10.out.fr
 have hw1:(wrong [] []:Int)=1:=rfl
 rw[hw1] at HWR
 clear hw1 S10 B10 HZ5 HL5 HL6 HC HOW HNW hle
 go_wp2_with fail
 refine HLEN.out.mono ?_
 rintro e w11 ⟨rfl,rfl⟩
 go_wp2_with fail
 refine HNUM.out.mono ?_
 rintro e w12 ⟨rfl,rfl⟩
 go_wp2_with fail
 refine HCHK.out.mono ?_
 rintro e w13 ⟨rfl,f13⟩
 have F13:=zhd f13
 clear f13
 go_wp2_with fail
 refine(HWR.out _ F13.out).mono ?_
 rintro e w14 ⟨rfl,f14⟩
 have F14:=zhd f14
 clear f14
 go_wp2
 go_ret
 exact⟨rfl,(HFR.out.trans0 F13.out).trans0 F14.out⟩
end
section
open Go.RowKit Go.H
set_option maxHeartbeats 2000000
set_option maxRecDepth 100000
theorem zfl:∀{d m:Nat} {t:T},Shape d m t→∀x∈flat d t,KVok x
 |0,_,_,h,_,_=>h.elim
 | d + 1, m, .node nm l ks, h, x, hx => by
   obtain⟨h1,h2,h3,h4⟩:=h
   by_cases hd:d=0
   · subst hd
     have:x∈l:=by
      have e:flat (0+1) (.node nm l ks)=l:=rfl
      rw[e] at hx;exact hx
     exact h3 x this
   · rw[if_neg hd] at h4
     have e:flat (d+1) (.node nm l ks)=inter l (ks.map (flat d)):=by show(if d=0 then _ else _)=_;rw[if_neg hd]
     rw[e] at hx
     have key:∀(l:List KV) (fs:List (List KV)),(∀x∈l,KVok x)→(∀f∈fs,∀x∈f,KVok x)→∀x∈interT l fs,KVok x:=by
      intro l
      induction l with
      |nil=>intro fs _ _ x hx;simp[interT] at hx
      | cons y l ih =>
        intro fs hl hf x hx
        cases fs with
        |nil=>simp[interT] at hx
        | cons f fs =>
          simp only[interT,List.cons_append] at hx
          rcases List.mem_cons.1 hx with rfl|hx
          · exact hl _ (by simp)
          · rcases List.mem_append.1 hx with hx|hx
            · exact hf f (by simp) x hx
            · exact ih fs (fun a ha=>hl a (List.mem_cons_of_mem _ ha)) (fun a ha=>hf a (List.mem_cons_of_mem _ ha)) x hx
     have hfs:∀f∈ks.map (flat d),∀x∈f,KVok x:=fun f hf x hx=>by
      obtain⟨k,hk,rfl⟩:=List.mem_map.1 hf
      exact zfl (h4.2 k hk) x hx
     cases hm:ks.map (flat d) with
     |nil=>rw[hm] at hx;simp[inter] at hx
     | cons f fs =>
       rw[hm] at hx hfs
       simp only[inter] at hx
       rcases List.mem_append.1 hx with hx|hx
       · exact hfs f (by simp) x hx
       · exact key l fs h3 (fun a ha=>hfs a (List.mem_cons_of_mem _ ha)) x hx
def KeysAt (w:World) (v:Value) (ks:List Bs):Prop:=∃A c,v=.slice A ks.length c∧ks.length≤c∧c≤maxLen∧∀(i:Nat) (h:i<ks.length),∃g o kv,A=some ⟨g,o,none⟩∧w.cell? ⟨g,o+i,none⟩=some kv∧BytesAt (fun _=>True) w kv ks[i]
theorem zfm {c0 c:Nat→Nat} {w0 w:World} {v:Value} {l:Bs} (h:BytesAt (fun _=>True) w0 v l) (h0:∀b,c0 b=0) (hf:Fr C0 w0 w) (ha:Ag w0.heap.size c0 c):BytesAt (Dt c) w v l:=
 (h.mono (F':=Dt c) (fun b _ hl=>(ha b hl).trans (h0 b))).fr0 hf
theorem zfn {w:World} {c:Nat→Nat} (hc:Cl w c) (l:List Nat):∃q,(∀k,c k≠q)∧q≠0∧∀a∈l,q≠a:=by
 have h:∀n,∃M,∀k,k<n→c k≤M:=by
  intro n
  induction n with
  |zero=>exact⟨0,fun k h=>absurd h (by omega)⟩
  | succ n ih =>
    obtain⟨M,h⟩:=ih
    refine⟨M+c n,fun k hk=>?_⟩
    by_cases e:k=n
    · subst e;omega
    · have:=h k (by omega);omega
 obtain⟨M,h⟩:=h w.heap.size
 refine⟨M+sumN l+1,fun k e=>?_,by omega,fun a ha=>by have:=z73 ha;omega⟩
 by_cases hk:k<w.heap.size
 · have:=h k hk;omega
 · have:=hc k (by omega);omega
theorem zfo {F:Nat→Prop} {w:World}:BytesAt F w (.slice none 0 0) []:=⟨none,0,rfl,Nat.le_refl _,by unfold maxLen;omega,fun h=>absurd rfl h⟩
end
section
open Go.RowKit Go.H Go.ChangeShapes Go.WideShapes Go.ChangeAt Go.Deep
theorem zfp {n:Int} (h:(Lit.int .u8 n).wf=true):Value.int .u8 n=bv (UInt8.ofNat n.toNat):=by
 have:0≤n∧n≤255:=by simpa [Lit.wf,IntKind.min,IntKind.max,IntKind.signed,IntKind.bits] using h
 unfold bv
 congr 1
 have h2:(UInt8.ofNat n.toNat).toNat=n.toNat % 2 ^ 8:=UInt8.toNat_ofNat'
 rw[h2]
 omega
theorem zfq {w:World} {A:Option Addr} {L C:Nat} {zs:List Int} (h1:L≤C) (h2:C≤maxLen) (h3:zs.length=C) (hw:∀n∈zs,(Lit.int .u8 n).wf=true) (h0:A=none→C=0) (hc:∀a,A=some a→∀c,c<C→w.cell? (a.add c)=some (.int .u8 (zs.getD c 0))):BytesAt (fun _=>True) w (.slice A L C) ((zs.take L).map fun n=>UInt8.ofNat n.toNat):=by
 refine⟨A,C,by simp[h3,Nat.min_eq_left h1],by simp[h3];omega,h2,fun hne=>?_⟩
 have hL:0<L:=by
  apply Nat.pos_of_ne_zero
  rintro rfl
  exact hne (by simp)
 cases A with
 |none=>exact absurd (h0 rfl) (by omega)
 | some a =>
   have hz:=hc a rfl 0 (by omega)
   obtain⟨g,o,sp⟩:=a
   have hsp:sp=none:=by simpa [Addr.add] using World.cell?_spot hz
   subst hsp
   refine⟨g,o,rfl,trivial,fun j hj=>?_⟩
   have hj':j<L:=by simp[h3] at hj;omega
   have hcj:=hc _ rfl j (by omega)
   rw[add_plain] at hcj
   rw[hcj]
   have hjz:j<zs.length:=by omega
   simp only[List.getElem_map,List.getElem_take]
   have e2:zs.getD j 0=zs[j]:=by simp[List.getD,List.getElem?_eq_getElem hjz]
   rw[e2]
   congr 1
   exact zfp (hw _ (List.getElem_mem hjz))
section
variable {H : Type} {enc : TypeId × Value → H} {P : Program} {w : World} {base : Nat}
theorem zfr {t e q:TypeId} {v:Value} {d:DataW H} {ps:List MemPlace} (ht:P.underlying t=some (.slice e)) (he:P.underlying e=some (.slice q)) (hq:P.underlying q=some (.int .u8)) (ce:P.cellsOf e=1) (cq:P.cellsOf q=1) (hv:Value.okWide P w .any base t v) (h:DataW.Trod enc P w 0 (fun _=>true) true t v d ps):∃ks,KeysAt w v ks:=by
 obtain⟨a,len,cap,rfl⟩:=okWide_slice ht hv
 obtain⟨fuel,hf⟩:=h
 rcases open_int_rows ht he hq ce cq hf with⟨hcs,-⟩|⟨a',len',cap',A,L,C,Z,hcs,hb,hl,hm,hx,hrows⟩
 · simp[Value.cells] at hcs
   obtain⟨rfl,rfl,rfl⟩:=hcs
   exact⟨[],none,0,rfl,Nat.le_refl _,Nat.zero_le _,fun i h=>absurd h (by simp)⟩
 · simp[Value.cells] at hcs
   obtain⟨rfl,rfl,rfl⟩:=hcs
   refine⟨(List.range len).map fun r=>((Z r).take (L r)).map fun n=>UInt8.ofNat n.toNat,some a',cap,by simp,by simpa using hl,hm,fun i hi=>?_⟩
   have hi':i<len:=by simpa using hi
   obtain⟨h1,h2,h3,h4,h5,h6,h7⟩:=hrows i (by omega)
   obtain⟨g,o,sp⟩:=a'
   have hsp:sp=none:=by
    simpa [Addr.add] using World.cell?_spot (hrows 0 (by omega)).1
   subst hsp
   rw[add_plain] at h1
   refine⟨g,o,_,rfl,h1,?_⟩
   have:=zfq (w:=w) h2 h3 h4 h5 h6 (fun a e c hc=>(h7 a e).2 c hc)
   simpa using this
end
theorem zfs:ownKnob Tryz.prog.godebug=none:=by kernel_rfl
theorem zft:laidOutB Tryz.prog=true:=by kernel_rfl
theorem zfu:Tryz.prog.cellsOf 5=1:=by kernel_rfl
theorem zfv:Tryz.prog.cellsOf 30=1:=by kernel_rfl
end
section
open Go.RowKit Go.H
set_option maxHeartbeats 1000000
set_option maxRecDepth 100000
theorem zfw {L:List Nat} {x:Nat}:x∈L↔((x:Int),(1:Int))∈ones L:=by
 unfold ones marks
 constructor
 · intro h;exact List.mem_map.2 ⟨x,by simpa using h,by simp⟩
 · intro h
   obtain⟨a,h,e⟩:=List.mem_map.1 h
   injection e with e
   have:a=x:=by omega
   rw[←this];simpa using h
def leftAt (w:World) (lm r:Nat):Nat:=match w.heap[lm]? with
 |some (.map es _)=>(leftOf es (w.iterSeen r)).size
 |_=>0
theorem zfx {w:World} {lm r:Nat} {es:Array MapEntry} {clock a c0:Nat} {q:Option Nat} {s:Array Nat} (h:w.heap[lm]?=some (.map es clock)) (hr:w.heap[r]?=some (.mapIter q a s c0)):leftAt w lm r=(leftOf es s).size:=by
 unfold leftAt World.iterSeen
 rw[h,hr]
theorem zfy {α β:Type} {f:α→β} {x y:α}:∀{l:List α},(l.map f).Nodup→x∈l→y∈l→f x=f y→x=y
 | a :: l, hn, hx, hy, h => by
   have hn2:f a∉l.map f∧(l.map f).Nodup:=List.nodup_cons.1 hn
   rcases List.mem_cons.1 hx with rfl|hx2<;>rcases List.mem_cons.1 hy with rfl|hy2
   · rfl
   · exact absurd (h▸List.mem_map_of_mem hy2) hn2.1
   · exact absurd (h▸List.mem_map_of_mem hx2) hn2.1
   · exact zfy hn2.2 hx2 hy2 h
theorem zfz {es:Array MapEntry} {cl:Nat} {L:List (Int×Value)} (h:Ent es cl L) {x y:MapEntry} (hx:x∈es.toList) (hy:y∈es.toList) (hk:x.key=y.key):x=y:=by
 have h1:es.toList.map (·.key)=(L.map Prod.fst).map (Value.int .i64):=by
  have:=congrArg (List.map Prod.fst) h.kv
  simp only[List.map_map] at this⊢
  exact this
 refine zfy (f:=(·.key)) ?_ hx hy hk
 rw[h1]
 have:=h.keys
 exact List.Pairwise.map _ (fun a b hab e=>hab (by injection e)) this
end
end Go.Proofs.YtcmicdcikechkaaGreat
namespace Go.H
open Go.RowKit
section
def Qp (s:List Nat) (Q:Exit→Act→World→Prop) (e:Exit) (a:Act) (w:World):Prop:=
 match e with
 |.panic c=>∀a':Act,(∀j∈s,a'.tmps[j]?=a.tmps[j]?)→a'.defers=a.defers→Q (.panic c) a' w
 |x=>Q x a w
end
end Go.H
namespace Go.Proofs.YtcmicdcikechkaaGreat
open Go.RowKit Go.H
set_option maxHeartbeats 2000000
set_option maxRecDepth 100000
section
def TSt.opened (D:DSt) (num dk:Nat) (o:Root) (live held:List Nat):TSt:={ S:=⟨D.blocks-2,ones held,D.life,num,rootId o,dk⟩,D:=D,now:=o,last:=o,gone:=[],live:=live,held:=held }
end
end Go.Proofs.YtcmicdcikechkaaGreat
namespace Go.H
section
theorem zg0 {k:List UInt8}:∀{l:List KV},getL k l=none→delL k l=l
 |[],_=>rfl
 | y :: l, h => by
   simp only[getL] at h
   simp only[delL]
   split at h
   · cases h
   · rename_i e
     rw[if_neg e,zg0 h]
theorem zg1 (k:List UInt8):∀l:List KV,(delL k l).Sublist l
 |[]=>List.Sublist.refl _
 | y :: l => by
   simp only[delL]
   split
   · exact List.sublist_cons_self _ _
   · exact(zg1 k l).cons_cons _
theorem zg2 {k:List UInt8} {l:List KV} (h:Sorted l):Sorted (delL k l):=h.sublist (zg1 k l)
theorem zg3 {k:List UInt8}:∀{l:List KV},getL k l≠none→(delL k l).length+1=l.length
 |[],h=>by simp[getL] at h
 | y :: l, h => by
   simp only[getL] at h
   simp only[delL]
   split at h
   · rename_i e;rw[if_pos e];rfl
   · rename_i e;rw[if_neg e];have:=zg3 h;simp;omega
theorem zg4 {k:List UInt8} {l:List KV} (hs:Sorted l) (h:getL k l≠none):(findL k l).1<l.length∧delL k l=l.take (findL k l).1++l.drop ((findL k l).1+1):=by
 obtain⟨A,B,rfl,h1,h2,⟨e,y,R,rfl,hy,hR⟩|⟨e,hB⟩⟩:=z8a k hs
 · rw[h1]
   refine⟨by simp,?_⟩
   rw[z6i h2,z6p hy]
   simp[List.take_append,List.drop_append]
 · rw[z6l h2,z6m hB] at h
   exact absurd rfl h
theorem zg5 {k:List UInt8} {l:List KV} {fs:List (List KV)} (h:fs.length=l.length+1) (hs:Sorted (inter l fs)) (hg:getL k (inter l fs)≠none) :
 ∃h1:(findL k l).1<fs.length,Sorted fs[(findL k l).1]∧
 if (findL k l).2 then(findL k l).1<l.length∧∀f x,f++[x]=fs[(findL k l).1]→inter (l.set (findL k l).1 x) (fs.set (findL k l).1 f)=delL k (inter l fs)
 else getL k fs[(findL k l).1]≠none∧∀f,f=delL k fs[(findL k l).1]→inter l (fs.set (findL k l).1 f)=delL k (inter l fs):=by
 obtain⟨A,B,f1,f,f2,rfl,rfl,hf1,hf2,h1,he,h2,hh⟩:=z89 k h hs
 have hget:(f1++f::f2)[A.length]?=some f:=by rw[←hf1];simp
 obtain⟨hlt,hge⟩:=List.getElem?_eq_some_iff.1 hget
 rcases hh with⟨e,y,R,f',f2',rfl,rfl,hy,hL,hR⟩|⟨e,hA,hB⟩
 all_goals
  rw[e]
  simp only[h1]
  refine⟨hlt,?_,?_⟩
 · rw[hge]
   rw[he] at hs
   exact(List.pairwise_append.1 (List.pairwise_append.1 hs).2.1).1
 · simp only[if_true]
   refine⟨by simp,fun g x hx=>?_⟩
   rw[hge] at hx
   have e1:(A++y::R).set A.length x=A++x::R:=by rw[List.set_append_right _ _ (Nat.le_refl _)];simp
   have e2:(f1++f::f'::f2').set A.length g=f1++g::f'::f2':=by rw[←hf1,List.set_append_right _ _ (Nat.le_refl _)];simp
   rw[he,e1,e2,show interT (y::R) (f'::f2')=y::(f'++interT R f2') from rfl,←List.append_assoc,z6i hL,z6p hy,z6u _ _ _ hf1,show interT (x::R) (f'::f2')=x::(f'++interT R f2') from rfl,←hx]
   simp
 · rw[hge]
   rw[he] at hs
   exact(List.pairwise_append.1 (List.pairwise_append.1 hs).2.1).1
 · simp only[Bool.false_eq_true,if_false]
   rw[hge]
   refine⟨?_,?_⟩
   · rw[he,z6l hA,z6n hB] at hg
     exact hg
   · rintro g rfl
     have e2:(f1++f::f2).set A.length (delL k f)=f1++delL k f::f2:=by rw[←hf1,List.set_append_right _ _ (Nat.le_refl _)];simp
     rw[he,e2,z6u _ _ _ hf1,z6i hA,z6k hB]
theorem zg6 {l:List KV} {fs:List (List KV)} {f:List KV} {x:KV} (h:fs.length=l.length+1) (hf:f++[x]=fs[l.length]'(by omega)):inter l (fs.set l.length f)++[x]=inter l fs:=by
 have hsp:fs=fs.take l.length++[fs[l.length]'(by omega)]:=by
  have:=List.take_append_getElem (l:=fs) (i:=l.length) (by omega)
  rw[this,List.take_of_length_le (by omega)]
 have hl:(fs.take l.length).length=l.length:=by rw[List.length_take];omega
 have e1:fs.set l.length f=fs.take l.length++[f]:=by
  have h1:(fs.take l.length++[fs[l.length]'(by omega)]).set l.length f=fs.take l.length++[f]:=by
   rw[List.set_append_right _ _ (by omega),hl];simp
  rw[←hsp] at h1;exact h1
 have a1:=z6u [] f [] (l1:=l) (f1:=fs.take l.length) hl
 have a2:=z6u [] (fs[l.length]'(by omega)) [] (l1:=l) (f1:=fs.take l.length) hl
 rw[←hsp] at a2
 simp only[List.append_nil,interT] at a1 a2
 rw[e1,a1,a2,←hf]
 simp
theorem zg7 {α:Type} {l:List α} {a:Nat} (h:a+1<l.length):l=l.take a++l[a]::l[a+1]::l.drop (a+2):=by
 rw[←List.drop_eq_getElem_cons,←List.drop_eq_getElem_cons,List.take_append_drop]
theorem zg8 {α:Type} {l:List α} {a:Nat} (h:a<l.length):l=l.take a++l[a]::l.drop (a+1):=by
 rw[←List.drop_eq_getElem_cons,List.take_append_drop]
theorem zg9 {l:List KV} {fs:List (List KV)} {a:Nat} (h:fs.length=l.length+1) (ha:a<l.length):inter l fs=interH (l.take a) (fs.take a)++((fs[a]'(by omega)++l[a]::fs[a+1]'(by omega))++interT (l.drop (a+1)) (fs.drop (a+2))):=by
 have h1:=zg7 (l:=fs) (a:=a) (by omega)
 have h2:=zg8 ha
 have h3:=z6u (l[a]::l.drop (a+1)) (fs[a]'(by omega)) (fs[a+1]'(by omega)::fs.drop (a+2)) (l1:=l.take a) (f1:=fs.take a) (by simp;omega)
 rw[←h1,←h2] at h3
 rw[h3]
 simp[interT]
theorem zga {l:List KV} {fs:List (List KV)} {a:Nat} {F:List KV} (h:fs.length=l.length+1) (ha:a<l.length) (hF:F=fs[a]'(by omega)++l[a]::fs[a+1]'(by omega)) :
 inter (l.take a++l.drop (a+1)) (fs.take a++F::fs.drop (a+2))=inter l fs:=by
 rw[zg9 h ha,z6u _ _ _ (by simp;omega),←hF]
theorem zgb {l:List KV} {fs:List (List KV)} {a:Nat} {A B:List KV} {y:KV} (h:fs.length=l.length+1) (ha:a<l.length) (hF:A++y::B=fs[a]'(by omega)++l[a]::fs[a+1]'(by omega)) :
 inter (l.set a y) ((fs.set a A).set (a+1) B)=inter l fs:=by
 have h1:((fs.set a A).set (a+1) B).length=(l.set a y).length+1:=by simp;omega
 rw[zg9 h1 (by simpa using ha),zg9 h ha]
 have e1:((fs.set a A).set (a+1) B)[a]'(by simp;omega)=A:=by simp[List.getElem_set]
 have e2:((fs.set a A).set (a+1) B)[a+1]'(by simp;omega)=B:=by simp[List.getElem_set]
 have e3:(l.set a y)[a]'(by simpa using ha)=y:=by simp
 have e4:((fs.set a A).set (a+1) B).take a=fs.take a:=by rw[List.take_set_of_le (by omega),List.take_set_of_le (Nat.le_refl _)]
 have e5:((fs.set a A).set (a+1) B).drop (a+2)=fs.drop (a+2):=by rw[List.drop_set_of_lt (by omega),List.drop_set_of_lt (by omega)]
 have e6:(l.set a y).take a=l.take a:=by rw[List.take_set_of_le (Nat.le_refl _)]
 have e7:(l.set a y).drop (a+1)=l.drop (a+1):=by rw[List.drop_set_of_lt (by omega)]
 rw[e1,e2,e3,e4,e5,e6,e7,hF]
theorem zgc {l:List KV} {fs:List (List KV)} {n:Nat} (h:fs.length=l.length+1) (hn:n<l.length):inter (l.take n) (fs.take (n+1))++l[n]::inter (l.drop (n+1)) (fs.drop (n+1))=inter l fs:=by
 rw[←z6v l[n] (l.drop (n+1)) (fs.drop (n+1)) (l1:=l.take n) (f1:=fs.take (n+1)) (by simp;omega) (by intro e;have:=congrArg List.length e;simp at this;omega)]
 rw[←List.drop_eq_getElem_cons,List.take_append_drop,List.take_append_drop]
end
end Go.H
