/- LocalFull returns true for every input, and leaves what came in as it was. No condition. -/
import Derived.Test.YtidalepbkljkpaaGreatLocalFull46
import Derived.Test.YtidalepbkljkpaaGreatLocalFull33
import Derived.Test.YtidalepbkljkpaaGreatLocalFull45
import Derived.Test.YtidalepbkljkpaaGreatLocalFull43
set_option linter.all false
namespace Go.Proofs.YtidalepbkljkpaaGreat
section
open Go.RowKit Go.H
set_option maxHeartbeats 2000000
set_option maxRecDepth 100000
def IntsAt (w:World) (v:Value) (l:List Int):Prop:=∃A c,v=.slice A l.length c∧l.length≤c∧c≤maxLen∧∀(i:Nat) (h:i<l.length),∃g o,A=some ⟨g,o,none⟩∧w.cell? ⟨g,o+i,none⟩=some (.int .i64 l[i])
theorem IntsAt.form {w:World} {v:Value} {l:List Int} (h:IntsAt w v l):∃A c,v=.slice A l.length c∧l.length≤c∧c≤maxLen:=by
 obtain⟨A,c,e,h1,h2,-⟩:=h
 exact⟨A,c,e,h1,h2⟩
theorem IntsAt.at_ {w:World} {A:Option Addr} {c:Nat} {l:List Int} (h:IntsAt w (.slice A l.length c) l) (i:Nat) (hi:i<l.length):∃g o,A=some ⟨g,o,none⟩∧w.cell? ⟨g,o+i,none⟩=some (.int .i64 l[i]):=by
 obtain⟨A',c',e,h1,h2,h3⟩:=h
 injection e with e1 e2 e3
 subst e1
 exact h3 i hi
theorem zj1 (x:KV):∀L:List KV,L.length≤(putL x L).length
 |[]=>by simp[putL]
 | y :: L => by
   have:=zj1 x L
   simp only[putL]
   split
   · simp
   · split
     · simp
     · simp only[List.length_cons];omega
theorem zj2 (x:KV) (La:List KV):(expL La).length≤(expL (putL x La)).length:=by
 have hp:∀a b:KV,a.1=b.1→inR [] [16] a=inR [] [16] b:=fun a b e=>by unfold inR;rw[e]
 have h:=zfj hp x La
 have hg:=zj1 x La
 unfold expL rangeL
 cases hx:inR [] [16] x with
 |true=>have:=h.1 hx;omega
 |false=>have:=h.2 hx;omega
theorem zj3 {F G:Nat→Prop} {w:World} {g s:Nat} {kv kv2 vv:Value} {k k2 v:Bs} (hb:w.heap[g]?=some (.cells #[.int .i64 (s:Int),kv,vv,.bool false,.int .i64 (s:Int),kv2,vv,.bool false] 57 (0,0))) (hF:F g) (hk:BytesAt F w kv k) (hk2:BytesAt F w kv2 k2) (hv:BytesAt G w vv v):ChgR F G w (.slice (some ⟨g,0,none⟩) 2 2) [⟨(s:Int),k,v,false⟩,⟨(s:Int),k2,v,false⟩]:=by
 refine⟨_,2,rfl,Nat.le_refl _,by unfold maxLen;omega,fun i hi=>?_⟩
 match i,hi with
 |0,_=>exact⟨g,0,kv,vv,rfl,hF,z2k hb 0 rfl,z2k hb 1 rfl,z2k hb 2 rfl,z2k hb 3 rfl,hk,hv⟩
 |1,_=>exact⟨g,0,kv2,vv,rfl,hF,z2k hb 4 rfl,z2k hb 5 rfl,z2k hb 6 rfl,z2k hb 7 rfl,hk2,hv⟩
theorem zj4 {s:Nat} {k k2 v:Bs} (hs:s<16) (hk:k.length=1) (hk2:k2.length=1) (hv:v.length≤1800):chkL [⟨(s:Int),k,v,false⟩,⟨(s:Int),k2,v,false⟩]=0:=by
 have h:∀q:Bs,q.length=1→rightL (s:Int) q v false=0:=fun q hq=>by
  unfold rightL
  rw[if_neg (by rintro(e|e|⟨e,-⟩);omega;omega;rw[e] at hq;simp at hq),if_neg (by omega)]
 simp only[chkL,h k hk,h k2 hk2]
 rfl
theorem zj5 {La:List KV} {s pos:Nat} {k k2 v:Bs}:(expL La).length≤(expL (appL La [⟨(s:Int),k,v,false⟩,⟨(s:Int),k2,v,false⟩] pos)).length∧(appL La [⟨(s:Int),k,v,false⟩,⟨(s:Int),k2,v,false⟩] pos).length≤La.length+3:=by
 have e:appL La [⟨(s:Int),k,v,false⟩,⟨(s:Int),k2,v,false⟩] pos=putL ([16],uintN pos) (putL (pk s k2,v) (putL (pk s k,v) La)):=rfl
 rw[e]
 have a1:=zj2 (pk s k,v) La
 have a2:=zj2 (pk s k2,v) (putL (pk s k,v) La)
 have a3:=zj2 ([16],uintN pos) (putL (pk s k2,v) (putL (pk s k,v) La))
 have b1:=zhx (pk s k,v) La
 have b2:=zhx (pk s k2,v) (putL (pk s k,v) La)
 have b3:=zhx ([16],uintN pos) (putL (pk s k2,v) (putL (pk s k,v) La))
 omega
theorem zj6 {w:World} {g n:Nat} {F:Nat→Prop} (hb:w.heap[g]?=some (.cells (zerosV n).toArray 5 (0,0))) (hF:F g) (hn:n≤100000):BytesAt F w (.slice (some ⟨g,0,none⟩) n n) (List.replicate n 0):=by
 have h0:(List.replicate n (0:UInt8)).map bv=zerosV n:=rfl
 refine z0i.2 ?_
 rw[h0,List.length_replicate]
 exact Row.ofBlock (n:=n) (size:=1) hb hF (by unfold maxLen;omega) (by simp[zerosV])
theorem zj7 {w:World} {v:Value} {l:List Int} {x:Int} (hl:IntsAt w v l) :
 Calls Tryz.prog 5 #[v,.int .i64 x] w fun e w'=>e=.returned (.bool true)∧Fr C0 w w':=by
 have HL:=zhd hl
 obtain⟨A,cp,rfl,hlc,hcm⟩:=hl.form
 unfold maxLen at hcm
 have HN:=zhd (z3g w 20 (by omega) (by omega))
 have hmask:bits .and .i64 x 15=x % 16:=zfu x 4 15 (by omega) rfl
 obtain⟨s,hs,hs16⟩:∃s:Nat,x % 16=(s:Int)∧s<16:=⟨(x % 16).toNat,by omega,by omega⟩
 rw[hs] at hmask
 clear hl hs
 go_enter Tryz.func5,Tryz.ntmps5
 go_wp2_with fail
 refine HN.out.mono ?_
 rintro e w1 ⟨rfl,f1,hs1,hd1⟩
 obtain⟨c1,hc1,hc2,hag,hcl⟩:=zit (c:=fun _=>0) (fun _ _=>rfl) f1 hs1
 have HO:=zhd (zis (n:=20) f1 hag (hd1.mono fun b hb _=>hb.elim) hc1 hc2 hcl (by omega) (by omega))
 clear HN f1 hs1 hd1 hc1 hc2 hag hcl
 go_wp2_with fail
 refine HO.out.mono ?_
 rintro e w2 ⟨sp,rfl,H2⟩
 obtain⟨-,c2,-,l2⟩:=H2.out
 have L2:=zhd l2
 clear H2 HO l2
 go_wp2_with fail
 go_loopw [9] (fun i wr=>∃k:Nat,k≤l.length∧k≤30∧i=.int .i64 (k:Int)∧Hid (∃La pos N c,LSt w 18 (w.heap.size+1) sp La pos N c wr∧pos≤k∧N≤k∧La.length≤3*k)) (fun i _=>l.length-(intOf i).toNat)
 case atStart=>exact⟨0,Nat.zero_le _,Nat.zero_le _,rfl,zhd ⟨[],0,0,c2,L2.out,Nat.le_refl _,Nat.le_refl _,Nat.le_refl _⟩⟩
 case round=>
  obtain⟨k,hk,hk30,rfl,HH⟩:=hrel
  go_upto_region 9 with fail
  go_cut [44] (fun b wx=>b=.bool (decide (k<l.length) && decide (k<30))∧wx=wr)
  case first=>
   by_cases hlt:k<l.length
   · by_cases hl30:k<30
     · have hl30i:(k:Int)<30:=by omega
       go_wp2_with fail
       go_meet
       case rel=>exact⟨by simp[hlt,hl30],rfl⟩
     · obtain rfl:k=30:=by omega
       go_wp2_with fail
       go_meet
       case rel=>exact⟨by simp,rfl⟩
   · obtain rfl:k=l.length:=by omega
     go_wp2_with fail
     go_meet
     case rel=>exact⟨by simp,rfl⟩
  case rest=>
   obtain⟨rfl,rfl⟩:=hcut
   obtain⟨La,pos,N,c,hst,hpk,hNk,hLk⟩:=HH.out
   have HST:=zhd hst
   by_cases hgo:k<l.length∧k<30
   · obtain⟨hlt,hl30⟩:=hgo
     have hb:(decide (k<l.length) && decide (k<30))=true:=by simp[hlt,hl30]
     rw[hb]
     clear hb
     obtain⟨g,o,rfl,a0⟩:=HL.out.at_ k hlt
     have HA0:=zhd (hst.fr.cell0 a0)
     generalize l[k]=y at *
     have HE1:=zhd (ziq hst (by omega))
     clear hst HH a0
     go_wp2_with fail
     refine HE1.out.mono ?_
     rintro e w3 ⟨A3,p3,rfl,H3⟩
     have S3:=zhd (HST.out.fr0 H3.out.1)
     have b0:=H3.out.1.cell0 HA0.out
     have hmy:bits .and .i64 y 1023=y % 1024:=zfu y 10 1023 (by omega) rfl
     obtain⟨n,hn,hn2⟩:∃n:Nat,y % 1024+700=(n:Int)∧n≤1723:=⟨(y % 1024+700).toNat,by omega,by omega⟩
     have hwn:IntKind.i64.wrap (y % 1024+700)=(n:Int):=by rw[hn,z0t _ (by omega) (by omega)]
     have hmk:=mkn n (by omega)
     go_wp2_with fail
     obtain⟨W4,hW4⟩:∃W4,W4=(w3.alloc (.cells (zerosV n).toArray 5)):=⟨_,rfl⟩
     have hs4:W4.heap.size=w3.heap.size+1:=by rw[hW4];simp
     have f4:Fr C0 w3 W4:=by rw[hW4];exact(Fr.refl C0 w3).alloc _
     have hb4:W4.heap[w3.heap.size]?=some (.cells (zerosV n).toArray 5 (0,0)):=by rw[hW4];exact heap_alloc_new w3 _
     rw[←hW4]
     obtain⟨W5,hW5⟩:∃W5,W5=W4.alloc (.cells #[.int .u8 ((k:Int)+1)] 5):=⟨_,rfl⟩
     have hs5:W5.heap.size=w3.heap.size+2:=by rw[hW5];simp;omega
     have f5:Fr C0 W4 W5:=by rw[hW5];exact(Fr.refl C0 W4).alloc _
     have hkb:(.int .u8 ((k:Int)+1):Value)=bv (UInt8.ofNat (k+1)):=by
      unfold bv
      rw[UInt8.toNat_ofNat_of_lt' (by show k+1<256;omega)]
      rfl
     have hb5:W5.heap[w3.heap.size+1]?=some (.cells #[bv (UInt8.ofNat (k+1))] 5 (0,0)):=by rw[hW5,←hkb,←hs4];exact heap_alloc_new W4 _
     rw[←hW5]
     obtain⟨W6,hW6⟩:∃W6,W6=W5.alloc (.cells #[.int .u8 200] 5):=⟨_,rfl⟩
     have hs6:W6.heap.size=w3.heap.size+3:=by rw[hW6];simp;omega
     have f6:Fr C0 W5 W6:=by rw[hW6];exact(Fr.refl C0 W5).alloc _
     have hb6:W6.heap[w3.heap.size+1+1]?=some (.cells #[.int .u8 200] 5 (0,0)):=by rw[hW6,show w3.heap.size+1+1=W5.heap.size by omega];exact heap_alloc_new W5 _
     rw[←hW6]
     obtain⟨W7,hW7⟩:∃W7,W7=W6.alloc (.cells #[.int .i64 (s:Int),.slice (some ⟨w3.heap.size+1,0,none⟩) 1 1,.slice (some ⟨w3.heap.size,0,none⟩) n n,.bool false,.int .i64 (s:Int),.slice (some ⟨w3.heap.size+1+1,0,none⟩) 1 1,.slice (some ⟨w3.heap.size,0,none⟩) n n,.bool false] 57):=⟨_,rfl⟩
     have hs7:W7.heap.size=w3.heap.size+4:=by rw[hW7];simp;omega
     have f7:Fr C0 W6 W7:=by rw[hW7];exact(Fr.refl C0 W6).alloc _
     have hb7:W7.heap[w3.heap.size+1+1+1]?=some (.cells #[.int .i64 (s:Int),.slice (some ⟨w3.heap.size+1,0,none⟩) 1 1,.slice (some ⟨w3.heap.size,0,none⟩) n n,.bool false,.int .i64 (s:Int),.slice (some ⟨w3.heap.size+1+1,0,none⟩) 1 1,.slice (some ⟨w3.heap.size,0,none⟩) n n,.bool false] 57 (0,0)):=by rw[hW7,show w3.heap.size+1+1+1=W6.heap.size by omega];exact heap_alloc_new W6 _
     rw[←hW7]
     have hcl3:=S3.out.cl
     have hown:∀b,c b=0→¬OwnL c b:=fun b h e=>by
      have e':c b=1∨c b=2∨c b=3∨c b=7:=e
      omega
     have z7:∀b,w3.heap.size≤b→b<W7.heap.size→b<W7.heap.size∧¬OwnL c b:=fun b h1 h2=>⟨h2,hown b (hcl3 b h1)⟩
     have S7:=zhd ((((S3.out.fr0 f4).fr0 f5).fr0 f6).fr0 f7)
     have BK:BytesAt (fun b=>b<W7.heap.size∧¬OwnL c b) W5 (.slice (some ⟨w3.heap.size+1,0,none⟩) 1 1) [UInt8.ofNat (k+1)]:=z0i.2 (Row.ofBlock (n:=1) (size:=1) hb5 (z7 _ (by omega) (by omega)) (by unfold maxLen;omega) rfl)
     have BK2:BytesAt (fun b=>b<W7.heap.size∧¬OwnL c b) W6 (.slice (some ⟨w3.heap.size+1+1,0,none⟩) 1 1) [200]:=z0i.2 (Row.ofBlock (n:=1) (size:=1) hb6 (z7 _ (by omega) (by omega)) (by unfold maxLen;omega) rfl)
     have BV:=zj6 (F:=fun b=>b<W7.heap.size∧c b=0) hb4 ⟨by omega,hcl3 _ (Nat.le_refl _)⟩ (by omega)
     have R7:=zhd (zj3 hb7 (z7 _ (by omega) (by omega)) ((BK.fr0 f6).fr0 f7) (BK2.fr0 f7) (((BV.fr0 f5).fr0 f6).fr0 f7))
     have hpw:w3.heap.size=w3.heap.size:=rfl
     have PW:=zhd ((ziw H3.out.2).mono (F':=fun b=>c b=0) (fun b hb _=>HST.out.cl b hb))
     have P7:=zhd ((((PW.out.fr0 f4).fr0 f5).fr0 f6).fr0 f7)
     have HAP:=zhd (zim (np:=(k:Int)+1) S7.out R7.out (by simp) (by omega) (by omega) (by omega))
     clear hW4 hW5 hW6 hW7 f4 f5 f6 f7 hb4 hb5 hb6 hb7 hkb z7 hown BK BK2 BV hcl3 hmk hs4 hs5 hs6 hs7 hpw PW S3 HE1 HA0 b0 hmy hwn
     refine HAP.out.mono ?_
     rintro e w8 ⟨err,rfl,H8⟩
     obtain⟨c8,f8,hh⟩:∃c8,Fr (OwnL c) W7 w8∧((err=21∧LSt w 18 (w.heap.size+1) sp La pos N c8 w8)∨(err=0∧LSt w 18 (w.heap.size+1) sp (appL La [⟨(s:Int),[UInt8.ofNat (k+1)],List.replicate n 0,false⟩,⟨(s:Int),[200],List.replicate n 0,false⟩] (k+1)) (k+1) (N+1) c8 w8)):=by
      rcases H8.out with⟨h,-⟩|⟨-,⟨h,-⟩|⟨-,c8,-,f8,⟨h1,h2,-⟩|⟨h1,h2⟩⟩⟩
      · omega
      · exact absurd (zj4 hs16 rfl rfl (by simp;omega)) h
      · exact⟨c8,f8,.inl ⟨h1,h2⟩⟩
      · refine⟨c8,f8,.inr ⟨h1,?_⟩⟩
        rw[show((k:Int)+1).toNat=k+1 by omega] at h2
        exact h2
     have P8:=zhd (P7.out.fr f8 (fun b hb e=>by
      have hb':c b=0:=hb
      have e':c b=1∨c b=2∨c b=3∨c b=7:=e
      omega))
     clear H8 f8 P7 R7 S7 HAP
     rcases hh with⟨rfl,h8⟩|⟨rfl,h8⟩
     · have S8:=zhd h8
       have HE2:=zhd (ziq h8 (by omega))
       clear h8
       go_wp2_with fail
       refine HE2.out.mono ?_
       rintro e w9 ⟨A9,p9,rfl,H9⟩
       have S9:=zhd (S8.out.fr0 H9.out.1)
       have HS9:=zhd (zii (a:=(expL La).map spK) (u:=.slice A3 (expL La).length p3) (v:=.slice A9 (expL La).length p9) (P8.out.fr0 H9.out.1) (ziw H9.out.2))
       clear HE2 H9
       go_wp2_with fail
       refine HS9.out.mono ?_
       rintro e w10 ⟨rfl,f10⟩
       have S10:=zhd (S9.out.fr0 f10)
       clear f10 HS9
       go_wp2_with fail
       go_roundw
       case rel=>exact⟨k+1,by omega,by omega,by go_num,zhd ⟨La,pos,N,c8,S10.out,by omega,by omega,by omega⟩⟩
       case measure=>simp[intOf];omega
     · have hgr:=zj5 (La:=La) (s:=s) (pos:=k+1) (k:=[UInt8.ofNat (k+1)]) (k2:=[200]) (v:=List.replicate n 0)
       generalize appL La [⟨(s:Int),[UInt8.ofNat (k+1)],List.replicate n 0,false⟩,⟨(s:Int),[200],List.replicate n 0,false⟩] (k+1)=Lb at *
       have S8:=zhd h8
       have HE2:=zhd (ziq h8 (by omega))
       have hnl:¬((expL Lb).length:Int)<((expL La).length:Int):=by omega
       clear h8
       go_wp2_with fail
       refine HE2.out.mono ?_
       rintro e w9 ⟨A9,p9,rfl,H9⟩
       have S9:=zhd (S8.out.fr0 H9.out.1)
       clear HE2 H9
       go_wp2_with fail
       go_roundw
       case rel=>exact⟨k+1,by omega,by omega,by go_num,zhd ⟨Lb,k+1,N+1,c8,S9.out,by omega,by omega,by omega⟩⟩
       case measure=>simp[intOf];omega
   · have hb:(decide (k<l.length) && decide (k<30))=false:=by simpa using hgo
     rw[hb]
     clear hb hgo hst
     go_wp2_with fail
     refine(zj0 wc).mono ?_
     rintro e w3 ⟨rfl,f3⟩
     have F3:=zhd (HST.out.fr.trans0 f3)
     clear f3
     go_wp2_with fail
     go_ret
     exact⟨rfl,F3.out⟩
end
section
open Go.RowKit Go.H Go.ChangeShapes Go.WideShapes Go.ChangeAt Go.Deep
set_option maxRecDepth 100000 in
theorem zj8 {H:Type} {enc:TypeId×Value→H} {w:World} {base:Nat} {v:Value} {d:DataW H} {ps:List MemPlace} (hv:Value.okWide Tryz.prog w .any base 47 v) (h:DataW.Trod enc Tryz.prog w 0 (fun _=>true) true 47 v d ps):∃l,IntsAt w v l:=by
 obtain⟨a,len,cap,rfl⟩:=okWide_slice Tryz.underlying47 hv
 obtain⟨fuel,hf⟩:=h
 rcases open_ints Tryz.underlying47 Tryz.underlying3 zhs hf with⟨hcs,-⟩|⟨a',len',cap',zs,hcs,hb,hl,hm,hz,hx,hcell,hwz⟩
 · simp[Value.cells] at hcs
   obtain⟨rfl,rfl,rfl⟩:=hcs
   exact⟨[],none,0,rfl,Nat.le_refl _,Nat.zero_le _,fun i h=>absurd h (by simp)⟩
 · simp[Value.cells] at hcs
   obtain⟨rfl,rfl,rfl⟩:=hcs
   simp only[if_true] at hz
   refine⟨zs.take len,some a',cap,by rw[List.length_take,Nat.min_eq_left (by omega)],by rw[List.length_take];omega,hm,fun i hi=>?_⟩
   rw[List.length_take] at hi
   obtain⟨g,o,sp⟩:=a'
   have hsp:sp=none:=by
    have:=hcell 0 (by omega)
    simpa [Addr.add] using World.cell?_spot this
   subst hsp
   have hci:=hcell i (by omega)
   rw[add_plain] at hci
   refine⟨g,o,rfl,?_⟩
   rw[hci,List.getElem_take]
   have e2:zs.getD i 0=zs[i]'(by omega):=by simp[List.getD,List.getElem?_eq_getElem (show i<zs.length by omega)]
   rw[e2]
set_option maxRecDepth 100000 in
theorem zj9 (os:Os) (started:os.Started) (H:Type) (enc:TypeId×Value→H) :
 ReturnsInHanded {} Tryz.checked os 5 .any (Rows.localFullSpec.pre6 enc Tryz.prog Tryz.f5 Rows.localFullRow.domain false) (Rows.localFullSpec.post enc Tryz.prog Tryz.f5 false true false false):=by
 refine returnsInHanded_of_change (C:=Tryz.checked) zev started (by kernel_rfl) Tryz.func5
  (ChangeSpec.witness6 (enc:=enc) (C:=Tryz.checked) false ⟨#[],#[.slice none 0 0,.int .i64 0],[]⟩ 8 (by kernel_rfl) (by kernel_rfl) (by kernel_rfl) (by kernel_rfl)) ?_
 intro W base args ds gs before hval0 hW hcnd _
 have hval:∀(j:Nat) t v,(Tryz.f5).params[j]?=some t→args[j]?=some v→Value.okWide Tryz.prog W .any base t v:=hval0
 have hW':=hW
 obtain⟨p,q,hA0,hV,rfl,hfz,hnd⟩:=hW
 have hA:DataW.TrodAll enc Tryz.prog W 0 (fun _=>true) true (Tryz.f5).params.toList args.toList ds p:=hA0
 rw[Tryz.params5] at hA hval
 obtain⟨v0,vs0,d0,ds0,p0,q0,hargs,rfl,rfl,h0,r0⟩:=trodAll_cons hA
 obtain⟨v1,vs1,d1,ds1,p1,q1,rfl,rfl,rfl,h1,r1⟩:=trodAll_cons r0
 obtain⟨rfl,rfl,rfl⟩:=trodAll_nil r1
 obtain rfl:args=#[v0,v1]:=by cases args;simp_all
 obtain⟨rfl,rfl⟩:=trodVars_none hV
 obtain⟨l,hk⟩:=zj8 (hval 0 47 v0 rfl rfl) h0
 obtain⟨m,rfl,rfl,rfl,wm⟩:=open_int Tryz.underlying3 (hval 1 3 v1 rfl rfl) h1
 refine(zj7 hk).mono fun e W' ⟨he,hf⟩=>?_
 subst he
 exact⟨_,rfl,z01 zew (by decide +kernel) rfl rfl Tryz.underlying4 hW' rfl hf⟩
theorem zja:Rows.localFullRow.holds Tryz.pinned (OpenSpec.ofChange Rows.localFullSpec):=
 OpenClaim.holds_of_wide 5 Tryz.f5 rfl rfl rfl rfl rfl rfl rfl ⟨rfl,rfl,rfl,rfl,rfl⟩ rfl rfl rfl rfl rfl (by kernel_rfl) Tryz.func5 (by kernel_rfl)
  (of_decide_eq_true (by kernel_rfl)) (by unfold Func.isWrapper;first|(rw[if_pos (by decide +kernel)];kernel_rfl)|(rw[if_neg (by decide +kernel)];exact⟨rfl,rfl⟩))
  (fun os started H enc _=>zj9 os started H enc)
theorem local_full:Rows.LocalFullSaid:=zja
end
end Go.Proofs.YtidalepbkljkpaaGreat
