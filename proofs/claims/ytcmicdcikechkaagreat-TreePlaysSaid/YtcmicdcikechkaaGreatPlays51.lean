import Derived.Test.YtcmicdcikechkaaGreatPlays48
import Derived.Test.YtcmicdcikechkaaGreatPlays50
import Derived.Test.YtcmicdcikechkaaGreatPlays36
import Derived.Test.YtcmicdcikechkaaGreatPlays47
import Derived.Test.YtcmicdcikechkaaGreatPlays46
import Derived.Test.YtcmicdcikechkaaGreatPlays16
set_option linter.all false
set_option autoImplicit true
set_option relaxedAutoImplicit true
namespace Go.Proofs.YtcmicdcikechkaaGreat
open Go.RowKit Go.H
set_option maxRecDepth 100000
section
set_option maxHeartbeats 1000000
theorem zjq (h:SnapOk live kept s) (hs:RootSh s.root):s.pages.length≤(rootL s.root).length:=by
 have hb:∀x∈s.pages,0<rcnt (.pg x) s.root:=fun x hx=>by
  rw[h.cnt x,if_pos hx];omega
 cases hz:s.root with
 | none =>
   rw[hz] at hb
   cases hh:s.pages with
   |nil=>simp
   |cons x l=>exact absurd (hb x (by rw[hh];simp)) (by simp[rcnt])
 | some p =>
   obtain⟨d,t⟩:=p
   rw[hz] at hb hs
   exact Nat.le_trans (z97 h.nd fun x hx=>List.count_pos_iff.1 (by rw[zf4];exact hb x hx)) (zf5 (Nat.le_refl _) hs)
theorem zjr (h:Books Z) (hs:RootSh Z.last):Z.live.length≤(rootL Z.last).length:=by
 have hb:∀x∈Z.live,0<rcnt (.pg x) Z.last:=fun x hx=>by
  rw[h.b2 x,if_pos hx];omega
 cases hz:Z.last with
 | none =>
   rw[hz] at hb
   cases hh:Z.live with
   |nil=>simp
   |cons x l=>exact absurd (hb x (by rw[hh];simp)) (by simp[rcnt])
 | some p =>
   obtain⟨d,t⟩:=p
   rw[hz] at hb hs
   exact Nat.le_trans (z97 h.ln fun x hx=>List.count_pos_iff.1 (by rw[zf4];exact hb x hx)) (zf5 (Nat.le_refl _) hs)
theorem zjs {B:Nat}:∀{l:List SnapS},(∀s∈l,s.pages.length≤B)→((l.map SnapS.pages).flatten).length≤l.length*B
 |[],_=>by simp
 | s :: l, h => by
   have h1:=h s (by simp)
   have h2:=zjs (l:=l) (fun a ha=>h a (List.mem_cons_of_mem _ ha))
   simp only[List.map_cons,List.flatten_cons,List.length_append,List.length_cons,Nat.add_mul,Nat.one_mul]
   omega
theorem zjt {B:Nat} (h:Books Z) (hb:Z.back=[]) (hs:RootSh Z.last) (hr:∀s∈Z.snaps,RootSh s.root) (h1:(rootL Z.last).length≤B) (h2:∀s∈Z.snaps,(rootL s.root).length≤B) (h4:Z.snaps.length≤4):Z.held.length≤5*B:=by
 have hl:=z97 (a:=Z.held) (b:=Z.live++(Z.snaps.map SnapS.pages).flatten) h.hn fun x hx=>by
  rcases(h.hl x).1 hx with h3|h3|h3
  · exact List.mem_append_left _ h3
  · obtain⟨s,h5,h6⟩:=h.kp.kw x h3
    exact List.mem_append_right _ (List.mem_flatten.2 ⟨s.pages,List.mem_map_of_mem h5,h6⟩)
  · rw[hb] at h3;simp at h3
 rw[List.length_append] at hl
 have h5:=zjr h hs
 have h6:=zjs (l:=Z.snaps) (B:=B) fun s hm=>Nat.le_trans (zjq (h.kp.ok s hm) (hr s hm)) (h2 s hm)
 have h7:Z.snaps.length*B≤4*B:=Nat.mul_le_mul_right _ h4
 omega
theorem TreeAt.shs {r rn rm:Nat} {tp:Nat} {k:Nat} (h:TreeAt c r rn rm w tp Z k):(∀s∈Z.snaps,RootSh s.root)∧Z.snaps.length=k:=by
 obtain⟨st,lm,km,nr,lr,gv,ov,sn,h⟩:=h
 exact⟨fun s hs=>(h.sns.2.2 s hs).sh,h.sns.1⟩
structure FitsS (pn d N k:Nat) (Z:TSt):Prop where
 num:Z.S.num=N
 now:(rootL Z.now).length≤k
 last:(rootL Z.last).length≤k
 pages:Z.S.pages=pn
 dk:Z.S.dk=d
 nk:N≤k
 af:Z.D.after<1
 held:Z.held.length≤5*k
 sk:∀s∈Z.snaps,(rootL s.root).length≤k
def snL (l:List SnapS):List (Nat×List KV):=l.map fun s=>(s.sp,rootL s.root)
structure SAt (w0:World) (pn d tp:Nat) (La Ll:List KV) (N k:Nat) (SL:List (Nat×List KV)) (c:Nat→Nat) (w:World):Prop where
 ex:∃Z,Stg (fun _=>0) w0 1 2 3 c w tp Z SL.length∧rootL Z.now=La∧rootL Z.last=Ll∧snL Z.snaps=SL∧FitsS pn d N k Z
variable {w0 w w' : World} {pn d tp N k : Nat} {La Ll : List KV} {c c' : Nat → Nat} {SL : List (Nat × List KV)}
theorem FitsS.le {k':Nat} (i:FitsS pn d N k Z) (hk:k≤k'):FitsS pn d N k' Z:=
 ⟨i.num,Nat.le_trans i.now hk,Nat.le_trans i.last hk,i.pages,i.dk,Nat.le_trans i.nk hk,i.af,Nat.le_trans i.held (Nat.mul_le_mul_left _ hk),fun s hs=>Nat.le_trans (i.sk s hs) hk⟩
theorem SAt.le {k':Nat} (h:SAt w0 pn d tp La Ll N k SL c w) (hk:k≤k'):SAt w0 pn d tp La Ll N k' SL c w:=by
 obtain⟨Z,a,b,e,g,i⟩:=h
 exact⟨Z,a,b,e,g,i.le hk⟩
theorem SAt.fr0 (h:SAt w0 pn d tp La Ll N k SL c w) (hf:Fr C0 w w'):SAt w0 pn d tp La Ll N k SL c w':=by
 obtain⟨Z,a,b,e,g,i⟩:=h
 exact⟨Z,a.fr0 hf,b,e,g,i⟩
theorem SAt.fr (h:SAt w0 pn d tp La Ll N k SL c w):Fr C0 w0 w:=by
 obtain⟨Z,a,_⟩:=h
 exact a.fr
theorem SAt.ag (h:SAt w0 pn d tp La Ll N k SL c w):Ag w0.heap.size (fun _=>0) c:=by
 obtain⟨Z,a,_⟩:=h
 exact a.ag
theorem SAt.cl (h:SAt w0 pn d tp La Ll N k SL c w):Cl w c:=by
 obtain⟨Z,a,_⟩:=h
 exact a.tr.cl
theorem SAt.sorted (h:SAt w0 pn d tp La Ll N k SL c w):Sorted La:=by
 obtain⟨Z,a,b,_⟩:=h
 rw[←b];exact a.tr.bk.sn
theorem SAt.len (h:SAt w0 pn d tp La Ll N k SL c w):La.length≤k:=by
 obtain⟨Z,a,b,e,g,i⟩:=h
 rw[←b];exact i.now
theorem SAt.snk (h:SAt w0 pn d tp La Ll N k SL c w):∀p∈SL,p.2.length≤k:=by
 obtain⟨Z,a,b,e,rfl,i⟩:=h
 intro p hp
 obtain⟨s,h1,rfl⟩:=List.mem_map.1 hp
 exact i.sk s h1
theorem SAt.came (h:SAt w0 pn d tp La Ll N k SL c w) (hv:BytesAt F w0 v l):BytesAt (Dt c) w v l:=zfp (hv.mono fun _ _ _=>trivial) (fun _=>rfl) h.fr h.ag
theorem At1.toS (h:At1 w0 pn 1 d tp La Ll N k c w):SAt w0 pn d tp La Ll N k [] c w:=by
 obtain⟨Z,a,b,e,i⟩:=h
 have h1:=zfa a.tr i.bk
 have h2:=a.tr.nosnaps
 rw[a.tr.bk.st,z96] at h1
 have h3:=i.last
 exact⟨Z,a,b,e,by rw[h2];rfl,⟨i.num,i.now,i.last,i.pages,i.dk,i.nk,i.af,by omega,fun s hs=>by rw[h2] at hs;simp at hs⟩⟩
theorem zju (h:Books Z) (i:FitsS pn d N k Z):Z.S.state.length≤5*k:=by
 rw[h.st,z96];exact i.held
theorem zjv (h:SAt w0 pn d tp La Ll N k SL c w) (hk:BytesAt (Dt c) w kv x.1) (hv:BytesAt (Dt c) w vv x.2) (hw:wrong x.1 x.2=0) (hr:6*k<pn) (hk4:k≤80000):
 Calls Tryz.prog 10 #[.pointer (some ⟨tp,0,none⟩),kv,vv] w fun e w'=>e=.returned (.int .i64 0)∧Hid (∃c',SAt w0 pn d tp (putL x La) Ll N (k+1) SL c' w'∧StepA 1 c w c' w'):=by
 obtain⟨Z,a,rfl,rfl,g,i⟩:=h
 have h1:=zju a.tr.bk i
 have h2:=i.now
 have h4:=i.pages
 refine(zfk (x:=x) ziv a.tr hk hv hw (by omega) (by omega)).mono ?_
 rintro e' w' ⟨rfl,f,c',o',g',ag,t,e1⟩
 have i':=i.le (show k≤k+1 by omega)
 exact⟨rfl,zhd ⟨c',⟨_,a.next no123' f ag t,e1,rfl,g,⟨i'.num,by show(rootL o').length≤_;rw[e1,zbs a.tr.bk.sn];split<;>omega,i'.last,i'.pages,i'.dk,i'.nk,i'.af,i'.held,i'.sk⟩⟩,⟨f,ag⟩⟩⟩
theorem zjw (h:SAt w0 pn d tp La Ll N k SL c w) (hk:BytesAt (Dt c) w kv x) (hv:BytesAt (Dt c) w vv v) (hr:6*k<pn) (hk4:k≤80000):
 Calls Tryz.prog 10 #[.pointer (some ⟨tp,0,none⟩),kv,vv] w fun e w'=>e=.returned (.int .i64 (wrong x v))∧Hid (∃c',SAt w0 pn d tp (putW x v La) Ll N (k+1) SL c' w'∧StepA 1 c w c' w'):=by
 by_cases hw:wrong x v=0
 · refine(zjv (x:=(x,v)) h hk hv hw hr hk4).mono ?_
   rintro e w' ⟨rfl,H⟩
   refine⟨by rw[hw];rfl,zhd ?_⟩
   unfold putW
   rw[if_pos hw]
   exact H.out
 · have h9:=h
   obtain⟨Z,a,rfl,rfl,g,i⟩:=h
   refine(zff a.tr hk hv hw).mono ?_
   rintro e w' ⟨rfl,f⟩
   refine⟨rfl,zhd ⟨c,?_,⟨f.mono (fun _ _ e=>e.elim),fun _ _=>rfl⟩⟩⟩
   unfold putW
   rw[if_neg hw]
   exact(h9.fr0 f).le (by omega)
theorem zjx (h:SAt w0 pn d tp La Ll N k SL c w) (hk:BytesAt (Dt c) w kv x) (hr:6*k≤pn) (hk4:k≤80000):
 Calls Tryz.prog 12 #[.pointer (some ⟨tp,0,none⟩),kv] w fun e w'=>e=.returned (.tuple #[.bool ((getL x La).isSome && decide (wrong x []=0)),.int .i64 (wrong x [])])∧Hid (∃c',SAt w0 pn d tp (delW x La) Ll N k SL c' w'∧StepA 1 c w c' w'):=by
 have h9:=h
 obtain⟨Z,a,rfl,rfl,g,i⟩:=h
 by_cases hw:wrong x []=0
 · have h1:=zju a.tr.bk i
   have h2:=i.now
   have h3:=i.last
   have h4:=i.pages
   have h6:=(zge x (rootL Z.now)).length_le
   refine(zie ziv a.tr hk hw).mono ?_
   unfold delW
   rw[if_pos hw]
   rintro e' w' (⟨hg,rfl,f⟩|⟨hg,⟨rfl,f,o',e1,e2,e3,e4⟩|⟨rfl,f,c',o',g',ag,t,e1⟩⟩)
   · refine⟨by rw[hg,hw];rfl,zhd ⟨c,?_,⟨f.mono (fun _ _ e=>e.elim),fun _ _=>rfl⟩⟩⟩
     rw[zgd hg]
     exact h9.fr0 f
   · have h5:=zc2 e2
     rw[e1] at h5
     omega
   · refine⟨by cases hh:getL x (rootL Z.now) with|none=>exact absurd hh hg|some _=>simp[hw],zhd ?_⟩
     have f':Fr (OwnR 1 c) w w':=f.mono (fun _ _ e=>.inl e)
     exact⟨c',⟨_,a.next no123' f' ag t,e1,rfl,g,⟨i.num,by show(rootL o').length≤_;rw[e1];omega,i.last,i.pages,i.dk,i.nk,i.af,i.held,i.sk⟩⟩,⟨f',ag⟩⟩
 · obtain⟨st,lm,km,nr,lr,gv,ov,sn,t⟩:=a.tr
   refine(zib t.hd hk hw).mono ?_
   rintro e w' ⟨rfl,f⟩
   refine⟨by simp[hw],zhd ⟨c,?_,⟨f.mono (fun _ _ e=>e.elim),fun _ _=>rfl⟩⟩⟩
   unfold delW
   rw[if_neg hw]
   exact h9.fr0 f
theorem zjy (h:SAt w0 pn d tp La Ll N k SL c w) (h4:SL.length≤4) (hk4:k≤80000) :
 Calls Tryz.prog 11 #[.pointer (some ⟨tp,0,none⟩)] w fun e w'=>e=.returned (.int .i64 0)∧Hid (∃c',SAt w0 pn d tp La La (N+1) (k+1) SL c' w'∧StepA 1 c w c' w'):=by
 obtain⟨Z,a,rfl,rfl,g,i⟩:=h
 refine(zf2 ziv a.tr (by have:=i.num;have:=i.nk;omega) i.af).mono ?_
 rintro e' w' ⟨rfl,f,c',Z1,ag,t,e0,e1,e2,e3,-,e5,e6,e7,e8,e9⟩
 have i':=i.le (show k≤k+1 by omega)
 have st:=a.next no123' f ag t
 have h1:(rootL Z1.last).length≤k+1:=by rw[e2,e1];exact i'.now
 have h2:∀s∈Z1.snaps,(rootL s.root).length≤k+1:=by rw[e0.2];exact i'.sk
 have hnk:=i.nk
 have hs:=t.shs
 exact⟨rfl,zhd ⟨c',⟨Z1,st,e1,by rw[e2,e1],by rw[e0.2];exact g,⟨by have:=i.num;omega,by rw[e1];exact i'.now,h1,by rw[e5];exact i.pages,by rw[e8];exact i.dk,by omega,e9,zjt t.bk e0.1 t.shl hs.1 h1 h2 (by rw[hs.2];exact h4),h2⟩⟩,⟨f,ag⟩⟩⟩
theorem zjz (h:SAt w0 pn d tp La Ll N k SL c w) :
 Calls Tryz.prog 34 #[.pointer (some ⟨tp,0,none⟩)] w fun e w'=>e=.returned (.int .i64 0)∧Hid (SAt w0 pn d tp Ll Ll N k SL c w'∧StepA 1 c w c w'):=by
 obtain⟨Z,a,rfl,rfl,g,i⟩:=h
 refine(zf3 ziv a.tr).mono ?_
 rintro e' w' ⟨rfl,f,t⟩
 have f':Fr (OwnR 1 c) w w':=f.mono (fun _ _ e=>.inl e)
 exact⟨rfl,zhd ⟨⟨_,a.next no123' f' (Ag.refl _ _) t,rfl,rfl,g,⟨i.num,i.last,i.last,i.pages,i.dk,i.nk,i.af,i.held,i.sk⟩⟩,⟨f',Ag.refl _ _⟩⟩⟩
theorem zk0 (h:SAt w0 pn d tp La Ll N k SL c w) (h3:SL.length≤3) :
 Calls Tryz.prog 29 #[.pointer (some ⟨tp,0,none⟩)] w fun e w'=>∃sp,e=.returned (.tuple #[.pointer (some ⟨sp,0,none⟩),.int .i64 0])∧Hid (∃c',SAt w0 pn d tp La Ll N k (SL++[(sp,Ll)]) c' w'∧StepA 1 c w c' w'):=by
 obtain⟨Z,a,rfl,rfl,g,i⟩:=h
 refine(zf7 ziv a.tr h3).mono ?_
 rintro e' w' ⟨sp,rfl,f,pm,c',ag,t⟩
 have f':Fr (OwnR 1 c) w w':=f.mono (fun _ _ e=>e.elim .inl (fun e=>.inr (.inr e)))
 have st:=a.next no123' f' ag t
 refine⟨sp,rfl,zhd ⟨c',⟨Z.snapped sp pm,by rw[List.length_append];exact st,rfl,rfl,?_,⟨i.num,i.now,i.last,i.pages,i.dk,i.nk,i.af,i.held,fun s hs=>?_⟩⟩,⟨f',ag⟩⟩⟩
 · show snL (Z.snaps++[_])=_
   unfold snL at g⊢
   rw[List.map_append,g]
   rfl
 · rcases List.mem_append.1 hs with hs|hs
   · exact i.sk s hs
   · rw[List.mem_singleton] at hs
     subst hs
     exact i.last
theorem zk1 (h:SAt w0 pn d tp La Ll N k SL c w):Calls Tryz.prog 15 #[.pointer (some ⟨tp,0,none⟩)] w fun e w'=>e=.returned (.int .i64 (La.length:Int))∧w=w':=by
 obtain⟨Z,a,rfl,rfl,g,i⟩:=h
 exact zfd a.tr
theorem zk2 (h:SAt w0 pn d tp La Ll N k SL c w):Calls Tryz.prog 20 #[.pointer (some ⟨tp,0,none⟩)] w fun e w'=>e=.returned (.int .i64 (N:Int))∧w=w':=by
 obtain⟨Z,a,rfl,rfl,g,i⟩:=h
 rw[←i.num]
 exact zfe a.tr
theorem zk3 (h:SAt w0 pn d tp La Ll N k SL c w):Calls Tryz.prog 18 #[.pointer (some ⟨tp,0,none⟩)] w fun e w'=>e=.returned (.int .i64 0)∧Fr C0 w w':=by
 obtain⟨Z,a,rfl,rfl,g,i⟩:=h
 exact zem ziv a.tr
theorem zk4 {sp:Nat} (h:SAt w0 pn d tp La Ll N k SL c w) (hm:(sp,L)∈SL) (hk3:k≤900):
 Calls Tryz.prog 30 #[.pointer (some ⟨sp,0,none⟩),.slice none 0 0,.slice none 0 0,.int .i64 999] w fun e w'=>∃A cp,e=.returned (.tuple #[.slice A L.length cp,.int .i64 0])∧Hid (Fr C0 w w'∧SAt w0 pn d tp La Ll N k SL c w'∧PairsAt (Dt c) w' (.slice A L.length cp) L):=by
 have h9:=h
 obtain⟨Z,a,rfl,rfl,rfl,i⟩:=h
 obtain⟨s,hs,e⟩:=List.mem_map.1 hm
 injection e with e1 e2
 subst e1 e2
 obtain⟨q,hq1,hq2,hq3⟩:=zfq a.tr.cl [1,2,3]
 refine(zf8 (n:=999) hs hq2 (hq3 1 (by simp)) (hq3 2 (by simp)) hq1 (by omega) a.tr zfr zfr (by simp) (by simp)).mono ?_
 rintro e' w' ⟨f,v',c',rfl,ag,cl,o⟩
 have hl:(rangeL [] [] (rootL s.root)).take 999=rootL s.root:=by
  have:=i.sk s hs
  rw[ziq,List.take_of_length_le (by omega)]
 rw[hl] at o
 obtain⟨A,cp,rfl,-⟩:=o.form
 exact⟨A,cp,rfl,zhd ⟨f,h9.fr0 f,OutAt.pairs o (fun b hb _=>a.tr.cl b hb)⟩⟩
theorem zk5 {sp:Nat} (h:SAt w0 pn d tp La Ll N k SL c w) (hm:(sp,L)∈SL):
 Calls Tryz.prog 31 #[.pointer (some ⟨sp,0,none⟩)] w fun e w'=>e=.returned (.tuple #[])∧Hid (∃c',SAt w0 pn d tp La Ll N k (SL.filter fun p=>decide (p.1≠sp)) c' w'∧StepA 1 c w c' w'∧∃x y,w'.heap[sp]?=some (.cells #[.pointer (some ⟨tp,0,none⟩),x,y,.bool true] 130 (0,0))∧c' sp=3):=by
 obtain⟨Z,a,rfl,rfl,rfl,i⟩:=h
 obtain⟨s,hs,e⟩:=List.mem_map.1 hm
 injection e with e1 e2
 subst e1 e2
 obtain⟨st,lm,km,nr,lr,gv,ov,sn,t⟩:=a.tr
 obtain⟨u,hu⟩:=All2.memL t.sns.2.1 hs
 refine(zjp ziv t hs).mono ?_
 rintro e' w' ⟨rfl,H⟩
 obtain⟨f,c',ov',back,kept,sn',ag,t',hc⟩:=H.out
 have f':Fr (OwnR 1 c) w w':=f.mono (fun _ _ e=>e.elim .inl (fun e=>.inr (.inr e)))
 have hlen:((snL Z.snaps).filter fun p=>decide (p.1≠s.sp))=snL (Z.snaps.filter fun x=>decide (x.sp≠s.sp)):=by
  unfold snL
  rw[List.filter_map]
  rfl
 have st':=a.next no123' f' ag ⟨st,lm,km,nr,lr,gv,ov',sn',t'⟩
 refine⟨rfl,zhd ⟨c',⟨Z.closed s back kept,?_,rfl,rfl,hlen.symm,⟨i.num,i.now,i.last,i.pages,i.dk,i.nk,i.af,i.held,fun x hx=>i.sk x (List.mem_filter.1 hx).1⟩⟩,⟨f',ag⟩,_,_,hc,(ag _ (Array.getElem?_eq_some_iff.1 hu.blk).1).trans hu.own⟩⟩
 rw[hlen]
 unfold snL
 rw[List.length_map]
 exact st'
end
section
set_option maxHeartbeats 2000000
theorem zk6 {r rn sp pm st tp:Nat} (hh:Hd c r w tp st S D) (hc:Cl w c) (hs:w.heap[sp]?=some (.cells #[.pointer (some ⟨tp,0,none⟩),rv,.map (some pm),.bool false] 130 (0,0))) (hr:RootAt c rn w (pgs D) D.blocks False o rv) (hso:Sorted (rootL o)) (hk:BytesAt (Dt c) w kv key) (hw:wrong key []=0):
 Calls Tryz.prog 68 #[.pointer (some ⟨sp,0,none⟩),kv] w fun e w'=>GetP w w' False e (getL key (rootL o)):=by
 have HD:=zhd (fun (w_:World) (hf:Fr C0 w w_)=>zal (hh.fr0 hf) ((hf.blk hs (fun h=>h))))
 have HM:=zhd (fun (w_:World) (hf:Fr C0 w w_)=>za7 (G:=fun _=>True) (vv:=.slice none 0 0) (v:=[]) (hh.fr0 hf) (hk.fr0 hf) ⟨none,0,rfl,Nat.le_refl _,by unfold maxLen;omega,fun h=>absurd rfl h⟩)
 rw[hw] at HM
 have HG:=zhd (fun (w_:World) (hf:Fr C0 w w_)=>zai (hh.fr0 hf) (hc.mono hf.size) (hr.fr0 hf) hso (hk.fr0 hf))
 obtain⟨A,cc,rfl,-⟩:=hk.form
 have F0:=zhd ((Fr.refl C0 w).alloc (.cells #[.int .i64 0] 28))
 have c0:=F0.out.cell0 (z2g hs 0 rfl)
 have c1:=F0.out.cell0 (z2g hs 1 rfl)
 have hbe:=heap_alloc_new w (.cells #[.int .i64 0] 28)
 have HBE:=zhd hbe
 have hs0:(w.alloc (.cells #[.int .i64 0] 28)).heap.size=w.heap.size+1:=by simp
 have HS0:=zhd hs0
 have hri:Hid ((∃tx y,rv=.iface tx y)∨rv=.nilIface):=zhd (by
  cases o with
  |none=>exact .inr hr
  |some p=>exact .inl hr.1.iface)
 clear hh hc hs hr hso hk hw hbe hs0
 rcases hri.out with⟨tx,y,rfl⟩|rfl
 · go_enter_defers Tryz.func68,Tryz.ntmps68
   go_wp2_with fail
   refine(HD.out _ F0.out).mono ?_
   rintro e w1 ⟨rfl,rfl⟩
   go_wp2_with fail
   refine(HM.out _ F0.out.drew).mono ?_
   rintro e w1 ⟨rfl,rfl⟩
   go_wp2_with fail
   have HG2:=zhd (HG.out _ F0.out.drew.drew.drew)
   clear HD HM HG
   refine zg8 [4,5] ?_
   refine z1r (Fr C0 (w.alloc (.cells #[.int .i64 0] 28))) [14] (by kernel_rfl) ?_
   have hSw0:(Fr C0 (w.alloc (.cells #[.int .i64 0] 28))) _:=(Fr.refl C0 _).drew.drew.drew
   refine tk 0 hSw0 ?_ (hQ:=zg7 rfl)
   refine tk 1 hSw0 ?_ (hQ:=zg7 rfl)
   refine tk 2 hSw0 ?_ (hQ:=zg7 rfl)
   refine tk 3 hSw0 ?_ (hy:=by intro w_ hS_;have b0:=hS_.cell0 c0;have b1:=hS_.cell0 c1;first|(go_simp;done)|(go_simp;with_reducible rfl)) (hQ:=zg7 rfl)
   refine tk 4 hSw0 ?_ (hQ:=zg7 rfl)
   refine tk 5 hSw0 ?_ (hQ:=zg7 rfl)
   refine tk 6 hSw0 ?_ (hQ:=zg7 rfl)
   refine tk 7 hSw0 ?_ (hy:=by intro w_ hS_;have b0:=hS_.cell0 c0;have b1:=hS_.cell0 c1;first|(go_simp;done)|(go_simp;with_reducible rfl)) (hQ:=zg7 rfl)
   refine tk 8 hSw0 ?_ (hQ:=zg7 rfl)
   refine one_ 9 rfl (fun K hK=>?_)
   go_simp
   refine HG2.out.mono ?_
   rintro e w2 ⟨f2,h2⟩
   have F2:=zhd (F0.out.drew.drew.drew.trans0 f2)
   have f20:=(Fr.refl C0 (w.alloc (.cells #[.int .i64 0] 28))).drew.drew.drew.trans0 f2
   have hbe:w2.heap[w.heap.size]?=some (.cells #[.int .i64 0] 28 (0,0)):=f20.blk HBE.out (fun h=>h)
   have HR:=zhd h2
   have hsh:∃A m cp ok,e=.returned (.tuple #[.slice A m cp,.bool ok]):=by
    rcases h2 with⟨hX,_⟩|h2
    · exact hX.elim
    · cases hg:getL key (rootL o) with
      |none=>rw[hg] at h2;exact⟨_,_,_,_,h2⟩
      | some b =>
        rw[hg] at h2
        obtain⟨v,h3,hb⟩:=h2
        obtain⟨A,cp,rfl,-⟩:=hb.form
        exact⟨_,_,_,_,h3⟩
   clear h2
   obtain⟨RA,rm,rc,rok,rfl⟩:=hsh
   simp only[]
   refine hK.out _ _ ?kS1 (fun hSw1=>?kR1)
   case kS1=>exact f20
   clear hK K
   try simp only[Act.put,zs1,zs2,zs3]
   refine tk 10 hSw1 ?_ (hQ:=zg7 rfl)
   refine tk 11 hSw1 ?_ (hQ:=zg7 rfl)
   refine tk 12 hSw1 ?_ (hQ:=zg7 rfl)
   refine one_ 13 rfl (fun K hK=>?_)
   go_simp
   refine hK.out _ _ ?kS2 (fun hSw2=>?kR2)
   case kS2=>exact f20
   clear hK K
   try simp only[Act.put,zs1,zs2,zs3]
   refine z1o 14 rfl (fun K hK=>?_)
   go_simp
   refine hK.out _ _ ?_;clear hK K
   try simp only[Act.put,zs1,zs2,zs3]
   refine z1q (by kernel_rfl) ?_ _
   simp only[Qp]
   have hb2:=f20.blk HBE.out (fun h=>h)
   have e0:=z2g hb2 0 rfl
   have ze:=z2e 0 hb2
   have HFE:=zhd (F2.out.setCell (p:=⟨w.heap.size,0,none⟩) (.inl (Nat.le_refl _)) (.int .i64 0))
   have HS2:Hid ((w.alloc (.cells #[.int .i64 0] 28)).drew.drew.drew.heap.size=w.heap.size+1):=zhd HS0.out
   clear hbe hb2 f20 HG2
   go_wp2_with fail
   refine leaves_cons (f:=41) (args:=#[.pointer (some ⟨w.heap.size,0,none⟩)]) (by simp) (by simp[go_sem]) ?_
   refine(z9y _ _).mono ?_
   rintro e u' w3 ⟨rfl,rfl,rfl⟩
   simp[Leaves,settle,results,Tryz.results68,go_sem,e0]
   refine⟨HFE.out,.inr ?_⟩
   have hr:=HR.out
   rcases hr with⟨hX,_⟩|hr
   · exact hX.elim
   · cases hg:getL key (rootL o) with
     | none =>
       rw[hg] at hr
       injection hr with hr
       injection hr with hr
       injection hr with hr
       simp at hr
       obtain⟨⟨rfl,rfl,rfl⟩,rfl⟩:=hr
       rfl
     | some b =>
       rw[hg] at hr
       obtain⟨v,h3,hv⟩:=hr
       simp at h3
       obtain⟨rfl,rfl⟩:=h3
       refine⟨_,rfl,?_⟩
       have hb:=(hv.mono (F':=fun b=>w.heap.size+1≤b) (fun b h _=>by rw[←HS2.out];exact h)).fr ((Fr.refl (fun b=>b=w.heap.size) w2).setCell (p:=⟨w.heap.size,0,none⟩) (.inr rfl) (.int .i64 0)) (fun b h e=>by omega)
       exact hb.mono (fun b h _=>by omega)
 · go_enter_defers Tryz.func68,Tryz.ntmps68
   go_wp2_with fail
   refine(HD.out _ F0.out).mono ?_
   rintro e w1 ⟨rfl,rfl⟩
   go_wp2_with fail
   refine(HM.out _ F0.out.drew).mono ?_
   rintro e w1 ⟨rfl,rfl⟩
   go_wp2_with fail
   have HG2:=zhd (HG.out _ F0.out.drew.drew.drew)
   clear HD HM HG
   refine zg8 [4,5] ?_
   refine z1r (Fr C0 (w.alloc (.cells #[.int .i64 0] 28))) [14] (by kernel_rfl) ?_
   have hSw0:(Fr C0 (w.alloc (.cells #[.int .i64 0] 28))) _:=(Fr.refl C0 _).drew.drew.drew
   refine tk 0 hSw0 ?_ (hQ:=zg7 rfl)
   refine tk 1 hSw0 ?_ (hQ:=zg7 rfl)
   refine tk 2 hSw0 ?_ (hQ:=zg7 rfl)
   refine tk 3 hSw0 ?_ (hy:=by intro w_ hS_;have b0:=hS_.cell0 c0;have b1:=hS_.cell0 c1;first|(go_simp;done)|(go_simp;with_reducible rfl)) (hQ:=zg7 rfl)
   refine tk 4 hSw0 ?_ (hQ:=zg7 rfl)
   refine tk 5 hSw0 ?_ (hQ:=zg7 rfl)
   refine tk 6 hSw0 ?_ (hQ:=zg7 rfl)
   refine tk 7 hSw0 ?_ (hy:=by intro w_ hS_;have b0:=hS_.cell0 c0;have b1:=hS_.cell0 c1;first|(go_simp;done)|(go_simp;with_reducible rfl)) (hQ:=zg7 rfl)
   refine tk 8 hSw0 ?_ (hQ:=zg7 rfl)
   refine one_ 9 rfl (fun K hK=>?_)
   go_simp
   refine HG2.out.mono ?_
   rintro e w2 ⟨f2,h2⟩
   have F2:=zhd (F0.out.drew.drew.drew.trans0 f2)
   have f20:=(Fr.refl C0 (w.alloc (.cells #[.int .i64 0] 28))).drew.drew.drew.trans0 f2
   have hbe:w2.heap[w.heap.size]?=some (.cells #[.int .i64 0] 28 (0,0)):=f20.blk HBE.out (fun h=>h)
   have HR:=zhd h2
   have hsh:∃A m cp ok,e=.returned (.tuple #[.slice A m cp,.bool ok]):=by
    rcases h2 with⟨hX,_⟩|h2
    · exact hX.elim
    · cases hg:getL key (rootL o) with
      |none=>rw[hg] at h2;exact⟨_,_,_,_,h2⟩
      | some b =>
        rw[hg] at h2
        obtain⟨v,h3,hb⟩:=h2
        obtain⟨A,cp,rfl,-⟩:=hb.form
        exact⟨_,_,_,_,h3⟩
   clear h2
   obtain⟨RA,rm,rc,rok,rfl⟩:=hsh
   simp only[]
   refine hK.out _ _ ?kS3 (fun hSw1=>?kR3)
   case kS3=>exact f20
   clear hK K
   try simp only[Act.put,zs1,zs2,zs3]
   refine tk 10 hSw1 ?_ (hQ:=zg7 rfl)
   refine tk 11 hSw1 ?_ (hQ:=zg7 rfl)
   refine tk 12 hSw1 ?_ (hQ:=zg7 rfl)
   refine one_ 13 rfl (fun K hK=>?_)
   go_simp
   refine hK.out _ _ ?kS4 (fun hSw2=>?kR4)
   case kS4=>exact f20
   clear hK K
   try simp only[Act.put,zs1,zs2,zs3]
   refine z1o 14 rfl (fun K hK=>?_)
   go_simp
   refine hK.out _ _ ?_;clear hK K
   try simp only[Act.put,zs1,zs2,zs3]
   refine z1q (by kernel_rfl) ?_ _
   simp only[Qp]
   have hb2:=f20.blk HBE.out (fun h=>h)
   have e0:=z2g hb2 0 rfl
   have ze:=z2e 0 hb2
   have HFE:=zhd (F2.out.setCell (p:=⟨w.heap.size,0,none⟩) (.inl (Nat.le_refl _)) (.int .i64 0))
   have HS2:Hid ((w.alloc (.cells #[.int .i64 0] 28)).drew.drew.drew.heap.size=w.heap.size+1):=zhd HS0.out
   clear hbe hb2 f20 HG2
   go_wp2_with fail
   refine leaves_cons (f:=41) (args:=#[.pointer (some ⟨w.heap.size,0,none⟩)]) (by simp) (by simp[go_sem]) ?_
   refine(z9y _ _).mono ?_
   rintro e u' w3 ⟨rfl,rfl,rfl⟩
   simp[Leaves,settle,results,Tryz.results68,go_sem,e0]
   refine⟨HFE.out,.inr ?_⟩
   have hr:=HR.out
   rcases hr with⟨hX,_⟩|hr
   · exact hX.elim
   · cases hg:getL key (rootL o) with
     | none =>
       rw[hg] at hr
       injection hr with hr
       injection hr with hr
       injection hr with hr
       simp at hr
       obtain⟨⟨rfl,rfl,rfl⟩,rfl⟩:=hr
       rfl
     | some b =>
       rw[hg] at hr
       obtain⟨v,h3,hv⟩:=hr
       simp at h3
       obtain⟨rfl,rfl⟩:=h3
       refine⟨_,rfl,?_⟩
       have hb:=(hv.mono (F':=fun b=>w.heap.size+1≤b) (fun b h _=>by rw[←HS2.out];exact h)).fr ((Fr.refl (fun b=>b=w.heap.size) w2).setCell (p:=⟨w.heap.size,0,none⟩) (.inr rfl) (.int .i64 0)) (fun b h e=>by omega)
       exact hb.mono (fun b h _=>by omega)
theorem zk7 {sp:Nat} {n:Int} (hs:w.heap[sp]?=some (.cells #[x,y,z,.bool true] 130 (0,0))):
 Calls Tryz.prog 30 #[.pointer (some ⟨sp,0,none⟩),lov,hiv,.int .i64 n] w fun e w'=>e=.returned (.tuple #[.slice none 0 0,.int .i64 20])∧Fr C0 w w':=by
 have c3:=z2g hs 3 rfl
 clear hs
 go_enter Tryz.func30,Tryz.ntmps30
 go_wp2
 go_ret2
 exact⟨rfl,Fr.refl _ _⟩
theorem zk8 {sp:Nat} (hs:w.heap[sp]?=some (.cells #[x,y,z,.bool true] 130 (0,0))):
 Calls Tryz.prog 31 #[.pointer (some ⟨sp,0,none⟩)] w fun e w'=>e=.returned (.tuple #[])∧Fr C0 w w':=by
 have f:=(Fr.refl C0 w).alloc (.cells #[.pointer (some ⟨sp,0,none⟩)] 57)
 have c3:=f.cell0 (z2g hs 3 rfl)
 have F:=zhd f
 clear hs f
 go_enter Tryz.func31,Tryz.ntmps31
 go_wp2
 (try simp only[Exit.inBlock,Exit.then])
 refine bodyPost_ret (results_none rfl _ _ _) rfl ?_
 exact⟨rfl,F.out⟩
end
end Go.Proofs.YtcmicdcikechkaaGreat
namespace Go.H
open Go.RowKit
section
theorem zk9:∀{l:List KV},Sorted l→(atB k l=true→∃h:atN k l<l.length,getL k l=some l[atN k l].2)∧(atB k l=false→getL k l=none)
 |[],_=>⟨fun h=>(by simp[atB] at h),fun _=>rfl⟩
 | y :: l, hs => by
   have hp:=List.pairwise_cons.1 hs
   have hy:=z6e k y.1
   by_cases h:bcmp y.1 k<0
   · have ih:=zk9 (k:=k) hp.2
     have h0:¬bcmp k y.1=0:=by omega
     simp only[atB,atN,getL,if_pos h,if_neg h0,List.length_cons]
     refine⟨fun e=>?_,ih.2⟩
     obtain⟨h1,h2⟩:=ih.1 e
     exact⟨by omega,by rw[h2];rfl⟩
   · simp only[atB,atN,getL,if_neg h,List.length_cons]
     by_cases h0:bcmp k y.1=0
     · have e:=z6d h0
       refine⟨fun _=>⟨by omega,by rw[if_pos h0];rfl⟩,fun e2=>?_⟩
       rw[decide_eq_true e.symm] at e2
       cases e2
     · refine⟨fun e2=>?_,fun _=>?_⟩
       · have e3:=of_decide_eq_true e2
         rw[e3,z6c] at h0
         exact absurd rfl h0
       · rw[if_neg h0]
         refine z6m fun z hz=>z6f (b:=y.1) (by omega) (hp.1 z hz)
theorem zka (h:Sorted l):(getL k l).isSome=atB k l:=by
 have:=zk9 (k:=k) h
 cases hb:atB k l with
 |true=>obtain⟨h1,h2⟩:=this.1 hb;rw[h2];rfl
 |false=>rw[this.2 hb];rfl
theorem zkb {lo hi:List UInt8} {l:List KV} {k:Nat} (hk:k<l.length):rangeL lo hi (l.take (k+1))=rangeL lo hi (l.take k)++(if inR lo hi l[k] then[l[k]] else[]):=by
 unfold rangeL
 rw[List.take_succ_eq_append_getElem hk,List.filter_append]
 congr 1
 cases h:inR lo hi l[k]<;>simp[h]
theorem zkc {k n:Nat} (hn:(rangeL lo hi (l.take k)).length≤n) (h:l.length≤k∨n≤(rangeL lo hi (l.take k)).length):rangeL lo hi (l.take k)=(rangeL lo hi l).take n:=by
 have e:rangeL lo hi l=rangeL lo hi (l.take k)++rangeL lo hi (l.drop k):=by
  unfold rangeL
  rw[←List.filter_append,List.take_append_drop]
 rcases h with h|h
 · rw[List.take_of_length_le h] at hn⊢
   rw[List.take_of_length_le hn]
 · rw[e,List.take_left' (by omega)]
def Shp (w w':World):Prop:=∀(g:Nat) (cur:Array Value) (e:Nat),w.heap[g]?=some (.cells cur e (0,0))→∃cur',w'.heap[g]?=some (.cells cur' e (0,0))∧cur'.size=cur.size
theorem Shp.fr0 (h:Fr C0 w w'):Shp w w':=fun g cur e hg=>⟨cur,h.blk hg (fun h=>h),rfl⟩
theorem Shp.alloc (w:World) (o:Obj):Shp w (w.alloc o):=Shp.fr0 ((Fr.refl C0 w).alloc o)
theorem Shp.setCell (w:World) (g o:Nat) (u:Value):Shp w (w.setCell ⟨g,o,none⟩ u):=fun b cur e hb=>by
 by_cases h:b=g
 · subst h
   exact⟨_,z2f hb u,by simp⟩
 · exact⟨cur,((Fr.refl (fun b=>b=g) w).setCell (p:=⟨g,o,none⟩) (.inr rfl) u).blk hb h,rfl⟩
theorem zkd {P:Program} {t e size bytes ty B n m:Nat} (T:SlTy P t e size bytes) (own:w.ownsRow B e size v n xs) (src:Row F w xv m size news) (hm0:0<m) (h1:∀u∈news,u.oneCell'=true) (h63:n+m≤maxLen) (hby:(n+m)*bytes≤140737488355328) (hr:(Builtin.append_ #[t,t] ty #[v,xv]).run P w=.ok v' w'):Shp w w':=by
 obtain⟨i,z,hi,hz,hsz,hbt,hzs⟩:=T.info
 obtain⟨A,c,rfl,a1,a2,a3,a4⟩:=src
 have hn0:news≠[]:=by
  rintro rfl
  have:=Nat.mul_pos hm0 T.pos
  simp at a3;omega
 obtain⟨g0,o0,rfl,hF,hc⟩:=a4 hn0
 have hnews:∀j u,news[j]?=some u→w.cell? ((⟨g0,o0,none⟩:Addr).add j)=some u:=by
  intro j u hj
  have ha:(⟨g0,o0,none⟩:Addr).add j=⟨g0,o0+j,none⟩:=by unfold Addr.add;split<;>simp_all
  rw[ha];exact hc j u hj
 rcases own.2 with⟨rfl,rfl⟩|⟨g,cap,cur,rfl,hbg,hg,hnc,hcm,hcs,htake⟩
 · have hr2:=run_append_nil (P:=P) w t ty e i z T.u hi hz ⟨g0,o0,none⟩ m c news (by rw[hsz];exact a3) hnews hm0 (by simp only[maxLen] at h63;omega) (by rw[hbt];simp only[Nat.zero_add] at hby;omega)
   rw[hr2] at hr
   injection hr with r1 r2
   rw[←r2]
   exact Shp.alloc _ _
 · by_cases hroom:n+m≤cap
   · have hfit:n*i.size+news.length≤cur.size:=by rw[a3,hcs,hsz,←Nat.add_mul];exact Nat.mul_le_mul_right _ hroom
     have hr2:=run_append_room (P:=P) w t ty e i T.u hi g n cap cur hg ⟨g0,o0,none⟩ m c news (by rw[hsz];exact a3) hnews h1 hroom hfit
     rw[hr2] at hr
     injection hr with r1 r2
     rw[←r2]
     intro b cur' e' hb
     by_cases hbg2:b=g
     · subst hbg2
       rw[hg] at hb
       injection hb with hb
       injection hb with hb1 hb2 hb3
       subst hb1 hb2
       refine⟨_,setRow_heap w b cur _ e _ hg,?_⟩
       simp only[List.size_toArray,List.length_append,List.length_take,List.length_drop,Array.length_toList]
       omega
     · exact⟨cur',by rw[setRow_other w g b _ hbg2];exact hb,rfl⟩
   · have holds:∀j u,xs[j]?=some u→w.cell? ((⟨g,0,none⟩:Addr).add j)=some u:=own.cells (g:=g) rfl
     have hr2:=run_append_grow (P:=P) w t ty e i z T.u hi hz ⟨g,0,none⟩ n cap xs (by rw[hsz];exact own.1) holds ⟨g0,o0,none⟩ m c news (by rw[hsz];exact a3) hnews (by omega) (by simp only[maxLen] at h63;omega) (growslice_fits (by omega) (by rw[hbt];exact hby))
     rw[hr2] at hr
     injection hr with r1 r2
     rw[←r2]
     exact Shp.alloc _ _
theorem zke {P:Program} {t e size bytes B n m:Nat} (T:SlTy P t e size bytes) (hgd:o.guard=none) (s x:Operand) (ho:o.op=.call { callee:=.builtin .append,args:=#[s,x],argTypes:=#[t,t] }) (hs:a.eval s=v) (hx:a.eval x=xv) (own:w.ownsRow B e size v n xs) (src:Row F w xv m size news) (hm0:0<m) (h1:∀u∈news,u.oneCell'=true) (h63:n+m≤maxLen) (hby:(n+m)*bytes≤140737488355328) (hB:B≤w.heap.size) (h:∀v' w',w'.ownsRow B e size v' (n+m) (xs++news)→Fr (fun b=>v.ownBlock=some b) w w'→Shp w w'→wpList P ops Q rest (a.put o.dst v') w'):wpList P ops Q (o::rest) a w:=
 wpList_plain hgd fun K hK=>by
  obtain⟨v',w',hr,h2,h3,h4,h5⟩:=z0j (ty:=o.type) T own src h1 h63 hby hB
  have hsh:=zkd T own src hm0 h1 h63 hby hr
  unfold Oper.wp execOp
  simp only[ho,resolve,invoke,builtin,Sem.run_bind,Sem.run_pure,Result.andThen_ok,List.map_toArray,List.map_cons,List.map_nil,hs,hx,hr]
  exact hK _ _ (h v' w' h2 h3 hsh)
end
end Go.H
