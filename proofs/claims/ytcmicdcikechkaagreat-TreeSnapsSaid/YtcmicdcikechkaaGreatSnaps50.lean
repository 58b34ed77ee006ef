import Derived.Test.YtcmicdcikechkaaGreatSnaps47
import Derived.Test.YtcmicdcikechkaaGreatSnaps49
set_option linter.all false
namespace Go.Proofs.YtcmicdcikechkaaGreat
open Go.RowKit Go.H
set_option maxHeartbeats 1000000
set_option maxRecDepth 100000
section
theorem zii {s:SnapS} {live kept:List Nat} (h:SnapOk live kept s) (hs:RootSh s.root):s.pages.length≤(rootL s.root).length:=by
 have hb:∀x∈s.pages,0<rcnt (.pg x) s.root:=fun x hx=>by
  rw[h.cnt x,if_pos hx];omega
 cases hz:s.root with
 | none =>
   rw[hz] at hb
   cases hh:s.pages with
   |nil=>simp
   |cons x l=>exact absurd (hb x (by rw[hh];simp)) (by simp[rcnt])
 | some p =>
   obtain⟨d,t⟩:=p
   rw[hz] at hb hs
   exact Nat.le_trans (z97 h.nd fun x hx=>List.count_pos_iff.1 (by rw[zf2];exact hb x hx)) (zf3 (Nat.le_refl _) hs)
theorem zij {Z:TSt} (h:Books Z) (hs:RootSh Z.last):Z.live.length≤(rootL Z.last).length:=by
 have hb:∀x∈Z.live,0<rcnt (.pg x) Z.last:=fun x hx=>by
  rw[h.b2 x,if_pos hx];omega
 cases hz:Z.last with
 | none =>
   rw[hz] at hb
   cases hh:Z.live with
   |nil=>simp
   |cons x l=>exact absurd (hb x (by rw[hh];simp)) (by simp[rcnt])
 | some p =>
   obtain⟨d,t⟩:=p
   rw[hz] at hb hs
   exact Nat.le_trans (z97 h.ln fun x hx=>List.count_pos_iff.1 (by rw[zf2];exact hb x hx)) (zf3 (Nat.le_refl _) hs)
theorem zik {B:Nat}:∀{l:List SnapS},(∀s∈l,s.pages.length≤B)→((l.map SnapS.pages).flatten).length≤l.length*B
 |[],_=>by simp
 | s :: l, h => by
   have h1:=h s (by simp)
   have h2:=zik (l:=l) (fun a ha=>h a (List.mem_cons_of_mem _ ha))
   simp only[List.map_cons,List.flatten_cons,List.length_append,List.length_cons,Nat.add_mul,Nat.one_mul]
   omega
theorem zil {Z:TSt} {B:Nat} (h:Books Z) (hb:Z.back=[]) (hs:RootSh Z.last) (hr:∀s∈Z.snaps,RootSh s.root) (h1:(rootL Z.last).length≤B) (h2:∀s∈Z.snaps,(rootL s.root).length≤B) (h4:Z.snaps.length≤4):Z.held.length≤5*B:=by
 have hl:=z97 (a:=Z.held) (b:=Z.live++(Z.snaps.map SnapS.pages).flatten) h.hn fun x hx=>by
  rcases(h.hl x).1 hx with h3|h3|h3
  · exact List.mem_append_left _ h3
  · obtain⟨s,h5,h6⟩:=h.kp.kw x h3
    exact List.mem_append_right _ (List.mem_flatten.2 ⟨s.pages,List.mem_map_of_mem h5,h6⟩)
  · rw[hb] at h3;simp at h3
 rw[List.length_append] at hl
 have h5:=zij h hs
 have h6:=zik (l:=Z.snaps) (B:=B) fun s hm=>Nat.le_trans (zii (h.kp.ok s hm) (hr s hm)) (h2 s hm)
 have h7:Z.snaps.length*B≤4*B:=Nat.mul_le_mul_right _ h4
 omega
theorem TreeAt.shs {c:Nat→Nat} {r rn rm:Nat} {w:World} {tp:Nat} {Z:TSt} {k:Nat} (h:TreeAt c r rn rm w tp Z k):(∀s∈Z.snaps,RootSh s.root)∧Z.snaps.length=k:=by
 obtain⟨st,lm,km,nr,lr,gv,ov,sn,h⟩:=h
 exact⟨fun s hs=>(h.sns.2.2 s hs).sh,h.sns.1⟩
structure FitsS (pn d N k:Nat) (Z:TSt):Prop where
 num:Z.S.num=N
 now:(rootL Z.now).length≤k
 last:(rootL Z.last).length≤k
 pages:Z.S.pages=pn
 dk:Z.S.dk=d
 nk:N≤k
 af:Z.D.after<1
 held:Z.held.length≤5*k
 sk:∀s∈Z.snaps,(rootL s.root).length≤k
def snL (l:List SnapS):List (Nat×List KV):=l.map fun s=>(s.sp,rootL s.root)
structure SAt (w0:World) (pn d tp:Nat) (La Ll:List KV) (N k:Nat) (SL:List (Nat×List KV)) (c:Nat→Nat) (w:World):Prop where
 ex:∃Z,Stg (fun _=>0) w0 1 2 3 c w tp Z SL.length∧rootL Z.now=La∧rootL Z.last=Ll∧snL Z.snaps=SL∧FitsS pn d N k Z
variable {w0 w w' : World} {pn d tp N k : Nat} {La Ll : List KV} {c c' : Nat → Nat} {SL : List (Nat × List KV)}
theorem FitsS.le {Z:TSt} {k':Nat} (i:FitsS pn d N k Z) (hk:k≤k'):FitsS pn d N k' Z:=
 ⟨i.num,Nat.le_trans i.now hk,Nat.le_trans i.last hk,i.pages,i.dk,Nat.le_trans i.nk hk,i.af,Nat.le_trans i.held (Nat.mul_le_mul_left _ hk),fun s hs=>Nat.le_trans (i.sk s hs) hk⟩
theorem SAt.le {k':Nat} (h:SAt w0 pn d tp La Ll N k SL c w) (hk:k≤k'):SAt w0 pn d tp La Ll N k' SL c w:=by
 obtain⟨Z,a,b,e,g,i⟩:=h
 exact⟨Z,a,b,e,g,i.le hk⟩
theorem SAt.fr0 (h:SAt w0 pn d tp La Ll N k SL c w) (hf:Fr C0 w w'):SAt w0 pn d tp La Ll N k SL c w':=by
 obtain⟨Z,a,b,e,g,i⟩:=h
 exact⟨Z,a.fr0 hf,b,e,g,i⟩
theorem SAt.move (h:SAt w0 pn d tp La Ll N k SL c w) (hf:Fr C0 w w') (ha:Ag w.heap.size c c') (hc:Cl w' c'):SAt w0 pn d tp La Ll N k SL c' w':=by
 obtain⟨Z,a,b,e,g,i⟩:=h
 exact⟨Z,a.move hf ha hc,b,e,g,i⟩
theorem SAt.fr (h:SAt w0 pn d tp La Ll N k SL c w):Fr C0 w0 w:=by
 obtain⟨Z,a,_⟩:=h
 exact a.fr
theorem SAt.ag (h:SAt w0 pn d tp La Ll N k SL c w):Ag w0.heap.size (fun _=>0) c:=by
 obtain⟨Z,a,_⟩:=h
 exact a.ag
theorem SAt.cl (h:SAt w0 pn d tp La Ll N k SL c w):Cl w c:=by
 obtain⟨Z,a,_⟩:=h
 exact a.tr.cl
theorem SAt.came {F:Nat→Prop} {v:Value} {l:Bs} (h:SAt w0 pn d tp La Ll N k SL c w) (hv:BytesAt F w0 v l):BytesAt (Dt c) w v l:=zfm (hv.mono fun _ _ _=>trivial) (fun _=>rfl) h.fr h.ag
theorem At1.toS (h:At1 w0 pn 1 d tp La Ll N k c w):SAt w0 pn d tp La Ll N k [] c w:=by
 obtain⟨Z,a,b,e,i⟩:=h
 have h1:=zf8 a.tr i.bk
 have h2:=a.tr.nosnaps
 rw[a.tr.bk.st,z96] at h1
 have h3:=i.last
 exact⟨Z,a,b,e,by rw[h2];rfl,⟨i.num,i.now,i.last,i.pages,i.dk,i.nk,i.af,by omega,fun s hs=>by rw[h2] at hs;simp at hs⟩⟩
theorem zim {Z:TSt} (h:Books Z) (i:FitsS pn d N k Z):Z.S.state.length≤5*k:=by
 rw[h.st,z96];exact i.held
theorem zin {kv vv:Value} {x:KV} (h:SAt w0 pn d tp La Ll N k SL c w) (hk:BytesAt (Dt c) w kv x.1) (hv:BytesAt (Dt c) w vv x.2) (hw:wrong x.1 x.2=0) (hr:6*k<pn) (hk4:k≤80000) :
 Calls Tryz.prog 10 #[.pointer (some ⟨tp,0,none⟩),kv,vv] w fun e w'=>e=.returned (.int .i64 0)∧Hid (∃c',SAt w0 pn d tp (putL x La) Ll N (k+1) SL c' w'∧StepA 1 c w c' w'):=by
 obtain⟨Z,a,rfl,rfl,g,i⟩:=h
 have h1:=zim a.tr.bk i
 have h2:=i.now
 have h4:=i.pages
 refine(zfi (x:=x) zi5 a.tr hk hv hw (by omega) (by omega)).mono ?_
 rintro e' w' ⟨rfl,f,c',o',g',ag,t,e1⟩
 have i':=i.le (show k≤k+1 by omega)
 exact⟨rfl,zhd ⟨c',⟨_,a.next no123' f ag t,e1,rfl,g,⟨i'.num,by show(rootL o').length≤_;rw[e1,zbs a.tr.bk.sn];split<;>omega,i'.last,i'.pages,i'.dk,i'.nk,i'.af,i'.held,i'.sk⟩⟩,⟨f,ag⟩⟩⟩
theorem zio {kv vv:Value} {x v:Bs} (h:SAt w0 pn d tp La Ll N k SL c w) (hk:BytesAt (Dt c) w kv x) (hv:BytesAt (Dt c) w vv v) (hr:6*k<pn) (hk4:k≤80000) :
 Calls Tryz.prog 10 #[.pointer (some ⟨tp,0,none⟩),kv,vv] w fun e w'=>e=.returned (.int .i64 (wrong x v))∧Hid (∃c',SAt w0 pn d tp (putW x v La) Ll N (k+1) SL c' w'∧StepA 1 c w c' w'):=by
 by_cases hw:wrong x v=0
 · refine(zin (x:=(x,v)) h hk hv hw hr hk4).mono ?_
   rintro e w' ⟨rfl,H⟩
   refine⟨by rw[hw];rfl,zhd ?_⟩
   unfold putW
   rw[if_pos hw]
   exact H.out
 · have h9:=h
   obtain⟨Z,a,rfl,rfl,g,i⟩:=h
   refine(zfd a.tr hk hv hw).mono ?_
   rintro e w' ⟨rfl,f⟩
   refine⟨rfl,zhd ⟨c,?_,⟨f.mono (fun _ _ e=>e.elim),fun _ _=>rfl⟩⟩⟩
   unfold putW
   rw[if_neg hw]
   exact(h9.fr0 f).le (by omega)
theorem zip {kv:Value} {x:Bs} (h:SAt w0 pn d tp La Ll N k SL c w) (hk:BytesAt (Dt c) w kv x) (hr:6*k≤pn) (hk4:k≤80000) :
 Calls Tryz.prog 12 #[.pointer (some ⟨tp,0,none⟩),kv] w fun e w'=>e=.returned (.tuple #[.bool ((getL x La).isSome && decide (wrong x []=0)),.int .i64 (wrong x [])])∧Hid (∃c',SAt w0 pn d tp (delW x La) Ll N k SL c' w'∧StepA 1 c w c' w'):=by
 have h9:=h
 obtain⟨Z,a,rfl,rfl,g,i⟩:=h
 by_cases hw:wrong x []=0
 · have h1:=zim a.tr.bk i
   have h2:=i.now
   have h3:=i.last
   have h4:=i.pages
   have h6:=(zg1 x (rootL Z.now)).length_le
   refine(zi1 zi5 a.tr hk hw).mono ?_
   unfold delW
   rw[if_pos hw]
   rintro e' w' (⟨hg,rfl,f⟩|⟨hg,⟨rfl,f,o',e1,e2,e3,e4⟩|⟨rfl,f,c',o',g',ag,t,e1⟩⟩)
   · refine⟨by rw[hg,hw];rfl,zhd ⟨c,?_,⟨f.mono (fun _ _ e=>e.elim),fun _ _=>rfl⟩⟩⟩
     rw[zg0 hg]
     exact h9.fr0 f
   · have h5:=zc2 e2
     rw[e1] at h5
     omega
   · refine⟨by cases hh:getL x (rootL Z.now) with|none=>exact absurd hh hg|some _=>simp[hw],zhd ?_⟩
     have f':Fr (OwnR 1 c) w w':=f.mono (fun _ _ e=>.inl e)
     exact⟨c',⟨_,a.next no123' f' ag t,e1,rfl,g,⟨i.num,by show(rootL o').length≤_;rw[e1];omega,i.last,i.pages,i.dk,i.nk,i.af,i.held,i.sk⟩⟩,⟨f',ag⟩⟩
 · obtain⟨st,lm,km,nr,lr,gv,ov,sn,t⟩:=a.tr
   refine(zhy t.hd hk hw).mono ?_
   rintro e w' ⟨rfl,f⟩
   refine⟨by simp[hw],zhd ⟨c,?_,⟨f.mono (fun _ _ e=>e.elim),fun _ _=>rfl⟩⟩⟩
   unfold delW
   rw[if_neg hw]
   exact h9.fr0 f
theorem ziq (h:SAt w0 pn d tp La Ll N k SL c w) (h4:SL.length≤4) (hk4:k≤80000) :
 Calls Tryz.prog 11 #[.pointer (some ⟨tp,0,none⟩)] w fun e w'=>e=.returned (.int .i64 0)∧Hid (∃c',SAt w0 pn d tp La La (N+1) (k+1) SL c' w'∧StepA 1 c w c' w'):=by
 obtain⟨Z,a,rfl,rfl,g,i⟩:=h
 refine(zf0 zi5 a.tr (by have:=i.num;have:=i.nk;omega) i.af).mono ?_
 rintro e' w' ⟨rfl,f,c',Z1,ag,t,e0,e1,e2,e3,-,e5,e6,e7,e8,e9⟩
 have i':=i.le (show k≤k+1 by omega)
 have st:=a.next no123' f ag t
 have h1:(rootL Z1.last).length≤k+1:=by rw[e2,e1];exact i'.now
 have h2:∀s∈Z1.snaps,(rootL s.root).length≤k+1:=by rw[e0.2];exact i'.sk
 have hnk:=i.nk
 have hs:=t.shs
 exact⟨rfl,zhd ⟨c',⟨Z1,st,e1,by rw[e2,e1],by rw[e0.2];exact g,⟨by have:=i.num;omega,by rw[e1];exact i'.now,h1,by rw[e5];exact i.pages,by rw[e8];exact i.dk,by omega,e9,zil t.bk e0.1 t.shl hs.1 h1 h2 (by rw[hs.2];exact h4),h2⟩⟩,⟨f,ag⟩⟩⟩
theorem zir (h:SAt w0 pn d tp La Ll N k SL c w) (h3:SL.length≤3) :
 Calls Tryz.prog 29 #[.pointer (some ⟨tp,0,none⟩)] w fun e w'=>∃sp,e=.returned (.tuple #[.pointer (some ⟨sp,0,none⟩),.int .i64 0])∧Hid (∃c',SAt w0 pn d tp La Ll N k (SL++[(sp,Ll)]) c' w'∧StepA 1 c w c' w'):=by
 obtain⟨Z,a,rfl,rfl,g,i⟩:=h
 refine(zf5 zi5 a.tr h3).mono ?_
 rintro e' w' ⟨sp,rfl,f,pm,c',ag,t⟩
 have f':Fr (OwnR 1 c) w w':=f.mono (fun _ _ e=>e.elim .inl (fun e=>.inr (.inr e)))
 have st:=a.next no123' f' ag t
 refine⟨sp,rfl,zhd ⟨c',⟨Z.snapped sp pm,by rw[List.length_append];exact st,rfl,rfl,?_,⟨i.num,i.now,i.last,i.pages,i.dk,i.nk,i.af,i.held,fun s hs=>?_⟩⟩,⟨f',ag⟩⟩⟩
 · show snL (Z.snaps++[_])=_
   unfold snL at g⊢
   rw[List.map_append,g]
   rfl
 · rcases List.mem_append.1 hs with hs|hs
   · exact i.sk s hs
   · rw[List.mem_singleton] at hs
     subst hs
     exact i.last
theorem zis (h:SAt w0 pn d tp La Ll N k SL c w) (hk3:k≤900) :
 Calls Tryz.prog 21 #[.pointer (some ⟨tp,0,none⟩),.slice none 0 0,.slice none 0 0,.int .i64 999] w fun e w'=>∃A cp,e=.returned (.tuple #[.slice A La.length cp,.int .i64 0])∧Hid (Fr C0 w w'∧SAt w0 pn d tp La Ll N k SL c w'∧PairsAt (Dt c) w' (.slice A La.length cp) La):=by
 have h9:=h
 obtain⟨Z,a,rfl,rfl,g,i⟩:=h
 obtain⟨q,hq1,hq2,hq3⟩:=zfn a.tr.cl [1,2,3]
 refine(zfa (n:=999) hq2 (hq3 1 (by simp)) (hq3 2 (by simp)) hq1 (by omega) a.tr zfo zfo (by simp) (by simp)).mono ?_
 rintro e' w' ⟨f,v',c',rfl,ag,cl,o⟩
 have hl:(rangeL [] [] (rootL Z.now)).take 999=rootL Z.now:=by
  have:=i.now
  rw[zi2,List.take_of_length_le (by omega)]
 rw[hl] at o
 obtain⟨A,cp,rfl,-⟩:=o.form
 exact⟨A,cp,rfl,zhd ⟨f,h9.fr0 f,OutAt.pairs o (fun b hb _=>a.tr.cl b hb)⟩⟩
theorem zit {sp:Nat} {L:List KV} (h:SAt w0 pn d tp La Ll N k SL c w) (hm:(sp,L)∈SL) (hk3:k≤900) :
 Calls Tryz.prog 30 #[.pointer (some ⟨sp,0,none⟩),.slice none 0 0,.slice none 0 0,.int .i64 999] w fun e w'=>∃A cp,e=.returned (.tuple #[.slice A L.length cp,.int .i64 0])∧Hid (Fr C0 w w'∧SAt w0 pn d tp La Ll N k SL c w'∧PairsAt (Dt c) w' (.slice A L.length cp) L):=by
 have h9:=h
 obtain⟨Z,a,rfl,rfl,rfl,i⟩:=h
 obtain⟨s,hs,e⟩:=List.mem_map.1 hm
 injection e with e1 e2
 subst e1 e2
 obtain⟨q,hq1,hq2,hq3⟩:=zfn a.tr.cl [1,2,3]
 refine(zf6 (n:=999) hs hq2 (hq3 1 (by simp)) (hq3 2 (by simp)) hq1 (by omega) a.tr zfo zfo (by simp) (by simp)).mono ?_
 rintro e' w' ⟨f,v',c',rfl,ag,cl,o⟩
 have hl:(rangeL [] [] (rootL s.root)).take 999=rootL s.root:=by
  have:=i.sk s hs
  rw[zi2,List.take_of_length_le (by omega)]
 rw[hl] at o
 obtain⟨A,cp,rfl,-⟩:=o.form
 exact⟨A,cp,rfl,zhd ⟨f,h9.fr0 f,OutAt.pairs o (fun b hb _=>a.tr.cl b hb)⟩⟩
theorem ziu {sp:Nat} {L:List KV} (h:SAt w0 pn d tp La Ll N k SL c w) (hm:(sp,L)∈SL) :
 Calls Tryz.prog 31 #[.pointer (some ⟨sp,0,none⟩)] w fun e w'=>e=.returned (.tuple #[])∧Hid (∃c',SAt w0 pn d tp La Ll N k (SL.filter fun p=>decide (p.1≠sp)) c' w'∧StepA 1 c w c' w'∧∃x y,w'.heap[sp]?=some (.cells #[.pointer (some ⟨tp,0,none⟩),x,y,.bool true] 130 (0,0))∧c' sp=3):=by
 obtain⟨Z,a,rfl,rfl,rfl,i⟩:=h
 obtain⟨s,hs,e⟩:=List.mem_map.1 hm
 injection e with e1 e2
 subst e1 e2
 obtain⟨st,lm,km,nr,lr,gv,ov,sn,t⟩:=a.tr
 obtain⟨u,hu⟩:=All2.memL t.sns.2.1 hs
 refine(zih zi5 t hs).mono ?_
 rintro e' w' ⟨rfl,H⟩
 obtain⟨f,c',ov',back,kept,sn',ag,t',hc⟩:=H.out
 have f':Fr (OwnR 1 c) w w':=f.mono (fun _ _ e=>e.elim .inl (fun e=>.inr (.inr e)))
 have hlen:((snL Z.snaps).filter fun p=>decide (p.1≠s.sp))=snL (Z.snaps.filter fun x=>decide (x.sp≠s.sp)):=by
  unfold snL
  rw[List.filter_map]
  rfl
 have st':=a.next no123' f' ag ⟨st,lm,km,nr,lr,gv,ov',sn',t'⟩
 refine⟨rfl,zhd ⟨c',⟨Z.closed s back kept,?_,rfl,rfl,hlen.symm,⟨i.num,i.now,i.last,i.pages,i.dk,i.nk,i.af,i.held,fun x hx=>i.sk x (List.mem_filter.1 hx).1⟩⟩,⟨f',ag⟩,_,_,hc,(ag _ (Array.getElem?_eq_some_iff.1 hu.blk).1).trans hu.own⟩⟩
 rw[hlen]
 unfold snL
 rw[List.length_map]
 exact st'
end
section
variable {w0 w w' : World} {pn d tp N k : Nat} {La Ll : List KV} {c c' : Nat → Nat} {SL : List (Nat × List KV)}
theorem ziv {r rn rm st lm km:Nat} {nr lr gv ov:Value} {Z:TSt} {sn:List Value} (h:TreeIn c r rn rm w tp st lm km nr lr gv ov Z k sn) (hk:4≤k) :
 Calls Tryz.prog 29 #[.pointer (some ⟨tp,0,none⟩)] w fun e w'=>e=.returned (.tuple #[.pointer none,.int .i64 2])∧Fr C0 w w':=by
 have HD:=zhd (za5 h.hd)
 have t9:w.cell? ⟨tp,9,none⟩=some ov:=z2g h.blk 9 rfl
 obtain⟨A,cp,rfl,-⟩:=z0o h.orow
 have hkc:(4:Int)≤(k:Int):=by omega
 clear h
 go_enter Tryz.func29,Tryz.ntmps29
 go_wp2_with fail
 refine HD.out.mono ?_
 rintro e w1 ⟨rfl,rfl⟩
 go_wp2
 go_ret2
 exact⟨rfl,(Fr.refl _ _).drew⟩
theorem ziw (h:SAt w0 pn d tp La Ll N k SL c w) (h4:4≤SL.length) :
 Calls Tryz.prog 29 #[.pointer (some ⟨tp,0,none⟩)] w fun e w'=>e=.returned (.tuple #[.pointer none,.int .i64 2])∧Fr C0 w w':=by
 obtain⟨Z,a,rfl,rfl,g,i⟩:=h
 obtain⟨st,lm,km,nr,lr,gv,ov,sn,t⟩:=a.tr
 exact ziv t h4
theorem SAt.sps (h:SAt w0 pn d tp La Ll N k SL c w):(SL.map Prod.fst).Nodup:=by
 obtain⟨Z,a,rfl,rfl,rfl,i⟩:=h
 have:=a.tr.bk.kp.sd
 unfold snL
 rw[List.map_map]
 exact this
theorem zix {p:Nat×List KV} {l:List (Nat×List KV)} (h:((p::l).map Prod.fst).Nodup):(p::l).filter (fun q=>decide (q.1≠p.1))=l:=by
 rw[List.map_cons,List.nodup_cons] at h
 rw[List.filter_cons,if_neg (by simp)]
 refine List.filter_eq_self.2 fun q hq=>?_
 have:q.1≠p.1:=fun e=>h.1 (by rw[←e];exact List.mem_map_of_mem hq)
 simpa using this
theorem StepA.pairs {v:Value} {L:List KV} (h:StepA 1 c w c' w') (hv:PairsAt (Dt c) w v L):PairsAt (Dt c') w' v L:=zi3 zi5 hv h.fr h.ag
theorem SAt.fr7 {C:Nat→Prop} (h:SAt w0 pn d tp La Ll N k SL c w) (hf:Fr C w w') (h7:∀b,C b→c b=7):SAt w0 pn d tp La Ll N k SL c w':=by
 obtain⟨Z,a,b,e,g,i⟩:=h
 refine⟨Z,⟨a.fr.trans hf (fun b' hb e=>?_),a.ag,a.tr.fr hf (fun b' e=>?_) (fun b' e=>?_) (fun b' e=>?_) (fun b' e=>?_)⟩,b,e,g,i⟩
 · have h1:=h7 b' e
   have h2:c b'=0:=a.ag b' hb
   omega
 all_goals
  have:=h7 b' e
  omega
theorem ziy {C:Nat→Prop} {v:Value} {L:List KV} (h:PairsAt (Dt c) w v L) (hf:Fr C w w') (h7:∀b,C b→c b=7):PairsAt (Dt c) w' v L:=
 h.fr hf (fun b hb e=>by
  have h1:=h7 b e
  have h2:c b=0:=hb
  omega)
structure OldsAt (bA bB:Nat) (SL:List (Nat×List KV)) (OA SB:Array Value) (c:Nat→Nat) (w:World):Prop where
 a:w.heap[bA]?=some (.cells OA 56 (0,0))∧c bA=7
 b:w.heap[bB]?=some (.cells SB 58 (0,0))∧c bB=7
 sa:OA.size=4
 sb:SB.size=4
 ats:∀(j:Nat) (p:Nat×List KV),SL[j]?=some p→SB[j]?=some (.pointer (some ⟨p.1,0,none⟩))∧∃A cp,OA[j]?=some (.slice A p.2.length cp)∧PairsAt (Dt c) w (.slice A p.2.length cp) p.2
variable {bA bB : Nat} {OA SB : Array Value}
theorem StepA.blk7 {b:Nat} {o:Obj} (s:StepA 1 c w c' w') (h:w.heap[b]?=some o∧c b=7):w'.heap[b]?=some o∧c' b=7:=by
 refine⟨s.fr.blk h.1 (fun e=>?_),(s.ag b (Array.getElem?_eq_some_iff.1 h.1).1).trans h.2⟩
 have e':c b=1∨c b=1+1∨c b=1+2:=e
 have:=h.2
 omega
theorem OldsAt.step (h:OldsAt bA bB SL OA SB c w) (s:StepA 1 c w c' w'):OldsAt bA bB SL OA SB c' w':=
 ⟨s.blk7 h.a, s.blk7 h.b, h.sa, h.sb, fun j p hj => by
  obtain⟨h1,A,cp,h2,h3⟩:=h.ats j p hj
  exact⟨h1,A,cp,h2,s.pairs h3⟩⟩
theorem OldsAt.fr0 (h:OldsAt bA bB SL OA SB c w) (f:Fr C0 w w'):OldsAt bA bB SL OA SB c w':=h.step ⟨f.mono fun _ _ e=>e.elim,Ag.refl _ _⟩
structure SnW (w0:World) (d tp bA bB:Nat) (La Ll:List KV) (N k:Nat) (SL S2:List (Nat×List KV)) (w:World):Prop where
 ex:∃c OA SB,SAt w0 898 d tp La Ll N k SL c w∧OldsAt bA bB S2 OA SB c w
theorem SnW.le {S2:List (Nat×List KV)} {k':Nat} (h:SnW w0 d tp bA bB La Ll N k SL S2 w) (hk:k≤k'):SnW w0 d tp bA bB La Ll N k' SL S2 w:=by
 obtain⟨c,OA,SB,a,o⟩:=h
 exact⟨c,OA,SB,a.le hk,o⟩
theorem SnW.fr0 {S2:List (Nat×List KV)} (h:SnW w0 d tp bA bB La Ll N k SL S2 w) (f:Fr C0 w w'):SnW w0 d tp bA bB La Ll N k SL S2 w':=by
 obtain⟨c,OA,SB,a,o⟩:=h
 exact⟨c,OA,SB,a.fr0 f,o.fr0 f⟩
theorem SnW.fr {S2:List (Nat×List KV)} (h:SnW w0 d tp bA bB La Ll N k SL S2 w):Fr C0 w0 w:=by
 obtain⟨c,OA,SB,a,o⟩:=h
 exact a.fr
theorem ziz {w1:World} {c1:Nat→Nat} (h:At1 w0 898 1 d tp [] [] 0 0 c1 w1):SnW w0 d tp w1.heap.size (w1.heap.size+1) [] [] 0 0 [] [] ((w1.alloc (.cells #[.slice none 0 0,.slice none 0 0,.slice none 0 0,.slice none 0 0] 56)).alloc (.cells #[.pointer none,.pointer none,.pointer none,.pointer none] 58)):=by
 have h0:=h.toS
 have f:=((Fr.refl C0 w1).alloc (.cells #[.slice none 0 0,.slice none 0 0,.slice none 0 0,.slice none 0 0] 56)).alloc (.cells #[.pointer none,.pointer none,.pointer none,.pointer none] 58)
 have b1:=((Fr.refl C0 _).alloc (.cells #[.pointer none,.pointer none,.pointer none,.pointer none] 58)).blk (heap_alloc_new w1 (.cells #[.slice none 0 0,.slice none 0 0,.slice none 0 0,.slice none 0 0] 56)) (fun h=>h)
 have b2:=heap_alloc_new (w1.alloc (.cells #[.slice none 0 0,.slice none 0 0,.slice none 0 0,.slice none 0 0] 56)) (.cells #[.pointer none,.pointer none,.pointer none,.pointer none] 58)
 rw[show(w1.alloc (.cells #[.slice none 0 0,.slice none 0 0,.slice none 0 0,.slice none 0 0] 56)).heap.size=w1.heap.size+1 by simp] at b2
 refine⟨fun b=>if b=w1.heap.size∨b=w1.heap.size+1 then 7 else c1 b,_,_,h0.move f (fun b hb=>?_) (fun b hb=>?_),⟨⟨b1,by simp⟩,⟨b2,by simp⟩,rfl,rfl,fun j p hj=>by simp at hj⟩⟩
 · rw[if_neg (by omega)]
 · have hs:((w1.alloc (.cells #[.slice none 0 0,.slice none 0 0,.slice none 0 0,.slice none 0 0] 56)).alloc (.cells #[.pointer none,.pointer none,.pointer none,.pointer none] 58)).heap.size=w1.heap.size+2:=by simp
   rw[if_neg (by omega)]
   exact h0.cl b (by omega)
theorem OldsAt.add {A:Option Addr} {cp sp n:Nat} {L:List KV} (h:OldsAt bA bB SL OA SB c w) (hn:SL.length=n) (h4:n<4) (hp:PairsAt (Dt c) w (.slice A L.length cp) L) (hne:bA≠bB) :
 ∃OA' SB',OldsAt bA bB (SL++[(sp,L)]) OA' SB' c ((w.setCell ⟨bA,n,none⟩ (.slice A L.length cp)).setCell ⟨bB,n,none⟩ (.pointer (some ⟨sp,0,none⟩))):=by
 have f1:=(Fr.refl (fun b=>b=bA∨b=bB) w).setCell (p:=⟨bA,n,none⟩) (.inr (.inl rfl)) (.slice A L.length cp)
 have f2:=f1.setCell (p:=⟨bB,n,none⟩) (.inr (.inr rfl)) (.pointer (some ⟨sp,0,none⟩))
 have h7:∀b,b=bA∨b=bB→c b=7:=fun b e=>by
  rcases e with e|e
  · rw[e];exact h.a.2
  · rw[e];exact h.b.2
 have b1:=z2f (i:=n) h.a.1 (.slice A L.length cp)
 have g1:=((Fr.refl (fun b=>b=bB) (w.setCell ⟨bA,n,none⟩ (.slice A L.length cp))).setCell (p:=⟨bB,n,none⟩) (.inr rfl) (.pointer (some ⟨sp,0,none⟩))).blk b1 hne
 have g2:=z2f (i:=n) (((Fr.refl (fun b=>b=bA) w).setCell (p:=⟨bA,n,none⟩) (.inr rfl) (.slice A L.length cp)).blk h.b.1 hne.symm) (.pointer (some ⟨sp,0,none⟩))
 refine⟨_,_,⟨g1,h.a.2⟩,⟨g2,h.b.2⟩,by simp[h.sa],by simp[h.sb],fun j p hj=>?_⟩
 by_cases e:j=n
 · subst e
   rw[List.getElem?_append_right (by omega),hn] at hj
   simp at hj
   subst hj
   refine⟨by simp[h.sb,h4],A,cp,by simp[h.sa,h4],ziy hp f2 h7⟩
 · have hj2:SL[j]?=some p:=by
    by_cases hl:j<SL.length
    · rw[List.getElem?_append_left hl] at hj;exact hj
    · rw[List.getElem?_eq_none (by simp;omega)] at hj;cases hj
   obtain⟨h1,A',cp',h2,h3⟩:=h.ats j p hj2
   exact⟨by rw[Array.getElem?_setIfInBounds_ne (by omega)];exact h1,A',cp',by rw[Array.getElem?_setIfInBounds_ne (by omega)];exact h2,ziy h3 f2 h7⟩
theorem zj0 {F:Nat→Prop} {S2:List (Nat×List KV)} {kv:Value} {x:Bs} {n i:Nat} (h:SnW w0 d tp bA bB La Ll N k SL S2 w) (hk:BytesAt F w0 kv x) (hk4:6*k<898) (hn:n<256) (hi:i<256) :
 Calls Tryz.prog 10 #[.pointer (some ⟨tp,0,none⟩),kv,.slice (some ⟨w.heap.size,0,none⟩) 2 2] (w.alloc (.cells #[.int .u8 (n:Int),.int .u8 (i:Int)] 5)) fun e w'=>∃er:Int,e=.returned (.int .i64 er)∧Hid (∃La',SnW w0 d tp bA bB La' Ll N (k+1) SL S2 w'):=by
 obtain⟨c,OA,SB,a,o⟩:=h
 have hb1:bv (UInt8.ofNat n)=.int .u8 (n:Int):=by unfold bv;rw[UInt8.toNat_ofNat_of_lt' (by show n<256;omega)]
 have hb2:bv (UInt8.ofNat i)=.int .u8 (i:Int):=by unfold bv;rw[UInt8.toNat_ofNat_of_lt' (by show i<256;omega)]
 have f:=(Fr.refl C0 w).alloc (.cells #[.int .u8 (n:Int),.int .u8 (i:Int)] 5)
 have hv:BytesAt (Dt c) (w.alloc (.cells #[.int .u8 (n:Int),.int .u8 (i:Int)] 5)) (.slice (some ⟨w.heap.size,0,none⟩) 2 2) [UInt8.ofNat n,UInt8.ofNat i]:=by
  refine z0i.2 ?_
  have:=Row.ofBlock (F:=Dt c) (n:=2) (size:=1) (heap_alloc_new w (.cells #[.int .u8 (n:Int),.int .u8 (i:Int)] 5)) (a.cl _ (Nat.le_refl _)) (by unfold maxLen;omega) rfl
  simpa [hb1,hb2] using this
 refine(zio (a.fr0 f) ((a.came hk).fr0 f) hv (by omega) (by omega)).mono ?_
 rintro e w' ⟨rfl,H⟩
 obtain⟨c',a',st⟩:=H.out
 exact⟨_,rfl,zhd ⟨_,c',OA,SB,a',(o.fr0 f).step st⟩⟩
theorem zj1 {F:Nat→Prop} {S2:List (Nat×List KV)} {kv:Value} {x:Bs} (h:SnW w0 d tp bA bB La Ll N k SL S2 w) (hk:BytesAt F w0 kv x) (hk4:6*k<898) :
 Calls Tryz.prog 12 #[.pointer (some ⟨tp,0,none⟩),kv] w fun e w'=>∃(b:Bool) (er:Int),e=.returned (.tuple #[.bool b,.int .i64 er])∧Hid (∃La',SnW w0 d tp bA bB La' Ll N (k+1) SL S2 w'):=by
 obtain⟨c,OA,SB,a,o⟩:=h
 refine(zip a (a.came hk) (by omega) (by omega)).mono ?_
 rintro e w' ⟨rfl,H⟩
 obtain⟨c',a',st⟩:=H.out
 exact⟨_,_,rfl,zhd ⟨_,c',OA,SB,a'.le (by omega),o.step st⟩⟩
theorem zj2 {S2:List (Nat×List KV)} (h:SnW w0 d tp bA bB La Ll N k SL S2 w) (h4:SL.length≤4) (hk4:k≤80000) :
 Calls Tryz.prog 11 #[.pointer (some ⟨tp,0,none⟩)] w fun e w'=>e=.returned (.int .i64 0)∧Hid (SnW w0 d tp bA bB La La (N+1) (k+1) SL S2 w'):=by
 obtain⟨c,OA,SB,a,o⟩:=h
 refine(ziq a h4 hk4).mono ?_
 rintro e w' ⟨rfl,H⟩
 obtain⟨c',a',st⟩:=H.out
 exact⟨rfl,zhd ⟨c',OA,SB,a',o.step st⟩⟩
structure SnR (w0:World) (d tp bA bB:Nat) (La:List KV) (N k:Nat) (SL S2:List (Nat×List KV)) (A:Option Addr) (cp:Nat) (w:World):Prop where
 ex:∃c OA SB,SAt w0 898 d tp La La N k SL c w∧OldsAt bA bB S2 OA SB c w∧PairsAt (Dt c) w (.slice A La.length cp) La
theorem zj3 {S2:List (Nat×List KV)} (h:SnW w0 d tp bA bB La La N k SL S2 w) (hk3:k≤900) :
 Calls Tryz.prog 21 #[.pointer (some ⟨tp,0,none⟩),.slice none 0 0,.slice none 0 0,.int .i64 999] w fun e w'=>∃A cp,e=.returned (.tuple #[.slice A La.length cp,.int .i64 0])∧Hid (SnR w0 d tp bA bB La N k SL S2 A cp w'):=by
 obtain⟨c,OA,SB,a,o⟩:=h
 refine(zis a hk3).mono ?_
 rintro e w' ⟨A,cp,rfl,H⟩
 obtain⟨f,a',p⟩:=H.out
 exact⟨A,cp,rfl,zhd ⟨c,OA,SB,a',o.fr0 f,p⟩⟩
theorem zj4 {S2:List (Nat×List KV)} {A:Option Addr} {cp:Nat} (h:SnR w0 d tp bA bB La N k SL S2 A cp w) (h3:SL.length≤3) :
 Calls Tryz.prog 29 #[.pointer (some ⟨tp,0,none⟩)] w fun e w'=>∃sp,e=.returned (.tuple #[.pointer (some ⟨sp,0,none⟩),.int .i64 0])∧Hid (SnR w0 d tp bA bB La N k (SL++[(sp,La)]) S2 A cp w'):=by
 obtain⟨c,OA,SB,a,o,p⟩:=h
 refine(zir a h3).mono ?_
 rintro e w' ⟨sp,rfl,H⟩
 obtain⟨c',a',st⟩:=H.out
 exact⟨sp,rfl,zhd ⟨c',OA,SB,a',o.step st,st.pairs p⟩⟩
theorem SnR.add {A:Option Addr} {cp sp n:Nat} (h:SnR w0 d tp bA bB La N k (SL++[(sp,La)]) SL A cp w) (hn:SL.length=n) (h4:n<4) (hne:bA≠bB) :
 SnW w0 d tp bA bB La La N k (SL++[(sp,La)]) (SL++[(sp,La)]) ((w.setCell ⟨bA,n,none⟩ (.slice A La.length cp)).setCell ⟨bB,n,none⟩ (.pointer (some ⟨sp,0,none⟩))):=by
 obtain⟨c,OA,SB,a,o,p⟩:=h
 obtain⟨OA',SB',o'⟩:=o.add (sp:=sp) hn h4 p hne
 refine⟨c,OA',SB',a.fr7 (C:=fun b=>b=bA∨b=bB) (((Fr.refl (fun b=>b=bA∨b=bB) w).setCell (p:=⟨bA,n,none⟩) (.inr (.inl rfl)) (.slice A La.length cp)).setCell (p:=⟨bB,n,none⟩) (.inr (.inr rfl)) (.pointer (some ⟨sp,0,none⟩))) (fun b e=>?_),o'⟩
 rcases e with e|e
 · rw[e];exact o.a.2
 · rw[e];exact o.b.2
theorem zj5 {S2:List (Nat×List KV)} (h:SnW w0 d tp bA bB La Ll N k SL S2 w) (h4:4≤SL.length) :
 Calls Tryz.prog 29 #[.pointer (some ⟨tp,0,none⟩)] w fun e w'=>e=.returned (.tuple #[.pointer none,.int .i64 2])∧Hid (SnW w0 d tp bA bB La Ll N k SL S2 w'):=by
 have h9:=h
 obtain⟨c,OA,SB,a,o⟩:=h
 refine(ziw a h4).mono ?_
 rintro e w' ⟨rfl,f⟩
 exact⟨rfl,zhd (h9.fr0 f)⟩
theorem zj6 {S2:List (Nat×List KV)} (h:SnW w0 d tp bA bB La Ll N k SL S2 w) (h3:SL.length≤3) :
 Calls Tryz.prog 29 #[.pointer (some ⟨tp,0,none⟩)] w fun e w'=>∃sp,e=.returned (.tuple #[.pointer (some ⟨sp,0,none⟩),.int .i64 0])∧Hid (SnW w0 d tp bA bB La Ll N k (SL++[(sp,Ll)]) S2 w'):=by
 obtain⟨c,OA,SB,a,o⟩:=h
 refine(zir a h3).mono ?_
 rintro e w' ⟨sp,rfl,H⟩
 obtain⟨c',a',st⟩:=H.out
 exact⟨sp,rfl,zhd ⟨c',OA,SB,a',o.step st⟩⟩
structure SnX (w0:World) (d tp bA bB:Nat) (La Ll:List KV) (N k:Nat) (SL S2:List (Nat×List KV)) (A Ao:Option Addr) (cp co:Nat) (L:List KV) (w:World):Prop where
 ex:∃c OA SB,SAt w0 898 d tp La Ll N k SL c w∧OldsAt bA bB S2 OA SB c w∧PairsAt (Dt c) w (.slice A L.length cp) L∧PairsAt (Dt c) w (.slice Ao L.length co) L
theorem SnX.same {S2:List (Nat×List KV)} {A Ao:Option Addr} {cp co:Nat} {L:List KV} (h:SnX w0 d tp bA bB La Ll N k SL S2 A Ao cp co L w) :
 Calls Tryz.prog 22 #[.slice A L.length cp,.slice Ao L.length co] w fun e w'=>e=.returned (.bool true)∧Hid (SnW w0 d tp bA bB La Ll N k SL S2 w'):=by
 obtain⟨c,OA,SB,a,o,p,q⟩:=h
 refine(zey p q).mono ?_
 rintro e w' ⟨rfl,f⟩
 exact⟨by rw[decide_eq_true rfl],zhd ⟨c,OA,SB,a.fr0 f,o.fr0 f⟩⟩
theorem zj7 {S2:List (Nat×List KV)} {sp:Nat} {L:List KV} {n:Nat} (h:SnW w0 d tp bA bB La Ll N k SL S2 w) (hm:(sp,L)∈SL) (hj:S2[n]?=some (sp,L)) (hk3:k≤900) :
 Calls Tryz.prog 30 #[.pointer (some ⟨sp,0,none⟩),.slice none 0 0,.slice none 0 0,.int .i64 999] w fun e w'=>∃A cp Ao co,e=.returned (.tuple #[.slice A L.length cp,.int .i64 0])∧w'.cell? ⟨bA,n,none⟩=some (.slice Ao L.length co)∧Hid (SnX w0 d tp bA bB La Ll N k SL S2 A Ao cp co L w'):=by
 obtain⟨c,OA,SB,a,o⟩:=h
 obtain⟨h1,Ao,co,h2,h3⟩:=o.ats n _ hj
 refine(zit a hm hk3).mono ?_
 rintro e w' ⟨A,cp,rfl,H⟩
 obtain⟨f,a',p⟩:=H.out
 have o':=o.fr0 f
 exact⟨A,cp,Ao,co,rfl,z2g o'.a.1 n h2,zhd ⟨c,OA,SB,a',o',p,h3.fr0 f⟩⟩
theorem zj8 {S2:List (Nat×List KV)} {p:Nat×List KV} {rest:List (Nat×List KV)} (h:SnW w0 d tp bA bB La Ll N k (p::rest) S2 w) :
 Calls Tryz.prog 31 #[.pointer (some ⟨p.1,0,none⟩)] w fun e w'=>e=.returned (.tuple #[])∧Hid (SnW w0 d tp bA bB La Ll N k rest S2 w'):=by
 obtain⟨c,OA,SB,a,o⟩:=h
 refine(ziu (sp:=p.1) (L:=p.2) a (by simp)).mono ?_
 rintro e w' ⟨rfl,H⟩
 obtain⟨c',a',st,_⟩:=H.out
 rw[zix a.sps] at a'
 exact⟨rfl,zhd ⟨c',OA,SB,a',o.step st⟩⟩
theorem SnW.place {S2:List (Nat×List KV)} {sp:Nat} {L:List KV} {n:Nat} (h:SnW w0 d tp bA bB La Ll N k SL S2 w) (hj:S2[n]?=some (sp,L)):w.cell? ⟨bB,n,none⟩=some (.pointer (some ⟨sp,0,none⟩)):=by
 obtain⟨c,OA,SB,a,o⟩:=h
 obtain⟨h1,Ao,co,h2,h3⟩:=o.ats n _ hj
 exact z2g o.b.1 n h1
theorem SnW.told {S2:List (Nat×List KV)} (h:SnW w0 d tp bA bB La Ll N k SL S2 w):Calls Tryz.prog 14 #[] w fun e w'=>e=.returned (.bool true)∧Fr C0 w w':=by
 obtain⟨c,OA,SB,a,o⟩:=h
 exact zfk a.cl
end
end Go.Proofs.YtcmicdcikechkaaGreat
