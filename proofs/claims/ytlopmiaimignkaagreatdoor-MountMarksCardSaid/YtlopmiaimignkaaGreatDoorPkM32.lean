/-
  PROVED HERE: parts of a law's walk, each under the conditions that its statement names.
-/
import Derived.Test.YtlopmiaimignkaaGreatDoorPkM30
import Derived.Test.YtlopmiaimignkaaGreatDoorPkM31
set_option maxRecDepth 100000
set_option maxHeartbeats 8000000
namespace Go.Proofs.YtlopmiaimignkaaGreatDoor
open Go.Proofs.Tryz
open Go.RowKit
variable{S a b id:List UInt8}{i k m n x:Nat}{w:World}{D:Nat->Prop}{A:Option Addr}{c:Col}{I:fe}{T:dX}{p:eZ}
def lr(k:Nat)(id:List UInt8)(gen:Nat):List UInt8:=eG ((k/4:Nat):Int) (jZ id (gen:Int))
def fu(k:Nat)(id:List UInt8):List UInt8:=fc k id++(lr k id 2++(lr k id 1++List.replicate ((k-1-2*(k/4))*128) 0))
theorem qn(ha:a.length=m*128)(hx:x<m):iz (a++b) x=iz a x:=by
 unfold iz
 rw[List.drop_append_of_le_length zo,List.take_append_of_le_length (by rw[List.length_drop];omega)]
theorem oP(ha:a.length=m*128)(hx:m<=x):iz (a++b) x=iz b (x-m):=by
 unfold iz
 rw[List.drop_append,List.drop_eq_nil_of_le zo,List.nil_append,ha,show x*128-m*128=(x-m)*128 from by omega]
theorem uX{y:Nat}(hx:x<n)(hy:y<m):iz (List.replicate (n*128) 0) x=iz (List.replicate (m*128) 0) y:=by
 unfold iz
 rw[List.drop_replicate,List.drop_replicate,List.take_replicate,List.take_replicate,show min 128 (n*128-x*128)=128 from by omega,show min 128 (m*128-y*128)=128 from by omega]
theorem fF{gen:Nat}(hk:64<=k)(h1:1<=gen)(h2:gen<=2):(lr k id gen).length=k/4*128:=by
 have h:=nX (id:=id) (p:=k/4) (g:=0) (gen:=gen) h1 h2 zo
 exact mJ h.1.head (by have:=h.2.1;omega)
theorem lV(hk:64<=k)(hid:id.length=16):(fu k id).length=k*128:=by
 unfold fu
 rw[zL,zL,zL,gl hid,fF hk Zd Zd,fF hk Zd Zd,List.length_replicate]
 omega
theorem yZ{M:gM}(hk:64<=k)(hid:id.length=16)(hi:i<k):kx M k id 2 i=some (iz (fu k id) i):=by
 have hs:(fc (k:Int) id).length=1*128:=gl hid
 have h2:=fF (id:=id) (gen:=2) hk Zd Zd
 have h1:=fF (id:=id) (gen:=1) hk Zd Zd
 have e1:(((0+1:Nat):Int)%2).toNat=1:=by decide
 have e2:(((1+1:Nat):Int)%2).toNat=0:=by decide
 have hd:kx M k id 2=gO (gO (gO (gO M 0 1 (fc k id)) 1 (k-1) (List.replicate ((k-1)*128) 0)) (1+1*(k/4)) (k/4) (lr k id 1)) (1+0*(k/4)) (k/4) (lr k id 2):=rfl
 rw[hd]
 unfold gO fu
 by_cases a0:i=0
 ·subst a0
  rw[if_neg zo,if_neg zo,if_neg zo,if_pos zo,qn hs zo]
  rfl
 rw[oP hs zo]
 by_cases a:i<1+k/4
 ·rw[if_pos zo,qn h2 zo]
  congr 2
  omega
 rw[if_neg zo,oP h2 zo]
 by_cases b:i<1+2*(k/4)
 ·rw[if_pos zo,qn h1 zo]
  congr 2
  omega
 rw[if_neg zo,if_pos zo,oP h1 zo]
 congr 1
 exact uX zo zo
theorem y_{M:gM}(hb:b.length=k*128)(hS:S.length=k*128)(h:∀i,i<k->M (i:Nat)=some (iz b i)):lN S M=b:=by
 apply List.ext_getElem?
 intro j
 unfold lN iv
 rw[List.getElem?_mapIdx]
 by_cases hj:j<k*128
 ·rw[List.getElem?_eq_getElem (show j<S.length by omega),List.getElem?_eq_getElem (show j<b.length by omega),h (j/128) zo]
  simp only[Option.map_some,if_true]
  congr 1
  unfold iz
  rw[List.getD_eq_getElem?_getD,List.getElem?_take,if_pos zo,List.getElem?_drop,show j/128*128+j%128=j from by omega,List.getElem?_eq_getElem (show j<b.length by omega)]
  rfl
 rw[List.getElem?_eq_none zo,List.getElem?_eq_none zo]
 rfl
theorem yY{M:gM}(hk:64<=k)(hid:id.length=16)(hS:S.length=k*128):lN S (kx M k id 2)=fu k id :=
 y_ (lV hk hid) hS fun _ hi=>yZ hk hid hi
theorem Bz{M:gM}(hk:64<=k)(hS:S.length=k*128)(hM:∀(i:Nat) b,M i=some b->i*128+128<=S.length):∀(i:Nat) b,kx M k id 2 i=some b->i*128+128<=S.length:=by
 intro i b h
 by_cases hi:i<k
 ·omega
 have e1:(((0+1:Nat):Int)%2).toNat=1:=by decide
 have e2:(((1+1:Nat):Int)%2).toNat=0:=by decide
 have hd:kx M k id 2=gO (gO (gO (gO M 0 1 (fc k id)) 1 (k-1) (List.replicate ((k-1)*128) 0)) (1+1*(k/4)) (k/4) (lr k id 1)) (1+0*(k/4)) (k/4) (lr k id 2):=rfl
 rw[hd] at h
 unfold gO at h
 rw[if_neg zo,if_neg zo,if_neg zo,if_neg zo] at h
 exact hM i b h
theorem Be{q:g9}{M:gM}{wr0:Int}(h:fj w D q S M n wr0)(hk:S.length=k*128)(hk0:64<=k)(hk1:k<=1000)(hD:∀b,w.heap.size<=b->D b)(hn:n<=100000){D1:Nat->Prop}{c:Nat}(hM:∀(i:Nat) b,M i=some b->i*128+128<=S.length)(hid:Bs w D1 A 16 id)(hD1:∀b,D1 b->b≠q.bd/\b≠q.bm)(hc:16<=c):
  Calls prog 18 #[.pointer (some ⟨q.bd,0,none⟩),.slice A 16 c] w fun e w'=>e=.returned (.int .i64 0)/\b_ (fun j=>j≠q.bd/\j≠q.bs/\j≠q.bm) w w'/\∃wr',fj w' D q (fu k id) gM.no 0 wr':=by
 have hf:=yY (M:=M) (S:=S) (id:=id) hk0 hid.len hk
 have:=yy h hk hk0 hk1 hD hn (Bz hk0 hk hM) hid hD1 hc
 rw[hf] at this
 exact this
theorem th(h:a.length=n):(a++b).take n=a:=by
 rw[<- h,List.take_left]
theorem kO(h:a.length=n)(hm:n<=m):(a++b).drop m=b.drop (m-n):=by
 rw[List.drop_append,List.drop_eq_nil_of_le zo,List.nil_append,h]
theorem tg(h:a.length=n)(hm:n=m):(a++b).drop m=b:=by
 rw[kO h zo,hm,Nat.sub_self];rfl
theorem vM(h0:64<=k)(h1:k<=4096)(hid:id.length=16):jC ((fu k id).take 128)=some (k,id):=by
 unfold fu
 rw[th (gl hid)]
 exact uJ h0 h1 hid
theorem oy:sO dV:=C4 lO Zd rfl ko CY De (by rw[lY];decide)
theorem BC(h0:64<=k)(hid:id.length=16):nO (fu k id) (k/4) 0=lr k id 2:=by
 have hs:(fc (k:Int) id).length=128:=gl hid
 have h2:=fF (id:=id) (gen:=2) h0 Zd Zd
 unfold nO fu
 rw[tg hs zo,th h2]
theorem BA(h0:64<=k)(hid:id.length=16):nO (fu k id) (k/4) 1=lr k id 1:=by
 have hs:(fc (k:Int) id).length=128:=gl hid
 have h2:=fF (id:=id) (gen:=2) h0 Zd Zd
 have h1:=fF (id:=id) (gen:=1) h0 Zd Zd
 unfold nO fu
 rw[kO hs zo,tg h2 zo,th h1]
theorem Cr(h0:64<=k)(hid:id.length=16)(g:Nat):mQ (fu k id) (k/4) g 0 (jZ id 2) dV:=by
 have h:=nX (id:=id) (p:=k/4) (g:=g) (gen:=2) Zd Zd zo
 exact⟨h.1,by have e:(jZ id 2).data.length=51:=h.2.2;omega,BC h0 hid,rfl,oy⟩
theorem Cq(h0:64<=k)(hid:id.length=16)(g:Nat):mQ (fu k id) (k/4) g 1 (jZ id 1) dV:=by
 have h:=nX (id:=id) (p:=k/4) (g:=g) (gen:=1) Zd Zd zo
 exact⟨h.1,by have e:(jZ id 1).data.length=51:=h.2.2;omega,BA h0 hid,rfl,oy⟩
theorem He(h0:64<=k)(hid:id.length=16)(i:Nat):(eJ (fu k id) (k/4) i).take 16=List.replicate (min 16 ((k-1-2*(k/4))*128-i*1024)) 0:=by
 have hs:(fc (k:Int) id).length=128:=gl hid
 have h2:=fF (id:=id) (gen:=2) h0 Zd Zd
 have h1:=fF (id:=id) (gen:=1) h0 Zd Zd
 unfold eJ fu gG
 rw[kO hs zo,kO h2 zo,kO h1 zo,List.drop_replicate,List.take_replicate,List.take_replicate]
 congr 1
 omega
theorem ug(h0:64<=k)(hid:id.length=16)(hi:i<(k-1-2*(k/4))/8):(ev (eJ (fu k id) (k/4) i)).2.2≠0 :=
 vv _ (by rw[He h0 hid,Nat.min_eq_left zo])
theorem D'(h0:64<=k)(hid:id.length=16)(nx:Int)(hd:List UInt8):jp (fu k id) (k/4) ((k-1-2*(k/4))/8-0) 0 nx hd=[]:=by
 obtain⟨g,hg⟩:=zx ((k-1-2*(k/4))/8)
 rw[<- hg,Nat.sub_zero]
 rcases g with _|g
 ·rfl
 unfold jp
 rw[if_neg fun h=>ug h0 hid (i:=0) zo h.1]
theorem D0:(prog.info? 250).map (fun i=>(i.zero.map fun z=>z.cells.size,i.size,i.bytes))=some (some 3,3,40):=zk
theorem pY{bs:Nat}{ns:lw}(h:iJ w c i bs ns)(hn:ns.list.length<=1000000)(j:Nat):Calls prog 31 #[.pointer (some ⟨bs,0,none⟩)] w (we w c j ns):=by
 have hlt:=h.lt
 obtain⟨-,L,s,A,ca,n,h1,x,y,G,hA,B⟩:=h
 have aa:n.length=ns.list.length*3:=hA.1
 have o:∀u∈n,u.oneCell'=true:=by
  intro u P
  obtain⟨k,hk,rfl⟩:=List.getElem_of_mem P
  obtain⟨A',c',b',t,l,m,_⟩:=B (k/3) zo
  have h3:k%3=0\/k%3=1\/k%3=2:=by omega
  have hg:n[k]?=some n[k]:=List.getElem?_eq_getElem hk
  rcases h3 with h3|h3|h3
  ·rw[show k/3*3=k from by omega,hg] at t;injection t with t;rw[t];rfl
  ·rw[show k/3*3+1=k from by omega,hg] at l;injection l with l;rw[l];rfl
  rw[show k/3*3+2=k from by omega,hg] at m;injection m with m;rw[m];rfl
 have C:=J3 G hA B
 have H:=J2 x y
 have c0:∀W,New w.drew W->W.cell? ⟨bs,0,none⟩=some (.int .i64 ns.next):=fun W p=>p.Qb (a_ (w:=w.drew) h1 (k:=0) rfl) trivial
 have c1:∀W,New w.drew W->W.cell? ⟨bs,1,none⟩=some (.slice L ns.last.length s):=fun W p=>p.Qb (a_ (w:=w.drew) h1 (k:=1) rfl) trivial
 have c2:∀W,New w.drew W->W.cell? ⟨bs,2,none⟩=some (.slice A ns.list.length ca):=fun W p=>p.Qb (a_ (w:=w.drew) h1 (k:=2) rfl) trivial
 clear G hA B x y h1
 go_in
 go_upto_region 1 with fail
 refine eu (New w.drew) zk ?_
 have a:New w.drew w.drew:=zN _
 refine c_ 0 a ?_
 refine c_ 1 a ?_
 refine c_ 2 a ?_
 refine c_ 3 a ?_
 refine c_ 4 a ?_
 refine c_ 5 a ?_
 refine c_ 6 a ?_
 refine c_ 7 a ?_
 refine c_ 9 a ?_
 refine c_ 10 a ?_
 refine c_ 11 a ?_
 refine c_ 12 a ?_
 have q:=(zN w.drew).alloc (.cells #[] 250)
 obtain⟨gg,d,Q⟩:=oO w.drew (base:=w.heap.size) zr 250 (size:=3) Zd
 injection d with d
 injection d with d
 injection d with d
 subst d
 refine dQ (i:=8) zk rfl rfl (fun K f=>?_)
 go_simp
 go_wp2_with fail
 refine f _ _ q ?_
 clear f K
 try simp only[zy]
 have I:w.heap.size<=(w.drew.alloc (.cells #[] 250)).heap.size:=q.size
 obtain⟨R,z,l,m,S,T,U⟩:=fY D0
 refine dQ (i:=13) zk rfl rfl (fun K f=>?_)
 refine kp (w.drew.alloc (.cells #[] 250)) _ _ 162 rfl w.heap.size 250 R z 3 40 underlying162 l m S T U Zd _ rfl Q _ A ns.list.length ca _ rfl (C.2.1.drew.new q) o (by unfold maxLen;omega) zo I ?_
 intro D E e J M
 refine f _ _ (q.new M) ?_
 clear f K
 try simp only[zy]
 have v:=q.new M
 have F:=zh J
 refine c_ 14 v ?_
 have g:=(zN e).alloc (.cells #[.int .i64 ns.next,.slice L ns.last.length s,.slice D ns.list.length E] 164)
 have V:=heap_alloc_new e (.cells #[.int .i64 ns.next,.slice L ns.last.length s,.slice D ns.list.length E] 164)
 clear J
 refine dQ (i:=15) zk rfl rfl (fun K f=>?_)
 go_simp
 go_wp2_with fail
 refine f _ _ (v.new g) ?_
 clear f K
 try simp only[zy]
 refine c_ 16 (v.new g) ?_
 refine wpAnyH_done zk ?_ _
 go_wp2
 go_ret
 have r:New w e:=b_.new (b_.drew (zN w)) v
 have hz:w.heap.size<=e.heap.size:=r.size
 have e3:=c.Qg w fun b=>if b=e.heap.size then j else 0
 have N:∀b,w.heap.size<=b->b<e.heap.size->c.on w.heap.size (fun b=>if b=e.heap.size then j else 0) b=0:=fun b hb hn=>by rw[c.Qf _ hb,if_neg zo]
 refine⟨e.heap.size,c.on w.heap.size fun b=>if b=e.heap.size then j else 0,rfl,r.new g,hz,e3,by rw[c.Qf _ hz,if_pos rfl],L,s,D,E,n,V,H.1,⟨ew F.out,eh F.out⟩,jR C.1 (r.new g) e3 fun _ _ _=>zt,?_,fun k hk=>?_⟩
 ·exact Row.new ((Row.Qc F.out).imp fun b hb hd=>N b hd hb) g
 obtain⟨A1,O,X,g1,Y,g3,g4,Z,g6⟩:=C.2.2 k hk
 exact⟨A1,O,X,g1,Y,g3,g4,jR Z (r.new g) e3 fun _ _ _=>zt,g6.keep (r.new g) e3 trivial fun _ _ _=>zt⟩
theorem ej.len{bs:List UInt8}{w':World}{e:Ending}(h:ej bs w e w')(hm:bs.length=m):(∃A' c',e=.returned (.slice A' m c')/\fy w' w.heap.size 5 A' m c' bs)/\New w w':=by
 subst hm;exact h
theorem Eb(D:Nat->Prop)(A:Option Addr)(n c:Nat)(bs:List UInt8)(b:Bool)(w:World)(hB:Bs w D A n bs)(hn:n<=1099511627776):
  Calls prog 246 #[.slice A n c,.bool b] w (ej (bs++iH b) w):=by
 cases b
 ·have f:=zh<|pp D A n c bs 0 w hB hn
  clear hB
  go_in
  go_wp2_with fail
  refine f.mono ?_
  rintro e g⟨⟨h,i,rfl,a⟩,hk⟩
  have d:=J2 a hk
  generalize (bs++beI 1 0).length=L at *
  clear a hk
  go_wp2
  go_ret
  exact ej.mk' rfl d.1 d.2
 have f:=zh<|pp D A n c bs 1 w hB hn
 clear hB
 go_in
 go_wp2_with fail
 refine f.mono ?_
 rintro e g⟨⟨h,i,rfl,a⟩,hk⟩
 have d:=J2 a hk
 generalize (bs++beI 1 1).length=L at *
 clear a hk
 go_wp2
 go_ret
 exact ej.mk' rfl d.1 d.2
theorem AJ(id:Int)(n:i')(ht:0<=n.till/\n.till<=18446744073709551615)(w:World):
  Calls prog 163 #[.agg #[.int .i64 id,.int .i64 n.kind,.int .i64 n.links,.int .i64 n.size,.int .u64 n.till,.bool n.shut]] w (ej (eY id n) w):=by
 obtain⟨r,s,t,u,v⟩:=n
 dsimp only at *
 have P:=(zN w).alloc (.cells #[.int .i64 id,.int .i64 r,.int .i64 s,.int .i64 t,.int .u64 u,.bool v] 53)
 have H:=heap_alloc_new w (.cells #[.int .i64 id,.int .i64 r,.int .i64 s,.int .i64 t,.int .u64 u,.bool v] 53)
 go_in
 go_upto_region 1 with fail
 generalize w.alloc (.cells #[.int .i64 id,.int .i64 r,.int .i64 s,.int .i64 t,.int .u64 u,.bool v] 53)=f at *
 obtain⟨g,hg⟩:=zx (w.heap.size)
 rw[<- hg] at H ⊢
 have E:=zh H
 have G:=zh P
 clear P H hg
 have h:∀W,New f W->W.cell? ⟨g,0,none⟩=some (.int .i64 id):=fun W a=>a.Qb (a_ E.out (k:=0) rfl) trivial
 have j:∀W,New f W->W.cell? ⟨g,1,none⟩=some (.int .i64 r):=fun W a=>a.Qb (a_ E.out (k:=1) rfl) trivial
 have l:∀W,New f W->W.cell? ⟨g,2,none⟩=some (.int .i64 s):=fun W a=>a.Qb (a_ E.out (k:=2) rfl) trivial
 refine eL zk ?_
 have b:New f f.drew:=(zN f).drew
 replace h:=fun W (a:New f.drew W)=>h W (b_.new b a)
 replace j:=fun W (a:New f.drew W)=>j W (b_.new b a)
 replace l:=fun W (a:New f.drew W)=>l W (b_.new b a)
 refine cL 0 ?_
 refine cL 1 ?_
 refine cL 3 ?_
 refine cL 4 ?_
 refine cL 6 ?_
 refine cL 7 ?_
 refine d_ (i:=2) zk rfl rfl (fun K c=>?_)
 go_simp
 refine(jG (fun _=>True) none 0 0 [] id _ (Row.nil _ _ _ _) Zd).mono ?_
 rintro e I h2;obtain⟨⟨Z,c2,rfl,Q⟩,z⟩:=ej.len h2 (m:=2) (by simp[dL])
 go_wp2_with fail
 refine c _ _ z ?_
 clear c K
 try simp only[zy]
 replace b:=b_.new b z
 replace h:=fun W (a:New I W)=>h W (b_.new z a)
 replace j:=fun W (a:New I W)=>j W (b_.new z a)
 replace l:=fun W (a:New I W)=>l W (b_.new z a)
 refine d_ (i:=5) zk rfl rfl (fun K c=>?_)
 go_simp
 refine(pp _ Z 2 c2 _ r _ (Row.Qc Q) Zd).mono ?_
 rintro e J h3;obtain⟨⟨A3,c3,rfl,R⟩,A⟩:=ej.len h3 (m:=3) (by simp[dL])
 go_wp2_with fail
 refine c _ _ A ?_
 clear c K
 try simp only[zy]
 replace b:=b_.new b A
 replace h:=fun W (a:New J W)=>h W (b_.new A a)
 replace j:=fun W (a:New J W)=>j W (b_.new A a)
 replace l:=fun W (a:New J W)=>l W (b_.new A a)
 refine d_ (i:=8) zk rfl rfl (fun K c=>?_)
 go_simp
 refine(jG _ A3 3 c3 _ s _ (Row.Qc R) Zd).mono ?_
 rintro e d L;obtain⟨⟨A4,c4,rfl,S⟩,B⟩:=ej.len L (m:=5) (by simp[dL])
 go_wp2_with fail
 refine c _ _ B ?_
 clear c K
 try simp only[zy]
 replace b:=b_.new b B
 replace h:=fun W (a:New d W)=>h W (b_.new B a)
 replace j:=fun W (a:New d W)=>j W (b_.new B a)
 replace l:=fun W (a:New d W)=>l W (b_.new B a)
 refine cL 9 ?_
 refine wpAnyH_done zk ?_ _
 have M:=zh b
 have O4:=zh S
 clear Q R S z A B h2 h3 L b h j l
 go_upto_region 2 with fail
 have D:=zh<|M.Qa E.out zt
 have o:∀W,New d W->W.cell? ⟨g,3,none⟩=some (.int .i64 t):=fun W a=>a.Qb (a_ D.out (k:=3) rfl) trivial
 have p:∀W,New d W->W.cell? ⟨g,4,none⟩=some (.int .u64 u):=fun W a=>a.Qb (a_ D.out (k:=4) rfl) trivial
 have q:∀W,New d W->W.cell? ⟨g,5,none⟩=some (.bool v):=fun W a=>a.Qb (a_ D.out (k:=5) rfl) trivial
 refine eL zk ?_
 have b:New d d.drew:=(zN d).drew
 replace o:=fun W (a:New d.drew W)=>o W (b_.new b a)
 replace p:=fun W (a:New d.drew W)=>p W (b_.new b a)
 replace q:=fun W (a:New d.drew W)=>q W (b_.new b a)
 refine cL 0 ?_
 refine cL 1 ?_
 refine cL 2 ?_
 refine cL 4 ?_
 refine cL 5 ?_
 refine cL 7 ?_
 refine cL 8 ?_
 refine d_ (i:=3) zk rfl rfl (fun K c=>?_)
 go_simp
 refine(jG _ A4 5 c4 _ t _ ((Row.Qc O4.out).drew) Zd).mono ?_
 rintro e N h5;obtain⟨⟨A5,c5,rfl,T⟩,x⟩:=ej.len h5 (m:=7) (by simp[dL])
 go_wp2_with fail
 refine c _ _ x ?_
 clear c K
 try simp only[zy]
 replace b:=b_.new b x
 replace o:=fun W (a:New N W)=>o W (b_.new x a)
 replace p:=fun W (a:New N W)=>p W (b_.new x a)
 replace q:=fun W (a:New N W)=>q W (b_.new x a)
 refine d_ (i:=6) zk rfl rfl (fun K c=>?_)
 go_simp
 refine(mi _ A5 7 c5 _ u _ (Row.Qc T) Zd ht.1 ht.2).mono ?_
 rintro e F h6;obtain⟨⟨A6,c6,rfl,U⟩,y⟩:=ej.len h6 (m:=15) (by simp[dL])
 go_wp2_with fail
 refine c _ _ y ?_
 clear c K
 try simp only[zy]
 replace b:=b_.new b y
 replace o:=fun W (a:New F W)=>o W (b_.new y a)
 replace p:=fun W (a:New F W)=>p W (b_.new y a)
 replace q:=fun W (a:New F W)=>q W (b_.new y a)
 refine d_ (i:=9) zk rfl rfl (fun K c=>?_)
 go_simp
 refine(Eb _ A6 15 c6 _ v _ (Row.Qc U) Zd).mono ?_
 rintro e O h7;obtain⟨⟨A7,c7,rfl,V⟩,C⟩:=ej.len h7 (m:=16) (by simp[dL,iH])
 go_wp2_with fail
 refine c _ _ C ?_
 clear c K
 try simp only[zy]
 replace b:=b_.new b C
 replace o:=fun W (a:New O W)=>o W (b_.new C a)
 replace p:=fun W (a:New O W)=>p W (b_.new C a)
 replace q:=fun W (a:New O W)=>q W (b_.new C a)
 refine cL 10 ?_
 refine wpAnyH_done zk ?_ _
 have hz:w.heap.size<=F.heap.size:=by
  have h1:=G.size
  have h2:=M.size
  have h3:=x.size
  have L:=y.size
  have e0:d.drew.heap.size=d.heap.size:=rfl
  omega
 have X:=zh<|eQ (base:=w.heap.size) V hz
 have Y:=zh<|(G.new M.out).new b
 have hb:[]++beI 2 id++beI 1 r++beI 2 s++beI 2 t++beI 8 u++iH v=eY id ⟨r,s,t,u,v⟩:=by simp[eY]
 rw[hb] at X
 clear h5 h6 h7 T U V x y C b o p q hb hz
 go_wp2
 go_ret
 exact ej.mk' rfl X.out Y.out
def gN(e:List (Int×List UInt8×Int))(id:Int):List (List UInt8×Int):=e.filterMap fun p=>if p.1=id then some p.2 else none
def iD(R:eM)(x:(Int×i')×List UInt8):List UInt8:=dU (eY x.1.1 x.1.2)++dU x.2++beI 2 (gN R.e x.1.1).length++((gN R.e x.1.1).map fP).flatten
def fM(R:eM):List UInt8:=beI 2 R.nodes.length++((R.nodes.zip R.data).map (iD R)).flatten
structure sN (R:eM):Prop where
 few:R.nodes.length<=1000
 same:R.data.length=R.nodes.length
 names:R.e.length<=10000
 till:∀p∈R.nodes,0<=p.2.till/\p.2.till<=18446744073709551615
 data:∀d∈R.data,d.length<=9223372036854775807
 short:∀p∈R.e,p.2.1.length<=9223372036854775807
theorem uh{α:Type}(f:α->List Value)(m:Nat)(hf:∀x,(f x).length=m):∀(l:List α) (k j:Nat) (hk:k<l.length),j<m->((l.map f).flatten)[k*m+j]?=(f l[k])[j]?
 | [],k,j,hk,_=>absurd hk (Nat.not_lt_zero k)
 | x::r,0,j,_,hj=>by
  rw[List.map_cons,List.flatten_cons,Nat.zero_mul,Nat.zero_add,List.getElem?_append_left (by rw[hf];exact hj)]
  rfl
 | x::r,k+1,j,hk,hj=>by
  rw[List.map_cons,List.flatten_cons,List.getElem?_append_right (by rw[hf,Nat.succ_mul];omega),hf,show(k+1)*m+j-m=k*m+j from by rw[Nat.succ_mul];omega,uh f m hf r k j (Nat.lt_of_succ_lt_succ hk) hj]
  rfl
theorem vj(e:List (Int×List UInt8×Int))(id:Int):(gN e id).length<=e.length:=List.length_filterMap_le _ _
theorem EX{R:eM}(h:R.e.length<=10000)(x:(Int×i')×List UInt8):(iD R x).length<=700000000:=by
 unfold iD
 have h1:=eC (eY x.1.1 x.1.2)
 have h2:=eC x.2
 have h3:=iG fP 65539 (gN R.e x.1.1) fun y _=>by unfold fP;rw[zL,dL];have:=eC y.1;omega
 rw[zL,zL,zL,dL]
 have a:=vj R.e x.1.1
 have:(gN R.e x.1.1).length*65539<=10000*65539:=Nat.mul_le_mul_right _ zo
 omega
theorem xV(e:List (Int×List UInt8×Int))(id:Int){j:Nat}(hj:j<e.length):gN (e.take (j+1)) id=gN (e.take j) id++(if e[j].1=id then[e[j].2] else[]):=by
 unfold gN
 rw[List.take_succ_eq_append_getElem hj,List.filterMap_append]
 congr 1
 by_cases h:e[j].1=id
 ·rw[if_pos h];simp[h]
 rw[if_neg h];simp[h]
section
variable {w:World}{c:Col}{i bt:Nat}{R:eM}
theorem Row.rnode{l:List (Int×i')}(h:Row w D A l.length 6 (l.map fo).flatten)(hk:k<l.length):∃g off,A=some ⟨g,off,none⟩/\g<w.heap.size /\
  w.cell? ⟨g,off+k*6,none⟩=some (.int .i64 l[k].1)/\w.cell? ⟨g,off+k*6+1,none⟩=some (.int .i64 l[k].2.kind)/\w.cell? ⟨g,off+k*6+2,none⟩=some (.int .i64 l[k].2.links)/\w.cell? ⟨g,off+k*6+3,none⟩=some (.int .i64 l[k].2.size)/\w.cell? ⟨g,off+k*6+4,none⟩=some (.int .u64 l[k].2.till)/\w.cell? ⟨g,off+k*6+5,none⟩=some (.bool l[k].2.shut):=by
 obtain⟨g,off,hA,_,hl,hc⟩:=h.2 zo
 have hf:=uh fo 6 (fun _=>rfl) l k
 have a:∀j,j<6->∀u,(fo l[k])[j]?=some u->w.cell? ⟨g,off+k*6+j,none⟩=some u:=fun j hj u b=>by rw[Nat.add_assoc];exact hc _ _ ((hf j hk hj).trans b)
 exact⟨g,off,hA,hl,a 0 Zd _ rfl,a 1 Zd _ rfl,a 2 Zd _ rfl,a 3 Zd _ rfl,a 4 Zd _ rfl,a 5 Zd _ rfl⟩
theorem Row.rent{l:List (Int×List UInt8×Int)}(h:Row w D A l.length 3 (l.map ic).flatten)(hk:k<l.length):∃g off,A=some ⟨g,off,none⟩/\g<w.heap.size /\
  w.cell? ⟨g,off+k*3,none⟩=some (.int .i64 l[k].1)/\w.cell? ⟨g,off+k*3+1,none⟩=some (.string (dR l[k].2.1))/\w.cell? ⟨g,off+k*3+2,none⟩=some (.int .i64 l[k].2.2):=by
 obtain⟨g,off,hA,_,hl,hc⟩:=h.2 zo
 have hf:=uh ic 3 (fun _=>rfl) l k
 have a:∀j,j<3->∀u,(ic l[k])[j]?=some u->w.cell? ⟨g,off+k*3+j,none⟩=some u:=fun j hj u b=>by rw[Nat.add_assoc];exact hc _ _ ((hf j hk hj).trans b)
 exact⟨g,off,hA,hl,a 0 Zd _ rfl,a 1 Zd _ rfl,a 2 Zd _ rfl⟩
theorem tp(h:ey w c i bt R)(hO:sN R):Calls prog 69 #[.pointer (some ⟨bt,0,none⟩)] w (ej (fM R) w):=by
 have hlt:=h.lt
 obtain⟨-,A,ca,B,cb,E,ce,h1,a7,ah,a8,hN,hB,hE⟩:=h
 have HO:=zh hO
 have bz:=hO.few
 have c0:∀W,New w W->W.cell? ⟨bt,0,none⟩=some (.slice A R.nodes.length ca):=fun W a=>a.Qb (a_ h1 (k:=0) rfl) trivial
 have c1:∀W,New w W->W.cell? ⟨bt,1,none⟩=some (.slice B R.data.length cb):=fun W a=>a.Qb (a_ h1 (k:=1) rfl) trivial
 have c2:∀W,New w W->W.cell? ⟨bt,2,none⟩=some (.slice E R.e.length ce):=fun W a=>a.Qb (a_ h1 (k:=2) rfl) trivial
 have HC:=J3 c0 c1 c2
 have HR:=J3 hN hB hE
 have y0:=c0 w (zN w)
 clear h1 hN hB hE hO c0 c1 c2 a7 ah a8
 go_in
 go_wp2_with fail
 refine(jG (fun _=>True) none 0 0 [] (R.nodes.length:Int) w (Row.nil _ _ _ _) Zd).mono ?_
 rintro e w1 aK
 obtain⟨⟨A1,d1,rfl,o1⟩,k1⟩:=ej.len aK (m:=2) (by simp[dL])
 have H1:=J2 o1 k1
 clear o1 k1 aK y0
 go_wp2_with fail
 go_loopw [3,4] (fun s3 s4 wx=>∃(n:Nat) (A3:Option Addr) (L3 d3:Nat),s4=.int .i64 (n:Int)/\n<=R.nodes.length/\s3=.slice A3 L3 d3/\New w wx/\fy wx w.heap.size 5 A3 L3 d3 (beI 2 R.nodes.length++(((R.nodes.zip R.data).take n).map (iD R)).flatten)) (fun _ s4 _=>R.nodes.length-(intOf s4).toNat)
 case atStart=>exact⟨0,A1,2,d1,rfl,Nat.zero_le _,rfl,H1.2,by simpa using H1.1⟩
 obtain⟨n,A3,L3,d3,rfl,hn,rfl,Z,ho⟩:=hrel
 have y0:=HC.1 wr Z
 have an:(beI 2 R.nodes.length++(((R.nodes.zip R.data).take n).map (iD R)).flatten).length<=700000000002:=by
  have h1:=iG (iD R) 700000000 ((R.nodes.zip R.data).take n) fun x _=>EX HO.names x
  rw[zL,dL]
  have h2:((R.nodes.zip R.data).take n).length<=1000:=by rw[List.length_take,List.length_zip];omega
  have:((R.nodes.zip R.data).take n).length*700000000<=1000*700000000:=Nat.mul_le_mul_right _ h2
  omega
 obtain⟨v,ad⟩:=zx (beI 2 R.nodes.length++(((R.nodes.zip R.data).take n).map (iD R)).flatten)
 rw[<- ad] at ho an
 have ao:v.length=L3:=by simpa using ho.1
 have z:=J3 Z ho ad
 have ba:=zh ao
 rw[ao] at an
 by_cases ae:n<R.nodes.length
 ·skip
  have bb:(n:Int)<(R.nodes.length:Int):=zo
  have aL:n<R.data.length:=by have:=HO.same;omega
  have bB:(n:Int)<(R.data.length:Int):=zo
  obtain⟨g,off,hA,bC,x0,x1,x2,x3,x4,x5⟩:=(HR.1.new Z).rnode ae
  obtain⟨gd,ap,Ad,cd,bc,dc,ai,aj⟩:=(HR.2.1.new Z).at_ aL
  have aq:=HO.till _ (List.getElem_mem ae)
  have ar:=HO.data _ (List.getElem_mem aL)
  obtain⟨id,au⟩:=zx (R.nodes[n].1)
  obtain⟨nd,af⟩:=zx (R.nodes[n].2)
  obtain⟨da,av⟩:=zx (R.data[n])
  rw[<- au] at x0
  rw[<- af] at x1 x2 x3 x4 x5 aq
  rw[<- av] at dc ai aj ar
  have HZ:Hid ((R.nodes.zip R.data).take (n+1)=(R.nodes.zip R.data).take n++[((id,nd),da)]):=zh (by
   rw[List.take_succ_eq_append_getElem (by rw[List.length_zip];omega),List.getElem_zip,au,af,av])
  obtain⟨dl,aw⟩:=zx (da.length)
  rw[<- aw] at dc ai aj ar
  subst hA bc
  obtain⟨I,J,M,N,O⟩:=nd
  dsimp only at x1 x2 x3 x4 x5 aq
  have P:∀W,New wr W->W.cell? ⟨bt,0,none⟩=some (.slice (some ⟨g,off,none⟩) R.nodes.length ca):=fun W a=>HC.1 W (z.1.new a)
  have Q:∀W,New wr W->W.cell? ⟨bt,1,none⟩=some (.slice (some ⟨gd,ap,none⟩) R.data.length cb):=fun W a=>HC.2.1 W (z.1.new a)
  have z0:∀W,New wr W->W.cell? ⟨g,off+n*6,none⟩=some (.int .i64 id):=fun W a=>a.Qb x0 trivial
  have S:∀W,New wr W->W.cell? ⟨g,off+n*6+1,none⟩=some (.int .i64 I):=fun W a=>a.Qb x1 trivial
  have T:∀W,New wr W->W.cell? ⟨g,off+n*6+2,none⟩=some (.int .i64 J):=fun W a=>a.Qb x2 trivial
  have z3:∀W,New wr W->W.cell? ⟨g,off+n*6+3,none⟩=some (.int .i64 M):=fun W a=>a.Qb x3 trivial
  have z4:∀W,New wr W->W.cell? ⟨g,off+n*6+4,none⟩=some (.int .u64 N):=fun W a=>a.Qb x4 trivial
  have z5:∀W,New wr W->W.cell? ⟨g,off+n*6+5,none⟩=some (.bool O):=fun W a=>a.Qb x5 trivial
  have zd:∀W,New wr W->W.cell? ⟨gd,ap+n,none⟩=some (.slice Ad dl cd):=fun W a=>a.Qb dc trivial
  have bd:=zh z0
  have aM:=J2 aj ai
  clear au af av aw x0 x1 x2 x3 x4 x5 dc aj ai Z ho ad ao
  go_upto_region 5 with fail
  clear y0
  refine eL zk ?_
  have d:New wr wr.drew:=(zN wr).drew
  replace P:=fun W (a:New wr.drew W)=>P W (b_.new d a)
  replace Q:=fun W (a:New wr.drew W)=>Q W (b_.new d a)
  replace z0:=fun W (a:New wr.drew W)=>z0 W (b_.new d a)
  replace S:=fun W (a:New wr.drew W)=>S W (b_.new d a)
  replace T:=fun W (a:New wr.drew W)=>T W (b_.new d a)
  replace z3:=fun W (a:New wr.drew W)=>z3 W (b_.new d a)
  replace z4:=fun W (a:New wr.drew W)=>z4 W (b_.new d a)
  replace z5:=fun W (a:New wr.drew W)=>z5 W (b_.new d a)
  replace zd:=fun W (a:New wr.drew W)=>zd W (b_.new d a)
  refine cL 0 ?_
  refine cL 1 ?_
  refine cL 2 ?_
  refine cL 3 ?_
  refine cL 4 ?_
  refine cL 5 ?_
  refine cL 6 ?_
  refine cL 7 ?_
  refine cL 10 ?_
  refine cL 11 ?_
  refine cL 12 ?_
  refine cL 13 ?_
  refine cL 14 ?_
  refine cL 15 ?_
  refine cL 16 ?_
  refine d_ (i:=8) zk rfl rfl (fun K f=>?_)
  go_simp
  refine(AJ id ⟨I,J,M,N,O⟩ aq _).mono ?_
  rintro e U h2;obtain⟨⟨A2,c2,rfl,o2⟩,l⟩:=ej.len h2 (m:=16) (jX id ⟨I,J,M,N,O⟩)
  go_wp2_with fail
  refine f _ _ l ?_
  clear f K
  try simp only[zy]
  replace d:=b_.new d l
  replace P:=fun W (a:New U W)=>P W (b_.new l a)
  replace Q:=fun W (a:New U W)=>Q W (b_.new l a)
  replace z0:=fun W (a:New U W)=>z0 W (b_.new l a)
  replace S:=fun W (a:New U W)=>S W (b_.new l a)
  replace T:=fun W (a:New U W)=>T W (b_.new l a)
  replace z3:=fun W (a:New U W)=>z3 W (b_.new l a)
  replace z4:=fun W (a:New U W)=>z4 W (b_.new l a)
  replace z5:=fun W (a:New U W)=>z5 W (b_.new l a)
  replace zd:=fun W (a:New U W)=>zd W (b_.new l a)
  have ax:=zh o2
  refine d_ (i:=9) zk rfl rfl (fun K f=>?_)
  go_simp
  refine(mz _ _ A3 A2 L3 d3 16 c2 v _ _ (((Row.Qc z.2.1).drew).new l) (Row.Qc ax.out) zo Zd (ew ax.out)).mono ?_
  rintro e G h3;obtain⟨L4,aa⟩:∃L,(v++dU (eY id ⟨I,J,M,N,O⟩)).length=L:=⟨_,rfl⟩;obtain⟨⟨A4,c4,rfl,o4⟩,p⟩:=ej.len h3 aa;replace aa:=zh aa
  go_wp2_with fail
  refine f _ _ p ?_
  clear f K
  try simp only[zy]
  replace d:=b_.new d p
  replace P:=fun W (a:New G W)=>P W (b_.new p a)
  replace Q:=fun W (a:New G W)=>Q W (b_.new p a)
  replace z0:=fun W (a:New G W)=>z0 W (b_.new p a)
  replace S:=fun W (a:New G W)=>S W (b_.new p a)
  replace T:=fun W (a:New G W)=>T W (b_.new p a)
  replace z3:=fun W (a:New G W)=>z3 W (b_.new p a)
  replace z4:=fun W (a:New G W)=>z4 W (b_.new p a)
  replace z5:=fun W (a:New G W)=>z5 W (b_.new p a)
  replace zd:=fun W (a:New G W)=>zd W (b_.new p a)
  have aN:=zh o4
  have bD:L4<=L3+65537:=by have:=aa.out;have h1:=eC (eY id ⟨I,J,M,N,O⟩);rw[zL,ba.out] at this;omega
  refine d_ (i:=17) zk rfl rfl (fun K f=>?_)
  go_simp
  refine(mz _ _ A4 Ad L4 c4 dl cd _ da _ (Row.Qc aN.out) (((aM.1.drew).new l).new p) zo ar aM.2).mono ?_
  rintro e H h5;obtain⟨L5,ab⟩:∃L,(v++dU (eY id ⟨I,J,M,N,O⟩)++dU da).length=L:=⟨_,rfl⟩;obtain⟨⟨A5,c5,rfl,o5⟩,s⟩:=ej.len h5 ab;replace ab:=zh ab
  go_wp2_with fail
  refine f _ _ s ?_
  clear f K
  try simp only[zy]
  replace d:=b_.new d s
  replace P:=fun W (a:New H W)=>P W (b_.new s a)
  replace Q:=fun W (a:New H W)=>Q W (b_.new s a)
  replace z0:=fun W (a:New H W)=>z0 W (b_.new s a)
  replace S:=fun W (a:New H W)=>S W (b_.new s a)
  replace T:=fun W (a:New H W)=>T W (b_.new s a)
  replace z3:=fun W (a:New H W)=>z3 W (b_.new s a)
  replace z4:=fun W (a:New H W)=>z4 W (b_.new s a)
  replace z5:=fun W (a:New H W)=>z5 W (b_.new s a)
  replace zd:=fun W (a:New H W)=>zd W (b_.new s a)
  refine cL 18 ?_
  refine wpAnyH_done zk ?_ _
  have bE:L5<=L4+65537:=by have:=ab.out;have h1:=eC da;rw[zL,aa.out] at this;omega
  have aO:w.heap.size<=G.heap.size:=by
   have h1:=z.1.size
   have h2:=l.size
   have h4:=p.size
   have e0:wr.drew.heap.size=wr.heap.size:=rfl
   omega
  have be:=zh<|eQ (base:=w.heap.size) o5 aO
  have bf:=zh<|z.1.new d
  have a6:=zh d
  clear o2 o4 o5 ax aN l p s h2 h3 h5 d P Q z0 S T z3 z4 z5 zd aO
  go_wp2_with fail
  generalize wr=w0 at *
  go_loopw [5,6,7] (fun s5 s6 s7 wx=>∃(j:Nat) (A6:Option Addr) (t d6:Nat),s7=.int .i64 (j:Int)/\j<=R.e.length/\s5=.int .i64 ((gN (R.e.take j) id).length:Int)/\s6=.slice A6 t d6/\New H wx/\fy wx w.heap.size 5 A6 t d6 (((gN (R.e.take j) id).map fP).flatten)) (fun _ _ s7 _=>R.e.length-(intOf s7).toNat)
  case atStart=>exact⟨0,none,0,0,rfl,Nat.zero_le _,rfl,rfl,zN _,Own.nil _ _ _ _⟩
  obtain⟨j,A6,t,d6,rfl,hj,rfl,rfl,ay,ak⟩:=hrel
  have az:New w wr:=bf.new ay
  have y2:=HC.2.2 wr az
  have bF:=HO.names
  have ah:(gN (R.e.take j) id).length<=10000:=by have:=vj (R.e.take j) id;have h2:=HO.names;rw[List.length_take] at this;omega
  have bG:t<=655390000:=by
   have h1:=iG fP 65539 (gN (R.e.take j) id) fun y _=>by unfold fP;rw[zL,dL];have:=eC y.1;omega
   have h2:(((gN (R.e.take j) id).map fP).flatten).length=t:=by have h:=ak.1;rw[List.length_map] at h;omega
   have:(gN (R.e.take j) id).length*65539<=10000*65539:=Nat.mul_le_mul_right _ ah
   omega
  obtain⟨aA,ag⟩:=zx ((gN (R.e.take j) id).length)
  obtain⟨p6,aB⟩:=zx (((gN (R.e.take j) id).map fP).flatten)
  rw[<- aB] at ak
  rw[<- ag] at ah ⊢
  have C:=J2 ag aB
  have o:=J3 ay az ak
  clear ag aB ay az ak
  by_cases aC:j<R.e.length
  ·skip
   have bg:(j:Int)<(R.e.length:Int):=zo
   obtain⟨ge,F,bh,bA,e0,e1,e2⟩:=(HR.2.2.new o.2.1).rent aC
   obtain⟨ed,aD⟩:=zx (R.e[j].1)
   obtain⟨V,al⟩:=zx (R.e[j].2.1)
   obtain⟨ek,aE⟩:=zx (R.e[j].2.2)
   rw[<- aD] at e0
   rw[<- al] at e1
   rw[<- aE] at e2
   have HT:=zh<|xV R.e id aC
   have aP:=HO.short _ (List.getElem_mem aC)
   rw[<- al] at aP
   have aQ:R.e[j]=(ed,V,ek):=by rw[aD,al,aE]
   rw[aQ] at HT
   dsimp only at HT
   subst bh
   have q0:∀W,New wr W->W.cell? ⟨bt,0,none⟩=some (.slice (some ⟨g,off,none⟩) R.nodes.length ca):=fun W a=>HC.1 W (o.2.1.new a)
   have q:∀W,New wr W->W.cell? ⟨bt,2,none⟩=some (.slice (some ⟨ge,F,none⟩) R.e.length ce):=fun W a=>HC.2.2 W (o.2.1.new a)
   have qi:∀W,New wr W->W.cell? ⟨g,off+n*6,none⟩=some (.int .i64 id):=fun W a=>bd.out W (b_.new a6.out (o.1.new a))
   have qe:∀W,New wr W->W.cell? ⟨ge,F+j*3,none⟩=some (.int .i64 ed):=fun W a=>a.Qb e0 trivial
   have HE:=J2 e1 e2
   have bi:=zh<|HC.2.2
   clear aD al aE aQ e0 e1 e2
   go_upto_region 11 with fail
   clear y2
   refine eL zk ?_
   have d:New wr wr.drew:=(zN wr).drew
   replace q0:=fun W (a:New wr.drew W)=>q0 W (b_.new d a)
   replace q:=fun W (a:New wr.drew W)=>q W (b_.new d a)
   replace qi:=fun W (a:New wr.drew W)=>qi W (b_.new d a)
   replace qe:=fun W (a:New wr.drew W)=>qe W (b_.new d a)
   refine cL 0 ?_
   refine cL 1 ?_
   refine cL 2 ?_
   refine cL 3 ?_
   refine cL 4 ?_
   refine cL 5 ?_
   refine cL 6 ?_
   refine cL 7 ?_
   refine cL 8 ?_
   refine cL 9 ?_
   refine cL 10 ?_
   refine cL 11 ?_
   refine cL 12 ?_
   refine cL 13 ?_
   refine cL 14 ?_
   refine cL 15 ?_
   refine cL 16 ?_
   refine wpAnyH_done zk ?_ _
   obtain⟨u,aR⟩:=zx (wr.drew)
   rw[<- aR] at d ⊢
   have r:=zh d
   clear aR d q0 q qi qe
   by_cases hq:ed=id
   ·have bj:(ed==id)=true:=by simp[hq]
    rw[if_pos hq] at HT
    obtain⟨bl,wc,aI,aF,kc,aS⟩:=nC V u.drew
    have q:∀W,New u W->W.cell? ⟨bt,2,none⟩=some (.slice (some ⟨ge,F,none⟩) R.e.length ce):=fun W a=>bi.out W (o.2.1.new (r.new a))
    have X:∀W,New u W->W.cell? ⟨ge,F+j*3+1,none⟩=some (.string (dR V)):=fun W a=>(r.new a).Qb HE.1 trivial
    have Y:∀W,New u W->W.cell? ⟨ge,F+j*3+2,none⟩=some (.int .i64 ek):=fun W a=>(r.new a).Qb HE.2 trivial
    have aT:=J2 aS aF
    have bm:=zh<|((Row.Qc o.2.2).new r.out).drew.new kc
    replace hq:=zh hq
    clear aS aF
    go_upto_region 13 with fail
    refine eL zk ?_
    have d:New u u.drew:=(zN u).drew
    replace q:=fun W (a:New u.drew W)=>q W (b_.new d a)
    replace X:=fun W (a:New u.drew W)=>X W (b_.new d a)
    replace Y:=fun W (a:New u.drew W)=>Y W (b_.new d a)
    refine cL 0 ?_
    refine cL 1 ?_
    refine cL 2 ?_
    refine cL 3 ?_
    refine cL 4 ?_
    refine cL 5 ?_
    refine cL 6 ?_
    refine cL 7 ?_
    refine cL 8 ?_
    refine cL 11 ?_
    refine cL 12 ?_
    refine cL 13 ?_
    refine cL 14 ?_
    refine cL 15 ?_
    refine cL 16 ?_
    refine cL 17 ?_
    refine cL 18 ?_
    refine d_ (i:=9) zk rfl rfl (fun K f=>?_)
    go_simp
    go_wp2_with fail
    refine f _ _ kc ?_
    clear f K
    try simp only[zy]
    replace d:=b_.new d kc
    replace q:=fun W (a:New wc W)=>q W (b_.new kc a)
    replace X:=fun W (a:New wc W)=>X W (b_.new kc a)
    replace Y:=fun W (a:New wc W)=>Y W (b_.new kc a)
    clear aI
    refine d_ (i:=10) zk rfl rfl (fun K f=>?_)
    go_simp
    refine(mz _ _ A6 _ t d6 V.length bl p6 V _ bm.out aT.1 zo aP aT.2).mono ?_
    rintro e w7 h7;obtain⟨L7,ac⟩:∃L,(p6++dU V).length=L:=⟨_,rfl⟩;obtain⟨⟨A7,c7,rfl,o7⟩,k7⟩:=ej.len h7 ac;replace ac:=zh ac
    go_wp2_with fail
    refine f _ _ k7 ?_
    clear f K
    try simp only[zy]
    replace d:=b_.new d k7
    replace q:=fun W (a:New w7 W)=>q W (b_.new k7 a)
    replace X:=fun W (a:New w7 W)=>X W (b_.new k7 a)
    replace Y:=fun W (a:New w7 W)=>Y W (b_.new k7 a)
    have aU:=zh o7
    have bH:L7<=t+65537:=by have:=ac.out;have h1:=eC V;have h2:p6.length=t:=(by have h:=o.2.2.1;rw[List.length_map] at h;omega);rw[zL,h2] at this;omega
    refine d_ (i:=19) zk rfl rfl (fun K f=>?_)
    go_simp
    refine(jG _ A7 L7 c7 _ ek _ (Row.Qc aU.out) zo).mono ?_
    rintro e w8 h8;obtain⟨⟨A8,c8,rfl,o8⟩,k8⟩:=ej.len h8 (m:=L7+2) (by rw[zL,ac.out,dL])
    go_wp2_with fail
    refine f _ _ k8 ?_
    clear f K
    try simp only[zy]
    replace d:=b_.new d k8
    replace q:=fun W (a:New w8 W)=>q W (b_.new k8 a)
    replace X:=fun W (a:New w8 W)=>X W (b_.new k8 a)
    replace Y:=fun W (a:New w8 W)=>Y W (b_.new k8 a)
    refine cL 20 ?_
    refine wpAnyH_done zk ?_ _
    have aV:w.heap.size<=w7.heap.size:=by
     have h1:=o.2.1.size
     have h2:=r.size
     have h3:=kc.size
     have h4:=k7.size
     have e0:u.drew.heap.size=u.heap.size:=rfl
     omega
    have HF:=J2 (r.new d) (eQ (base:=w.heap.size) o8 aV)
    clear d o7 o8 aU k7 k8 h7 h8 aV q X Y
    go_wp2
    go_roundw
    case rel =>
     obtain⟨f1,f2⟩:=HF.out
     refine⟨j+1,A8,L7+2,c8,by go_num,zo,?_,rfl,o.1.new f1,?_⟩
     ·rw[HT.out,zL,<- C.1];rfl
     rw[HT.out,List.map_append,List.flatten_append,<- C.2]
     rw[show(p6++(List.map fP [(V,ek)]).flatten)=p6++dU V++beI 2 ek from by simp[fP]]
     exact f2
    simp[intOf];omega
   have bj:(ed==id)=false:=by simp[hq]
   rw[if_neg hq,List.append_nil] at HT
   replace hq:=zh hq
   go_wp2
   go_roundw
   case rel =>
    refine⟨j+1,A6,t,d6,by go_num,zo,?_,rfl,o.1.new r.out,?_⟩
    ·rw[HT.out,<- C.1]
    rw[HT.out,<- C.2];exact Own.Qh o.2.2 r.out
   simp[intOf];omega
  skip
  have bg:¬(j:Int)<(R.e.length:Int):=zo
  have eT:R.e.take j=R.e:=List.take_of_length_le zo
  rw[eT] at C
  go_wp2_with fail
  refine(jG _ A5 L5 c5 _ (aA:Int) wr ((Row.Qc be.out).new o.1) zo).mono ?_
  rintro e w9 h9
  obtain⟨L9,am⟩:∃L,(v++dU (eY id ⟨I,J,M,N,O⟩)++dU da++beI 2 aA).length=L:=⟨_,rfl⟩
  obtain⟨⟨A9,c9,rfl,o9⟩,k9⟩:=ej.len h9 am
  have aW:L9=L5+2:=by rw[<- am,zL,ab.out,dL]
  have bn:L9+t<=140737488355328:=by omega
  have aX:=((Row.Qc o.2.2).new k9)
  have aY:=k9.size
  replace am:=zh am
  replace aW:=zh aW
  have bo:=zh k9
  clear h9 k9 y2
  go_wp2_with (at_builtin;refine fK _ rfl _ _ rfl wr.heap.size A9 L9 c9 _ rfl o9 _ A6 t d6 p6 rfl aX bn aY ?_;intro bp bq bu aZ aG aJ)
  have aH:=(b_.Qe (D:=fun b=>b<wr.heap.size) bo.out).grown aG (fun j hj hd=>absurd hd (by have:=(eW o9 j hj).1;show ¬j<wr.heap.size;omega))
  have a1:w.heap.size<=wr.heap.size:=o.2.1.size
  have f:New w bu:=(b_.Qd (D:=fun b=>b<w.heap.size) (b_.Qe o.2.1) aH (fun i hi _=>Nat.lt_of_lt_of_le hi a1)).Qi (fun i hi=>hi)
  have bx:=J2 f (eQ (base:=w.heap.size) aZ a1)
  clear o9 aZ aG aJ aH f aX aY
  go_roundw
  case rel =>
   obtain⟨f1,f2⟩:=bx.out
   refine⟨n+1,bp,L9+t,bq,by go_num,ae,rfl,f1,?_⟩
   rw[HZ.out,List.map_append,List.flatten_append]
   have e9:v++dU (eY id ⟨I,J,M,N,O⟩)++dU da++beI 2 aA++p6=v++(List.map (iD R) [((id,⟨I,J,M,N,O⟩),da)]).flatten:=by rw[C.1,C.2];simp[iD]
   rw[<- List.append_assoc,<- z.2.2,<- e9]
   exact f2
  simp[intOf];omega
 skip
 have bb:¬(n:Int)<(R.nodes.length:Int):=zo
 go_wp2
 go_ret
 have e1:(R.nodes.zip R.data).take n=R.nodes.zip R.data:=List.take_of_length_le (by rw[List.length_zip];omega)
 have hf:=z.out
 rw[e1] at hf
 have a2:=hf.2.1
 rw[hf.2.2] at a2
 exact ej.mk' rfl a2 hf.1
end
theorem rp{bt:Nat}{R:eM}(h:ey w c i bt R)(hF:m8 R)(hS:∀p∈R.nodes,p.2.shut=true)(j:Nat):Calls prog 30 #[.pointer (some ⟨bt,0,none⟩)] w (rf w c j R):=by
 have m:=zh<|pX h hF j
 have v:=hF.nodes
 obtain⟨-,A,ca,B,H,E,I,h1,-,-,-,r,-,-⟩:=h
 have x:=zh r
 have s:=a_ h1 (k:=0) rfl
 have y:=zh s
 have z:=zh hS
 clear h1 r s hF hS
 go_in
 go_wp2_with fail
 refine m.mono ?_
 rintro e C⟨t,c2,rfl,b,d,f,l⟩
 have o:=J4 b d f l
 clear b d f l m
 go_wp2_with fail
 go_loopw [4] (fun q D=>∃n:Nat,q=.int .i64 (n:Int)/\n<=R.nodes.length/\D=C) (fun q _=>R.nodes.length-(intOf q).toNat)
 case atStart=>exact⟨0,rfl,Nat.zero_le _,rfl⟩
 obtain⟨n,rfl,hn,rfl⟩:=hrel
 have J:=o.1.Qb y.out trivial
 by_cases a:n<R.nodes.length
 ·have u:(n:Int)<(R.nodes.length:Int):=zo
  obtain⟨g,off,hA,G,-,-,-,-,-,F⟩:=(x.new o.1).rnode a
  rw[z.out _ (List.getElem_mem a)] at F
  subst hA
  go_wp2
  go_roundw
  case rel=>exact⟨n+1,by go_num,a,zt⟩
  simp[intOf];omega
 have u:¬(n:Int)<(R.nodes.length:Int):=zo
 go_wp2
 go_ret
 obtain⟨b,d,f,l⟩:=o.out
 exact⟨t,c2,rfl,b,d,f,l⟩
def gw.settled(s:gw):gw:={ s with fd:=fun _=>⟨0,0,[]⟩ }
theorem pF{J:fe}{b:Nat}{s:gw}(h:eR w c I b s)(hF:m8 s.T)(hS:∀p∈s.T.nodes,p.2.shut=true)(hn:s.S.list.length<=1000000)(hJ:J.Ok):Calls prog 9 #[.pointer (some ⟨b,0,none⟩)] w (pu w c J s.settled):=by
 have hlt:=h.lt
 obtain⟨-,-,H,bs,A,ca,h1,h2,h3,-⟩:=h
 have P:∀W,New w.drew W->W.cell? ⟨b,0,none⟩=some (.pointer (some ⟨H,0,none⟩)):=fun W j=>j.Qb (a_ (w:=w.drew) h1 (k:=0) rfl) trivial
 have c1:∀W,New w.drew W->W.cell? ⟨b,1,none⟩=some (.pointer (some ⟨bs,0,none⟩)):=fun W j=>j.Qb (a_ (w:=w.drew) h1 (k:=1) rfl) trivial
 have c2:∀W,New w.drew W->W.cell? ⟨b,2,none⟩=some (.int .u64 s.clock):=fun W j=>j.Qb (a_ (w:=w.drew) h1 (k:=2) rfl) trivial
 have L:=zh<|rp (w:=w.drew) (h2.new (b_.drew (zN w))) hF hS J.t
 have M:=zh h3
 clear h1 h2 h3 hF hS
 go_in
 go_upto_region 1 with fail
 refine eu (b_ (fun _=>True) w.drew) zk ?_
 have a:b_ (fun _=>True) w.drew w.drew:=b_.refl _ _
 refine c_ 0 a ?_
 refine c_ 1 a ?_
 refine c_ 2 a ?_
 refine c_ 3 a ?_
 refine c_ 5 a ?_
 refine c_ 6 a ?_
 refine c_ 7 a ?_
 refine c_ 8 a ?_
 refine c_ 10 a ?_
 refine c_ 11 a ?_
 refine c_ 12 a ?_
 refine c_ 13 a ?_
 refine dQ (i:=4) zk rfl rfl (fun K f=>?_)
 go_simp
 refine L.mono ?_
 rintro e Q⟨l,F,rfl,m,z,u,v⟩;have B:=J4 m z u v;clear z u v
 go_wp2_with fail
 have d:=b_.new a m
 refine f _ _ d ?_
 clear f K
 try simp only[zy]
 replace a:=d
 clear d
 refine dQ (i:=9) zk rfl rfl (fun K f=>?_)
 go_simp
 refine(pY (iJ.keep M.out ((b_.drew (zN w)).new B.1) (show Ext w c F from B.2.2.1) trivial fun _ _ _=>zt) hn J.s).mono ?_
 rintro e g⟨n,C,rfl,q,D,r,x⟩;have N:=J4 q D r x;clear D r x
 go_wp2_with fail
 have d:=b_.new a q
 refine f _ _ d ?_
 clear f K
 try simp only[zy]
 replace a:=d
 clear d
 refine c_ 14 a ?_
 have y:=(zN g).alloc (.cells (gu l n s.settled (fun _=>none) fun _=>0) 80)
 refine dQ (i:=15) zk rfl rfl (fun K f=>?_)
 go_simp
 go_wp2_with fail
 have d:=b_.new a y
 refine f _ _ d ?_
 clear f K
 try simp only[zy]
 replace a:=d
 clear d
 refine c_ 16 a ?_
 refine wpAnyH_done zk ?_ _
 go_wp2
 go_ret
 obtain⟨m,z,u,v⟩:=B.out
 obtain⟨q,D,r,x⟩:=N.out
 have E:New w g:=((b_.drew (zN w)).new m).new q
 have O:=heap_alloc_new g (.cells (gu l n s.settled (fun _=>none) fun _=>0) 80)
 have e3:=C.Qg g fun _=>J.o
 have G:Ext w c F:=u
 exact⟨g.heap.size,C.on g.heap.size fun _=>J.o,rfl,E.new y,E.size,(G.trans r (Nat.le_trans zr m.size)).trans e3 E.size,C.Qf _ zr,hJ,l,n,fun _=>none,fun _=>0,O,((v.keep q r trivial fun _ _ _=>zt).keep y e3 trivial fun _ _ _=>zt),x.keep y e3 trivial fun _ _ _=>zt,fun k hk=>⟨⟨zr,Nat.zero_le _⟩,Row.nil _ _ _ _⟩⟩
def i6(s:uE):List UInt8:=beI 8 s.id++dU s.hash++beI 8 (fM s.T).length++fM s.T
def iA(ns:lw):List UInt8:=beI 8 ns.next++dU ns.last++beI 1 ns.list.length++(ns.list.map i6).flatten
structure zQ (ns:lw):Prop where
 few:ns.list.length<=8
 tree:∀s∈ns.list,sN s.T/\(fM s.T).length<=100000000000
theorem EV{s:uE}(h:(fM s.T).length<=100000000000):(i6 s).length<=100000100000:=by
 unfold i6
 have:=eC s.hash
 rw[zL,zL,zL,dL,dL]
 omega
section
variable {w:World}{c:Col}{i bs:Nat}{ns:lw}
theorem Am(h:iJ w c i bs ns)(hO:zQ ns):Calls prog 71 #[.pointer (some ⟨bs,0,none⟩)] w (ej (iA ns) w):=by
 have hlt:=h.lt
 obtain⟨-,L,cl,A,ca,vs,h1,aj,aC,hL,hA,hV⟩:=h
 have HO:=zh hO
 have aM:=hO.few
 have t:∀W,New w W->W.cell? ⟨bs,0,none⟩=some (.int .i64 ns.next):=fun W a=>a.Qb (a_ h1 (k:=0) rfl) trivial
 have c1:∀W,New w W->W.cell? ⟨bs,1,none⟩=some (.slice L ns.last.length cl):=fun W a=>a.Qb (a_ h1 (k:=1) rfl) trivial
 have c2:∀W,New w W->W.cell? ⟨bs,2,none⟩=some (.slice A ns.list.length ca):=fun W a=>a.Qb (a_ h1 (k:=2) rfl) trivial
 have HC:=J3 t c1 c2
 have HR:=J3 hL hA hV
 have hn:=iU ns.next
 have HE:=zh<|lu 8 ns.next Zd
 have ak:=zh aj
 obtain⟨ln,Y⟩:=zx (ns.last.length)
 rw[<- Y] at c1
 have Z:=zh Y
 have aO:=eC ns.last
 clear h1 hL hA hV hO aj aC Y
 go_in
 go_upto_region 1 with fail
 refine eL zk ?_
 have d:New w w.drew:=(zN w).drew
 replace t:=fun W (a:New w.drew W)=>t W (b_.new d a)
 replace c1:=fun W (a:New w.drew W)=>c1 W (b_.new d a)
 replace c2:=fun W (a:New w.drew W)=>c2 W (b_.new d a)
 refine cL 0 ?_
 refine cL 1 ?_
 refine cL 2 ?_
 refine cL 3 ?_
 refine cL 4 ?_
 refine cL 6 ?_
 refine cL 7 ?_
 refine cL 8 ?_
 refine cL 9 ?_
 refine cL 11 ?_
 refine cL 12 ?_
 refine cL 13 ?_
 refine cL 14 ?_
 refine cL 15 ?_
 refine d_ (i:=5) zk rfl rfl (fun K f=>?_)
 go_simp
 refine(mi (fun _=>True) none 0 0 [] (IntKind.u64.wrap ns.next) _ (Row.nil _ _ _ _) Zd hn.1 hn.2).mono ?_
 rintro e w2 h2;obtain⟨⟨A2,d2,rfl,o2⟩,z⟩:=ej.len h2 (m:=8) (by simp[dL])
 go_wp2_with fail
 refine f _ _ z ?_
 clear f K
 try simp only[zy]
 replace d:=b_.new d z
 replace t:=fun W (a:New w2 W)=>t W (b_.new z a)
 replace c1:=fun W (a:New w2 W)=>c1 W (b_.new z a)
 replace c2:=fun W (a:New w2 W)=>c2 W (b_.new z a)
 rw[HE.out,List.nil_append] at o2
 have al:=zh o2
 refine d_ (i:=10) zk rfl rfl (fun K f=>?_)
 go_simp
 refine(mz _ _ A2 L 8 d2 ln cl _ ns.last _ (Row.Qc al.out) (by rw[Z.out];exact(HR.1.drew).new z) Zd (by have:=ak.out;have:=Z.out;omega) (by have:=ak.out;have:=Z.out;omega)).mono ?_
 rintro e w3 h3;obtain⟨I,B⟩:∃L,(beI 8 ns.next++dU ns.last).length=L:=⟨_,rfl⟩;obtain⟨⟨A3,d3,rfl,o3⟩,J⟩:=ej.len h3 B;replace B:=zh B
 go_wp2_with fail
 refine f _ _ J ?_
 clear f K
 try simp only[zy]
 replace d:=b_.new d J
 replace t:=fun W (a:New w3 W)=>t W (b_.new J a)
 replace c1:=fun W (a:New w3 W)=>c1 W (b_.new J a)
 replace c2:=fun W (a:New w3 W)=>c2 W (b_.new J a)
 have am:=zh o3
 have aP:I<=65545:=by have:=B.out;rw[zL,dL] at this;omega
 refine d_ (i:=16) zk rfl rfl (fun K f=>?_)
 go_simp
 refine(pp _ A3 I d3 _ (ns.list.length:Int) _ (Row.Qc am.out) zo).mono ?_
 rintro e w4 h4;obtain⟨⟨A4,d4,rfl,o4⟩,U⟩:=ej.len h4 (m:=I+1) (by rw[zL,B.out,dL])
 go_wp2_with fail
 refine f _ _ U ?_
 clear f K
 try simp only[zy]
 replace d:=b_.new d U
 replace t:=fun W (a:New w4 W)=>t W (b_.new U a)
 replace c1:=fun W (a:New w4 W)=>c1 W (b_.new U a)
 replace c2:=fun W (a:New w4 W)=>c2 W (b_.new U a)
 refine cL 17 ?_
 refine wpAnyH_done zk ?_ _
 have an:w.heap.size<=w3.heap.size:=by
  have h2:=z.size
  have h4:=J.size
  have e0:w.drew.heap.size=w.heap.size:=rfl
  omega
 have ao:=zh<|eQ (base:=w.heap.size) o4 an
 have aD:=zh d
 clear o2 o3 o4 al am z J U h2 h3 h4 d t c1 c2 an
 obtain⟨v,o⟩:=zx (beI 8 ns.next++dU ns.last++beI 1 ns.list.length)
 rw[<- o] at ao
 have aE:=zh o
 have aQ:v.length<=70000:=by rw[o,zL,zL,dL,dL];omega
 clear o
 go_wp2_with fail
 go_loopw [3,4] (fun s3 s4 wx=>∃(n:Nat) (A3:Option Addr) (I d3:Nat),s4=.int .i64 (n:Int)/\n<=ns.list.length/\s3=.slice A3 I d3/\New w wx/\fy wx w.heap.size 5 A3 I d3 (v++((ns.list.take n).map i6).flatten)) (fun _ s4 _=>ns.list.length-(intOf s4).toNat)
 case atStart=>exact⟨0,A4,I+1,d4,rfl,Nat.zero_le _,rfl,aD.out,by simpa using ao.out⟩
 obtain⟨n,A5,L5,d5,rfl,aR,rfl,aa,ho⟩:=hrel
 have y2:=HC.2.2 wr aa
 have ab:(v++((ns.list.take n).map i6).flatten).length<=800001000000:=by
  have h1:=iG i6 100000100000 (ns.list.take n) fun s hs=>EV (HO.tree s (List.mem_of_mem_take hs)).2
  rw[zL]
  have:(ns.list.take n).length*100000100000<=8*100000100000:=Nat.mul_le_mul_right _ (by rw[List.length_take];omega)
  omega
 obtain⟨C,M⟩:=zx (v++((ns.list.take n).map i6).flatten)
 rw[<- M] at ho ab
 have ac:C.length=L5:=by have h:=ho.1;rw[List.length_map] at h;omega
 rw[ac] at ab
 have ap:=zh ac
 have l:=J3 aa ho M
 clear aa ho M ac
 by_cases x:n<ns.list.length
 ·skip
  have aF:(n:Int)<(ns.list.length:Int):=zo
  obtain⟨Ah,ch,bt,v0,v1,v2,R,S,ad⟩:=HR.2.2 n x
  obtain⟨g,off,hA,_,_,p⟩:=(HR.2.1.new l.1).2 zo
  have E:=HO.tree ns.list[n] (List.getElem_mem x)
  obtain⟨s,hs⟩:=zx (ns.list[n])
  rw[<- hs] at v0 v1 R S ad E
  have x0:=p _ _ v0
  have x1:wr.cell? ⟨g,off+n*3+1,none⟩=some (.slice Ah s.hash.length ch):=by rw[Nat.add_assoc];exact p _ _ v1
  have x2:wr.cell? ⟨g,off+n*3+2,none⟩=some (.pointer (some ⟨bt,0,none⟩)):=by rw[Nat.add_assoc];exact p _ _ v2
  have aq:=zh<|tp (ad.new l.1) E.1
  obtain⟨hl,ae⟩:=zx (s.hash.length)
  rw[<- ae] at x1 R S
  have HS:=J2 hs ae
  have af:=J2 (S.new l.1) R
  have ar:=iU s.id
  have aG:=zh<|lu 8 s.id Zd
  have aS:=eC s.hash
  subst hA
  obtain⟨tb,ag⟩:=zx (fM s.T)
  rw[<- ag] at aq E
  obtain⟨u,F⟩:∃u,tb.length=u:=⟨_,rfl⟩
  have aT:u<=100000000000:=by rw[<- F];exact E.2
  have au:=J2 ag F
  have HX:=J2 x0 x1
  clear hs ae v0 v1 v2 p ad E R S x0 x1 ag
  go_upto_region 5 with fail
  go_wp2_with fail
  refine aq.mono ?_
  rintro e q h5
  obtain⟨⟨At,dt,rfl,ot⟩,k5⟩:=ej.len h5 F
  have aH:=zh ot
  have r:=zh k5
  replace F:=zh F
  have N:∀W,New q W->W.cell? ⟨bs,2,none⟩=some (.slice (some ⟨g,off,none⟩) ns.list.length ca):=fun W a=>HC.2.2 W (l.1.new (r.new a))
  have O:∀W,New q W->W.cell? ⟨g,off+n*3,none⟩=some (.int .i64 s.id):=fun W a=>(r.new a).Qb HX.1 trivial
  have P:∀W,New q W->W.cell? ⟨g,off+n*3+1,none⟩=some (.slice Ah hl ch):=fun W a=>(r.new a).Qb HX.2 trivial
  clear ot k5 h5 x2 y2
  go_upto_region 6 with fail
  refine eL zk ?_
  have d:New q q.drew:=(zN q).drew
  replace N:=fun W (a:New q.drew W)=>N W (b_.new d a)
  replace O:=fun W (a:New q.drew W)=>O W (b_.new d a)
  replace P:=fun W (a:New q.drew W)=>P W (b_.new d a)
  refine cL 0 ?_
  refine cL 1 ?_
  refine cL 2 ?_
  refine cL 3 ?_
  refine cL 4 ?_
  refine cL 5 ?_
  refine cL 6 ?_
  refine cL 7 ?_
  refine cL 8 ?_
  refine cL 9 ?_
  refine cL 11 ?_
  refine cL 12 ?_
  refine cL 13 ?_
  refine cL 14 ?_
  refine cL 15 ?_
  refine cL 16 ?_
  refine cL 17 ?_
  refine cL 18 ?_
  refine d_ (i:=10) zk rfl rfl (fun K f=>?_)
  go_simp
  refine(mi _ A5 L5 d5 C (IntKind.u64.wrap s.id) _ (((Row.Qc l.2.1).new r.out).drew) zo ar.1 ar.2).mono ?_
  rintro e w6 h6;obtain⟨⟨A6,d6,rfl,o6⟩,G⟩:=ej.len h6 (m:=L5+8) (by rw[zL,ap.out,dL])
  go_wp2_with fail
  refine f _ _ G ?_
  clear f K
  try simp only[zy]
  replace d:=b_.new d G
  replace N:=fun W (a:New w6 W)=>N W (b_.new G a)
  replace O:=fun W (a:New w6 W)=>O W (b_.new G a)
  replace P:=fun W (a:New w6 W)=>P W (b_.new G a)
  rw[aG.out] at o6
  have av:=zh o6
  refine d_ (i:=19) zk rfl rfl (fun K f=>?_)
  go_simp
  refine(mz _ _ A6 Ah (L5+8) d6 hl ch _ s.hash _ (Row.Qc av.out) (((af.1.new r.out).drew).new G) zo (by have:=af.2;omega) af.2.1).mono ?_
  rintro e y h7;obtain⟨V,H⟩:∃L,(C++beI 8 s.id++dU s.hash).length=L:=⟨_,rfl⟩;obtain⟨⟨A7,d7,rfl,o7⟩,X⟩:=ej.len h7 H;replace H:=zh H
  go_wp2_with fail
  refine f _ _ X ?_
  clear f K
  try simp only[zy]
  replace d:=b_.new d X
  replace N:=fun W (a:New y W)=>N W (b_.new X a)
  replace O:=fun W (a:New y W)=>O W (b_.new X a)
  replace P:=fun W (a:New y W)=>P W (b_.new X a)
  refine cL 20 ?_
  refine wpAnyH_done zk ?_ _
  have aU:V<=L5+8+65537:=by have:=H.out;rw[zL,zL,ap.out,dL] at this;omega
  have aI:=zh o7
  have aw:=zh d
  have aV:Hid (w.heap.size<=w6.heap.size):=zh (by
   have h1:=l.1.size
   have h2:=r.size
   have h4:=G.size
   have e0:q.drew.heap.size=q.heap.size:=rfl
   omega)
  clear o6 o7 av G X h6 h7 d O P N
  have aN:IntKind.u64.wrap (u:Int)=(u:Int):=by rw[IntKind.wrap_u64];omega
  go_wp2_with fail
  refine(mi _ A7 V d7 _ (u:Int) y (Row.Qc aI.out) zo zo zo).mono ?_
  rintro e w8 h8
  obtain⟨⟨A8,d8,rfl,o8⟩,k8⟩:=ej.len h8 (m:=V+8) (by rw[zL,H.out,dL])
  have aJ:V+8+u<=140737488355328:=by omega
  have ax:=(((Row.Qc aH.out).new aw.out).new k8)
  have ay:=k8.size
  have aK:=zh k8
  clear h8 k8
  go_wp2_with (at_builtin;refine fK _ rfl _ _ rfl y.heap.size A8 (V+8) d8 _ rfl o8 _ At u dt tb rfl ax aJ ay ?_;intro A9 d9 w9 o9 az aB)
  have ah:=(b_.Qe (D:=fun b=>b<y.heap.size) aK.out).grown az (fun j hj hd=>absurd hd (by have:=(eW o8 j hj).1;show ¬j<y.heap.size;omega))
  have Q:New w y:=l.1.new (r.new aw.out)
  have ai:w.heap.size<=y.heap.size:=Q.size
  have f:New w w9:=(b_.Qd (D:=fun b=>b<w.heap.size) (b_.Qe Q) ah (fun i hi _=>Nat.lt_of_lt_of_le hi ai)).Qi (fun i hi=>hi)
  have aL:=J2 f (eQ (base:=w.heap.size) o9 ai)
  clear o8 o9 az aB ah f ax ay Q ai
  go_roundw
  case rel =>
   obtain⟨f1,f2⟩:=aL.out
   refine⟨n+1,A9,V+8+u,d9,by go_num,x,rfl,f1,?_⟩
   have e1:ns.list.take (n+1)=ns.list.take n++[s]:=by rw[List.take_succ_eq_append_getElem x,HS.1]
   have e9:C++beI 8 s.id++dU s.hash++beI 8 u++tb=C++(List.map i6 [s]).flatten:=by rw[<- au.2,au.1];simp[i6]
   rw[e1,List.map_append,List.flatten_append,<- List.append_assoc,<- l.2.2,<- e9]
   exact f2
  simp[intOf];omega
 skip
 have aF:¬(n:Int)<(ns.list.length:Int):=zo
 go_wp2
 go_ret
 have e1:ns.list.take n=ns.list:=List.take_of_length_le zo
 have hf:=l.out
 rw[e1,aE.out] at hf
 have aA:=hf.2.1
 rw[hf.2.2] at aA
 exact ej.mk' rfl aA hf.1
end
def mn(s:gw):List UInt8:=beI 8 s.clock++beI 8 (fM s.T).length++fM s.T++iA s.S
structure uD (s:gw):Prop where
 clock:0<=s.clock/\s.clock<=18446744073709551615
 few:m8 s.T
 tree:sN s.T
 size:(fM s.T).length<=100000000000
 snaps:zQ s.S
 ssize:(iA s.S).length<=900000000000
theorem qA{b:Nat}{s:gw}(h:eR w c I b s)(hO:uD s)(hS:∀p∈s.T.nodes,p.2.shut=true):Calls prog 15 #[.pointer (some ⟨b,0,none⟩)] w (ej (mn s) w):=by
 have hlt:=h.lt
 have P:=zh<|pF (J:=⟨1,2,3⟩) h hO.few hS (by have:=hO.snaps.few;omega) ⟨⟨Zd,Zd,Zd⟩,Zd,Zd,Zd⟩
 obtain⟨-,-,bt,bs,A,ca,h1,h2,h3,-⟩:=h
 have c1:w.cell? ⟨b,1,none⟩=some (.pointer (some ⟨bs,0,none⟩)):=a_ h1 (k:=1) rfl
 have c2:w.cell? ⟨b,2,none⟩=some (.int .u64 s.clock):=a_ h1 (k:=2) rfl
 have HC:=J2 c1 c2
 have H3:=zh h3
 have HO:=zh hO
 have Q:=hO.clock
 obtain⟨tb,v⟩:=zx (fM s.T)
 obtain⟨d,y⟩:∃x,tb.length=x:=⟨_,rfl⟩
 have au:d<=100000000000:=by rw[<- y,v];exact hO.size
 obtain⟨O,z⟩:=zx (iA s.S)
 obtain⟨sn,B⟩:∃x,O.length=x:=⟨_,rfl⟩
 have av:sn<=900000000000:=by rw[<- B,z];exact hO.ssize
 have o:=J2 v y
 have C:=J2 z B
 clear h1 h2 h3 hO hS c1 c2 v y z B
 go_in
 go_wp2_with fail
 refine P.mono ?_
 rintro e w1⟨b1,d1,rfl,k1,z1,x1,ah⟩
 obtain⟨-,-,ai,aw,A1,ax,g1,g2,-,-⟩:=ah
 have y0:w1.cell? ⟨b1,0,none⟩=some (.pointer (some ⟨ai,0,none⟩)):=a_ g1 (k:=0) rfl
 have R:=zh<|tp g2 HO.tree
 have aj:=zh k1
 clear k1 z1 x1 g1 g2 P
 go_wp2_with fail
 refine R.mono ?_
 rintro e w2 g
 rw[show gw.settled s={ s with fd:=fun _=>⟨0,0,[]⟩ } from rfl] at g
 dsimp only at g
 rw[<- o.1] at g
 obtain⟨⟨At,dt,rfl,ot⟩,k2⟩:=ej.len g o.2
 have E:=zh<|aj.new k2
 have ak:=zh ot
 have y2:=E.Qb HC.2 trivial
 clear ot k2 g R y0
 go_wp2_with fail
 refine(mi (fun _=>True) none 0 0 [] s.clock w2 (Row.nil _ _ _ _) Zd Q.1 Q.2).mono ?_
 rintro e w3 U
 obtain⟨⟨A3,d3,rfl,o3⟩,k3⟩:=ej.len U (m:=8) (by simp[dL])
 have F:=zh k3
 have al:=zh o3
 have ar:IntKind.u64.wrap (d:Int)=(d:Int):=by rw[IntKind.wrap_u64];omega
 clear k3 U y2 o3
 go_wp2_with fail
 refine(mi _ A3 8 d3 _ (d:Int) w3 (Row.Qc al.out) Zd zo zo).mono ?_
 rintro e f V
 obtain⟨⟨A4,d4,rfl,r⟩,k4⟩:=ej.len V (m:=16) (by simp[dL])
 have G:=zh<|(E.new F.out).new k4
 have ab:=zh<|(Row.Qc ak.out).new (F.new k4)
 have am:w.heap.size<=w3.heap.size:=(E.new F.out).size
 have an:=zh<|eQ (base:=w.heap.size) r am
 clear V r k4
 go_upto_region 3 with fail
 obtain⟨a,q⟩:=zx (w.heap.size)
 have ao:=zh q
 have r:fy f.drew a 5 A4 16 d4 ([]++beI 8 s.clock++beI 8 d):=by rw[q];exact Own.Qh an.out (b_.drew (zN f))
 have X:a<=f.drew.heap.size:=by rw[q];exact G.size
 have H:b_ (Lo a) w f.drew:=(b_.Qe G.out).drew
 have r1:∀W,b_ (Lo a) f.drew W->W.cell? ⟨b,1,none⟩=some (.pointer (some ⟨bs,0,none⟩)):=fun W hW=>(H.trans hW).Qb HC.1 (by show b<a;omega)
 have ap:Hid (∀W,b_ (Lo a) f.drew W->Calls prog 71 #[.pointer (some ⟨bs,0,none⟩)] W (ej O W)):=zh fun W hW=>by
  rw[C.1]
  exact Am (iJ.keep H3.out (H.trans hW) (Ext.refl _ _) (by have:=iJ.lt H3.out;show bs<a;omega) fun b hb _=>by show b<a;omega) HO.snaps
 have L:([]++beI 8 s.clock++beI 8 d)++tb++O=mn s:=by rw[<- o.2,o.1,C.1];unfold mn;simp
 have ac:=zh L
 have ad:16+d<=140737488355328:=by omega
 have ae:16+d+sn<=140737488355328:=by omega
 clear L H q
 refine eu (b_ (Lo a) f.drew) zk ?_
 have l:b_ (Lo a) f.drew f.drew:=b_.refl _ _
 refine c_ 0 l ?_
 refine c_ 1 l ?_
 refine c_ 3 l ?_
 refine c_ 4 l ?_
 refine c_ 5 l ?_
 refine c_ 6 l ?_
 refine dQ (i:=2) zk rfl rfl (fun K j=>?_)
 refine xm _ _ _ rfl a A4 16 d4 _ rfl r _ At d dt tb rfl ab.drew ad X ?_
 intro A5 d5 w5 o5 Y af
 have t:=l.grown Y (fun k hk hd=>absurd hd (by have:=(eW r k hk).1;show ¬k<a;omega))
 refine j _ _ t ?_
 clear j K
 try simp only[zy]
 refine dQ (i:=7) zk rfl rfl (fun K j=>?_)
 go_simp
 refine(ap.out _ t).mono ?_
 rintro e w6 Z
 obtain⟨⟨A6,d6,rfl,o6⟩,M⟩:=ej.len Z C.2
 go_wp2_with fail
 refine j _ _ (t.new M) ?_
 clear j K
 try simp only[zy]
 have N:=Own.Qh o5 M
 have aq:a<=w6.heap.size:=Nat.le_trans X (t.new M).size
 refine dQ (i:=8) zk rfl rfl (fun K j=>?_)
 refine xm _ _ _ rfl a A5 (16+d) d5 _ rfl N _ A6 sn d6 O rfl (Row.Qc o6) ae aq ?_
 intro A7 d7 w7 u aa ag
 have n:=(t.new M).grown aa (fun k hk hd=>absurd hd (by have:=(eW N k hk).1;show ¬k<a;omega))
 refine j _ _ n ?_
 clear j K
 try simp only[zy]
 refine c_ 9 n ?_
 refine wpAnyH_done zk ?_ _
 rw[ac.out] at u
 have HX:=J2 n u
 clear n u aa ag o5 N Y af t M Z o6 r
 go_wp2
 go_ret
 obtain⟨n,u⟩:=HX.out
 rw[ao.out] at n u
 exact ej.mk' rfl u (((b_.Qe (D:=Lo w.heap.size) G.out).drew.trans n).Qi fun b hb=>hb)
structure B7 (R:eM) (T:dX):Prop where
 nodes:R.nodes=T.map fun p=>(p.1,p.2.n)
 data:R.data=T.map fun p=>p.2.b
 names:∀p∈T,gN R.e p.1=p.2.names
 dirs:∀x∈R.e,∃it,dN T x.1=some it/\it.n.kind=2
structure Gr (r:uE) (s:uB):Prop where
 id:r.id=s.id
 hash:r.hash=s.hash
 tree:B7 r.T s.T
structure pt (r:lw) (s:j_):Prop where
 next:r.next=s.next
 last:r.last=s.last
 len:r.list.length=s.list.length
 each:∀k (h1:k<r.list.length) (h2:k<s.list.length),Gr r.list[k] s.list[k]
theorem B7.bytes{R:eM}(h:B7 R T):fM R=e_ T:=by
 unfold fM e_
 have h1:R.nodes.zip R.data=T.map fun p=>((p.1,p.2.n),p.2.b):=by
  rw[h.nodes,h.data,List.zip_map']
 rw[h1,h.nodes,List.length_map,List.map_map]
 congr 2
 apply List.map_congr_left
 intro p a
 show iD R ((p.1,p.2.n),p.2.b)=iC p
 unfold iD iC
 dsimp only
 rw[h.names p a]
theorem pt.bytes{r:lw}{s:j_}(h:pt r s):iA r=fS s:=by
 unfold iA fS
 rw[h.next,h.last,h.len]
 congr 2
 apply List.ext_getElem
 ·rw[List.length_map,List.length_map,h.len]
 intro k h1 h2
 rw[List.getElem_map,List.getElem_map]
 rw[List.length_map] at h1 h2
 have hs:=h.each k h1 h2
 unfold i6 jx
 rw[hs.id,hs.hash,hs.tree.bytes]
theorem xP:B7 ke dV.T where
 nodes:=rfl
 data:=rfl
 names:=by
  intro p a
  simp[dV] at a
  subst a
  rfl
 dirs:=by intro x b;simp[ke] at b
theorem pE:pt ⟨[],1,[]⟩ lo:=⟨rfl,rfl,rfl,fun k h1 _=>absurd h1 (Nat.not_lt_zero k)⟩
theorem B7.rok{R:eM}(h:B7 R T)(hT:rN T)(he:R.e.length<=10000)(hs:∀p∈R.e,p.2.1.length<=9223372036854775807)(hd:∀p∈T,p.2.b.length<=9223372036854775807):sN R where
 few:=by rw[h.nodes,List.length_map];exact hT.few
 same:=by rw[h.nodes,h.data,List.length_map,List.length_map]
 names:=he
 till:=by
  intro p f
  rw[h.nodes] at f
  obtain⟨x,c,rfl⟩:=List.mem_map.1 f
  have:=(hT.node x c).till
  exact⟨this.1,Int.le_trans this.2 Zd⟩
 data:=by
  intro d a
  rw[h.data] at a
  obtain⟨x,c,rfl⟩:=List.mem_map.1 a
  exact hd x c
 short:=hs
theorem oC:fM ke=e_ dV.T:=xP.bytes
theorem wy:mn jf=fQ dV:=by
 unfold mn fQ
 rw[ko]
 show beI 8 0++beI 8 (fM ke).length++fM ke++iA ⟨[],1,[]⟩=_
 rw[oC,pE.bytes]
 rfl
theorem vg:uD jf where
 clock:=by decide
 few:=⟨Zd,Zd,Zd⟩
 tree:=xP.rok (by have:=lO.tree;rwa[ko] at this) Zd (by intro p a;simp[ke] at a) (by intro p a;simp[dV] at a;subst a;decide)
 size:=by
  show(fM ke).length<=_
  rw[oC]
  have:=lO.size
  rwa[ko] at this
 snaps:=⟨Zd,fun s hs=>by simp[jf] at hs⟩
 ssize:=by
  show(iA ⟨[],1,[]⟩).length<=_
  rw[pE.bytes]
  decide
theorem rV:∀p∈jf.T.nodes,p.2.shut=true:=by
 intro p a
 simp[jf,ke] at a
 subst a
 rfl
theorem xQ{b:Nat}(h:eR w c I b jf):Calls prog 15 #[.pointer (some ⟨b,0,none⟩)] w (ej (fQ dV) w):=by
 have:=qA h vg rV
 rwa[wy] at this
theorem BW{g:Nat}{t:TypeId}{C:Array Value}(bs:List UInt8)(hC:C.toList=bs.map eE)(h:w.heap[g]?=some (.cells C t (0,0))):Bs w (fun _=>True) (some ⟨g,0,none⟩) bs.length bs:=by
 refine⟨by simp,fun _=>⟨g,0,rfl,zt,(Zl h),fun k u a=>?_⟩⟩
 rw[cell_of_row _ _ _ _ _ (0,0) h]
 rw[<- hC] at a
 simpa using a
def jP:List UInt8:=[48,49,50,51,52,53,54,55,56,57,97,98,99,100,101,102]
theorem FT(w:World):Calls prog 19 #[] w fun e w'=>(∃A',e=.returned (.slice A' 16 16)/\Bs w' (fun b=>w.heap.size<=b) A' 16 jP)/\New w w':=by
 obtain⟨a,j,c,d⟩:=vR 16 16 (heap_alloc_new w (.cells #[.int .u8 48,.int .u8 49,.int .u8 50,.int .u8 51,.int .u8 52,.int .u8 53,.int .u8 54,.int .u8 55,.int .u8 56,.int .u8 57,.int .u8 97,.int .u8 98,.int .u8 99,.int .u8 100,.int .u8 101,.int .u8 102] 5))
 have f:Bs (w.alloc (.cells #[.int .u8 48,.int .u8 49,.int .u8 50,.int .u8 51,.int .u8 52,.int .u8 53,.int .u8 54,.int .u8 55,.int .u8 56,.int .u8 57,.int .u8 97,.int .u8 98,.int .u8 99,.int .u8 100,.int .u8 101,.int .u8 102] 5)) (fun _=>True) (some ⟨w.heap.size,0,none⟩) 16 jP:=BW jP (by simp[eE,bv,jP]) (heap_alloc_new w (.cells #[.int .u8 48,.int .u8 49,.int .u8 50,.int .u8 51,.int .u8 52,.int .u8 53,.int .u8 54,.int .u8 55,.int .u8 56,.int .u8 57,.int .u8 97,.int .u8 98,.int .u8 99,.int .u8 100,.int .u8 101,.int .u8 102] 5))
 have h:Bs a (fun b=>w.heap.size<=b) (some ⟨w.heap.size,0,none⟩) 16 jP:=by
  obtain⟨h1,h2⟩:=Row.like f d
  refine⟨h1,fun hn=>?_⟩
  obtain⟨b,off,e,_,hl,hc⟩:=h2 hn
  injection e with e
  injection e with e e'
  subst e e'
  exact⟨_,_,rfl,zr,hl,hc⟩
 have g:New w a:=(b_.Qd (D:=fun b=>b<w.heap.size) (b_.Qe ((zN w).alloc (.cells #[.int .u8 48,.int .u8 49,.int .u8 50,.int .u8 51,.int .u8 52,.int .u8 53,.int .u8 54,.int .u8 55,.int .u8 56,.int .u8 57,.int .u8 97,.int .u8 98,.int .u8 99,.int .u8 100,.int .u8 101,.int .u8 102] 5))) c (fun i _ hi e=>by subst e;exact absurd hi (Nat.lt_irrefl _))).Qi (fun i hi=>hi)
 clear f c d
 go_in
 go_wp2
 go_ret
 exact⟨⟨_,rfl,h⟩,g⟩
theorem Bc{q:g9}(h:iK w q S)(hk:S.length=k*128)(hsup:jC (S.take 128)=none):
  Calls prog 12 #[.pointer (some ⟨q.bd,0,none⟩)] w fun e w'=>e=.returned (.tuple #[.pointer none,.pointer none,.agg #[.int .i64 0,.int .i64 0,.int .i64 0,.slice none 0 0,.int .u64 0,.int .u64 0,.int .i64 0,.int .i64 0,.slice none 0 0],.int .i64 41])/\New w w':=by
 have i:=zh<|fun W (y:New w W)=>tP (h.new y) hk
 have j:Hid (∀W e w',j4 W k S e w'->e=.returned (.tuple #[.agg #[.int .i64 0,.int .i64 0,.int .i64 0],.slice none 0 0,.int .i64 41])/\New W w'):=zh fun W e w' hh=>by
  unfold j4 at hh
  rw[hsup] at hh
  exact hh
 clear h hk hsup
 have m:=(zN w).alloc (.cells f_ 37)
 have n:=heap_alloc_new w (.cells f_ 37)
 go_in
 go_upto_region 1 with fail
 obtain⟨a,f⟩:=zx (w.heap.size)
 rw[<- f] at n ⊢
 generalize w.alloc (.cells f_ 37)=z at *
 have r:=zh f
 have s:=zh n
 have t:=zh m
 have l:=zh<|i.out z m
 clear n m i f
 go_wp2_with fail
 refine l.mono ?_
 rintro e A g
 obtain⟨rfl,u⟩:=j.out _ _ _ g
 have o:=u.alloc (.cells #[.int .i64 0,.int .i64 0,.int .i64 0] 35)
 have p:=o.Qa s.out trivial
 have B:=t.new o
 clear l j g u o s t
 go_upto_region 5 with fail
 generalize A.alloc (.cells #[.int .i64 0,.int .i64 0,.int .i64 0] 35)=X at *
 obtain⟨C,D,E,F,G,H,I,J,K⟩:=cs9 p
 obtain⟨z0,L,M,z3,z4,z5,N,O,P⟩:=fz9 p
 go_wp2_with fail
 clear C D E F G H I J K z0 L M z3 z4 z5 N O P
 obtain⟨c,x⟩:=mr p (.int .i64 0) (.int .i64 0) (.int .i64 0) (.slice none 0 0) (.int .u64 0) (.int .u64 0) (.int .i64 0) (.int .i64 0) (.slice none 0 0)
 generalize V:World.setCell _ _ _=d at *
 have Q:d.cell? ⟨a,0,none⟩=some (.int .i64 0):=a_ c rfl
 have R:d.cell? ⟨a,1,none⟩=some (.int .i64 0):=a_ c rfl
 have T:d.cell? ⟨a,2,none⟩=some (.int .i64 0):=a_ c rfl
 have f3:d.cell? ⟨a,3,none⟩=some (.slice none 0 0):=a_ c rfl
 have U:d.cell? ⟨a,4,none⟩=some (.int .u64 0):=a_ c rfl
 have f5:d.cell? ⟨a,5,none⟩=some (.int .u64 0):=a_ c rfl
 have f6:d.cell? ⟨a,6,none⟩=some (.int .i64 0):=a_ c rfl
 have f7:d.cell? ⟨a,7,none⟩=some (.int .i64 0):=a_ c rfl
 have f8:d.cell? ⟨a,8,none⟩=some (.slice none 0 0):=a_ c rfl
 try simp only[Exit.inBlock,Exit.then]
 refine Zb (.tuple #[.pointer none,.pointer none,.agg #[.int .i64 0,.int .i64 0,.int .i64 0,.slice none 0 0,.int .u64 0,.int .u64 0,.int .i64 0,.int .i64 0,.slice none 0 0],.int .i64 41]) (by simp[results,results12,go_sem,Q,R,T,f3,U,f5,f6,f7,f8]) ?_
 exact⟨rfl,B.Qd x fun b hb _=>by show b≠a;have:=r.out;omega⟩
theorem FX(nm:List UInt8)(w:World)(hn:nm.length<=1099511627776):Calls prog 269 #[.string (dR nm)] w fun e w'=>e=.returned (.bool (ep nm))/\New w w':=by
 obtain⟨y,r,b,j,l,hB⟩:=nC nm w
 have g:=J2 l hB
 clear j l hB
 go_in
 go_wp2_with fail
 clear b
 go_loopw [2,8] (fun s i t=>∃k:Nat,s=.bool false/\k<=nm.length/\i=.int .i64 (k:Int)/\(nm.take k).all iE=true/\New r t) (fun _ i _=>nm.length-(intOf i).toNat)
 case atStart=>exact⟨0,rfl,Nat.zero_le _,rfl,rfl,zN _⟩
 obtain⟨k,rfl,hk,rfl,a,m⟩:=hrel
 have c:=zh a
 have d:=zh m
 clear a m
 by_cases hlt:k<nm.length
 ·obtain⟨g1,z,e1,-,-,n⟩:=Bs.cellAt g.2 zo
  injection e1 with e1
  injection e1 with e1 e2
  subst e1 e2
  have v:wr.cell? ⟨w.heap.size,0+k,none⟩=some (.int .u8 (bv nm[k])):=d.Qb (n k hlt) trivial
  rw[Nat.zero_add] at v
  have o:Hid (iE nm[k]=true->(nm.take (k+1)).all iE=true):=zh fun h=>by
   rw[List.take_succ_eq_append_getElem hlt,List.all_append,c.out];simp[h]
  have p:Hid (iE nm[k]=false->ep nm=false):=zh fun h=>by
   have:nm.all iE=false:=by
    rw[List.all_eq_false]
    exact⟨nm[k],List.getElem_mem _,by simp[h]⟩
   simp[ep,this]
  clear n c
  generalize nm[k]=u at *
  have x:0<=bv u/\bv u<=255:=by have:=u.toNat_lt;unfold bv;omega
  have f:Hid (iE u=true↔((97<=bv u/\bv u<=122)\/(48<=bv u/\bv u<=57)\/bv u=46\/bv u=45\/bv u=95)):=zh (by
   unfold iE bv
   simp only[Bool.or_eq_true,Bool.and_eq_true,decide_eq_true_eq]
   omega)
  go_wp2_with fail
  all_goals first
   | (go_ret;exact⟨by rw[p.out (by rw[Bool.eq_false_iff];intro h;have h2:=f.1 h;simp only[Bool.not_eq_true',decide_eq_false_iff_not,beq_eq_false_iff_ne] at *;omega)];rfl,g.1.new d.out⟩)
   | (go_roundw;(case rel=>exact⟨k+1,rfl,zo,by go_num,o.out (f.2 (by simp only[Bool.not_eq_false',decide_eq_true_eq,beq_iff_eq] at *;omega)),d.out⟩);(case measure=>simp[intOf];omega))
 obtain rfl:k=nm.length:=by omega
 rw[List.take_length] at c
 have q:(dR nm).size=nm.length:=by show nm.toArray.size=_;rw[List.size_toArray]
 go_wp2_with fail
 all_goals
  go_ret
  have hA:=c.out
  refine⟨?_,g.1.new d.out⟩
  clear q
  simp[ep, *]
 all_goals first
  | (intro h;omega)
  | (
   rename_i ha hb hc
   have e1:decide (nm.length<=16)=true:=decide_eq_true zo
   have e2:nm.isEmpty=false:=by simpa using ha
   have e3:(nm==[46])=false:=by simpa using hc
   rw[e1,e2,e3]
   by_cases h5:nm=[46,46]
   ·rw[h5];rfl
   have e4:(nm==[46,46])=false:=by simpa using h5
   rw[e4,decide_eq_false h5];rfl)
abbrev Ps(w:World)(D:Nat->Prop)(A:Option Addr)(n:Nat)(p:eZ):Prop:=Row w D A n 1 (p.map fun nm=>Value.string (dR nm))
theorem Ps.len(h:Ps w D A n p):p.length=n:=by
 have:=h.1
 simpa using this
theorem Ps.at_(h:Ps w D A n p)(hk:k<p.length):∃b off,A=some ⟨b,off,none⟩/\w.cell? ⟨b,off+k,none⟩=some (.string (dR p[k])):=by
 have hl:=h.len
 obtain⟨b,off,e,-,-,hc⟩:=h.2 zo
 exact⟨b,off,e,hc k _ (by rw[List.getElem?_map,List.getElem?_eq_getElem hk];rfl)⟩
theorem Ef(nm:List UInt8)(w:World)(hn:nm.length<=1099511627776):Calls prog 268 #[.string (dR nm)] w fun e w'=>e=.returned (.bool (!ep nm))/\New w w':=by
 have a:=zh<|FX nm w hn
 go_in
 go_wp2_with fail
 refine a.mono ?_
 rintro e c⟨rfl,b⟩
 go_wp2
 go_ret
 exact⟨rfl,b⟩
def lT(p:eZ):Int:=match p.findIdx? (fun nm => !ep nm) with
 | some i=>(i:Int)
 | none => -1
theorem w_(p:eZ):decide (0<=lT p) = !(p.all ep):=by
 unfold lT
 cases h:p.findIdx? (fun a => !ep a) with
 | none =>
  rw[List.findIdx?_eq_none_iff] at h
  have:p.all ep=true:=by rw[List.all_eq_true];intro x b;have:=h x b;simpa using this
  rw[this];rfl
 | some i =>
  obtain⟨hi,h1,-⟩:=List.findIdx?_eq_some_iff_getElem.1 h
  have:p.all ep=false:=by
   rw[List.all_eq_false]
   exact⟨p[i],List.getElem_mem _,by simpa using h1⟩
  rw[this]
  show decide (0<=(i:Int))=true
  exact decide_eq_true zo
theorem AN(D:Nat->Prop)(A:Option Addr)(n c:Nat)(p:eZ)(w:World)(hR:Ps w D A n p)(hn:n<=1099511627776)(hs:∀nm∈p,nm.length<=1099511627776):
  Calls prog 288 #[.slice A n c,.func (Fn.func 268) #[] #[]] w fun e w'=>e=.returned (.int .i64 (lT p))/\New w w':=by
 have r:=zh hR.len
 have t:=zh hR
 have u:=zh hs
 clear hR hs
 go_in
 go_wp2_with fail
 go_loopw [4,8] (fun v i y=>∃k:Nat,v=.int .i64 0/\k<=n/\i=.int .i64 (k:Int)/\(∀j (h:j<p.length),j<k->(!ep p[j])=false)/\New w y) (fun _ i _=>n-(intOf i).toNat)
 case atStart=>exact⟨0,rfl,Nat.zero_le _,rfl,fun j h hj=>absurd hj zo,zN _⟩
 obtain⟨k,rfl,hk,rfl,o,s⟩:=hrel
 have g:=zh o
 have m:=zh s
 clear o s
 by_cases hlt:k<n
 ·have l:k<p.length:=by have:=r.out;omega
  have d:=zh<|Ef p[k] wr (u.out _ (List.getElem_mem l))
  obtain⟨b,off,rfl,E⟩:=Ps.at_ (Row.new t.out m.out) l
  have a:Hid ((!ep p[k])=true->lT p=(k:Int)):=zh fun h=>by
   unfold lT
   rw[List.findIdx?_eq_some_iff_getElem.2 ⟨l,h,fun j hj=>by simpa using g.out j zo hj⟩]
  have f:Hid ((!ep p[k])=false->∀j (h:j<p.length),j<k+1->(!ep p[j])=false):=zh fun h j hj C=>by
   by_cases e:j=k
   ·subst e;exact h
   exact g.out j hj zo
  generalize p[k]=nm at *
  cases he:(!ep nm)
  ·rw[he] at d
   have f:=zh<|f.out he
   clear he a
   go_wp2_with fail
   refine d.mono ?_
   rintro e z⟨rfl,q⟩
   go_wp2
   go_roundw
   case rel=>exact⟨k+1,rfl,zo,by go_num,f.out,m.new q⟩
   simp[intOf];omega
  rw[he] at d
  have a:=zh<|a.out he
  clear he f
  go_wp2_with fail
  refine d.mono ?_
  rintro e z⟨rfl,q⟩
  go_wp2
  go_ret
  exact⟨by rw[a.out];rfl,m.new q⟩
 obtain rfl:k=n:=by omega
 have a:Hid (lT p = -1):=zh (by
  unfold lT
  rw[List.findIdx?_eq_none_iff.2 fun x B=>by
   obtain⟨j,hj,rfl⟩:=List.getElem_of_mem B
   exact g.out j hj (by have:=r.out;omega)])
 go_wp2
 go_ret
 exact⟨by rw[a.out];rfl,m.out⟩
theorem vq(D:Nat->Prop)(A:Option Addr)(n c:Nat)(p:eZ)(w:World)(hR:Ps w D A n p)(hn:n<=1099511627776)(hs:∀nm∈p,nm.length<=1099511627776):
  Calls prog 229 #[.slice A n c] w fun e w'=>e=.returned (.int .i64 (el p))/\New w w':=by
 have hl:=hR.len
 have d:Hid (Calls prog 267 #[.slice A n c,.func (Fn.func 268) #[] #[]] w fun e w'=>e=.returned (.bool (!(p.all ep)))/\New w w'):=zh (by
  have i:=zh<|AN D A n c p w hR hn hs
  have hb:=w_ p
  generalize lT p=x at *
  generalize (!(p.all ep))=y at *
  subst hb
  clear hR hl
  go_in
  go_wp2_with fail
  refine i.mono ?_
  rintro e g⟨rfl,b⟩
  go_wp2
  go_ret
  exact⟨rfl,b⟩)
 have a:Hid (el p=if p.all ep=true then(if 8<p.length then 3 else 0) else 12):=zh rfl
 rw[hl] at a
 generalize el p=f at *
 generalize p.all ep=y at *
 clear hR hs hl
 go_in
 cases y
 ·rw[if_neg Zd] at a
  go_wp2_with fail
  refine d.mono ?_
  rintro e g⟨rfl,b⟩
  go_wp2
  go_ret
  exact⟨by rw[a.out];rfl,b⟩
 rw[if_pos rfl] at a
 by_cases h:8<n
 ·rw[if_pos h] at a
  go_wp2_with fail
  refine d.mono ?_
  rintro e g⟨rfl,b⟩
  go_wp2
  go_ret
  exact⟨by rw[a.out];rfl,b⟩
 rw[if_neg h] at a
 go_wp2_with fail
 refine d.mono ?_
 rintro e g⟨rfl,b⟩
 go_wp2
 go_ret
 exact⟨by rw[a.out];rfl,b⟩
section
variable {w w':World}{c c':Col}{i j bt:Nat}{q q':fx}{T L:dX}
theorem u'(h:ea w c i bt q T)(hI:eo T){cp:Nat}(hR:Ps w D A n p)(hn:n<=1099511627776)(hs:∀nm∈p,nm.length<=1099511627776):
  Calls prog 143 #[.pointer (some ⟨bt,0,none⟩),.slice A n cp] w fun e w'=>e=.returned (.tuple #[.int .i64 (fL T 0 p).1,.int .i64 (fL T 0 p).2])/\w=w':=by
 have Y:w.cell? ⟨bt,0,none⟩=some (.map (some q.bm)):=a_ h.tree (k:=0) rfl
 have C:=zh h
 have E:=zh hI
 have F:=zh hR.len
 have M:=zh hR
 have N:=zh hs
 have G:Hid ((dN T 0).isSome=true):=zh (by
  have:=hI.root
  unfold iP at this
  cases hg:dN T 0 with
  | none=>rw[hg] at this;simp at this
  | some _=>rfl)
 clear h hI hR hs
 obtain⟨r,B⟩:=zx (fL T 0 p)
 rw[<- B]
 have O:=zh B
 clear B
 go_in
 go_wp2_with fail
 go_loopw [4,5,6,14] (fun P Q R i S=>∃(k:Nat) (id:Int),P=.int .i64 0/\Q=.int .i64 0/\R=.int .i64 id/\k<=n/\i=.int .i64 (k:Int)/\(dN T id).isSome=true/\r=fL T id (p.drop k)/\S=w) (fun _ _ _ i _=>n-(intOf i).toNat)
 case atStart=>exact⟨0,0,rfl,rfl,rfl,Nat.zero_le _,rfl,G.out,O.out,rfl⟩
 obtain⟨k,id,rfl,rfl,rfl,hk,rfl,y,z,rfl⟩:=hrel
 have a:=zh z
 clear z
 obtain⟨f,hg⟩:=Option.isSome_iff_exists.1 y
 obtain⟨H,I⟩:=E.ids id f hg
 by_cases hlt:k<n
 ·have u:k<p.length:=by have:=F.out;omega
  obtain⟨b,off,rfl,Z⟩:=Ps.at_ M.out u
  have g:p.drop k=p[k]::p.drop (k+1):=List.drop_eq_getElem_cons u
  have V:=N.out _ (List.getElem_mem u)
  rw[g] at a
  generalize p[k]=nm at *
  have m:=(C.look (id:=id) zo zo).2
  rw[hg] at m
  simp only[Option.elim_some] at m
  have j:=C.item id f hg
  obtain⟨A2,W,-,U,-,-,-,-,-,J,-⟩:=gj j
  have x:=zh j.names
  have o:=zh<|fun k hk=>E.leads id f nm k hg hk
  clear j
  by_cases d:f.n.kind=2
  ·have hw:r=match dN f.names nm with
     | none=>((0:Int),(20:Int))
     | some t=>fL T t (p.drop (k+1)):=by
    rw[a.out]
    have hd:iX T id=some f.names:=by simp[iX,hg,d]
    conv=>lhs;unfold fL
    rw[hd]
    rfl
   have s:(Instr.lookup 212 (.map (some (q.γ id))) (.string (dR nm)) true).run prog wr=.ok (.tuple #[(dN f.names nm).elim (.int .i64 0) (fun t=>.int .i64 t),.bool (dN f.names nm).isSome]) wr :=
    ((x.out d).2.look underlying212 (qt wr) (k:=nm) (by show nm.length<=9223372036854775807;omega)).1
   rw[if_pos d] at J
   rw[d] at U
   clear x d a g hg
   cases hgn:dN f.names nm with
   | none =>
    rw[hgn] at hw s
    simp only[Option.elim_none,Option.isSome_none] at s
    have l:=zh hw
    clear hw hgn o
    go_wp2
    refine Zb (.tuple #[.int .i64 0,.int .i64 20]) (by simp[results,results143,go_sem]) ?_
    exact⟨by rw[l.out],rfl⟩
   | some t =>
    rw[hgn] at hw s
    simp only[Option.elim_some,Option.isSome_some] at s
    have l:=zh hw
    have K:=zh (o.out t hgn).2.2
    clear hw hgn o
    go_wp2
    go_roundw
    case rel=>exact⟨k+1,t,rfl,rfl,rfl,zo,by go_num,K.out,l.out,by first|rfl|trivial⟩
    simp[intOf];omega
  have hw:r=(0,23):=by
   rw[a.out]
   have hd:iX T id=none:=by simp[iX,hg,d]
   conv=>lhs;unfold fL
   rw[hd]
  have l:=zh hw
  have X:(f.n.kind==2)=false:=beq_eq_false_iff_ne.2 d
  clear x o J d a g hg hw
  go_wp2
  refine Zb (.tuple #[.int .i64 0,.int .i64 23]) (by simp[results,results143,go_sem]) ?_
  exact⟨by rw[l.out],rfl⟩
 obtain rfl:k=n:=by omega
 have g:p.drop k=[]:=List.drop_eq_nil_of_le (by have:=F.out;omega)
 rw[g] at a
 have L:Hid (r=(id,0)):=zh a.out
 clear g a y hg H I
 go_wp2
 refine Zb (.tuple #[.int .i64 id,.int .i64 0]) (by simp[results,results143,go_sem]) ?_
 exact⟨by rw[L.out],rfl⟩
end
