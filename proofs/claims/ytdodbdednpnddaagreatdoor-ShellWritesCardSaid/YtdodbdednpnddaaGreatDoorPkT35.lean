/-
  PROVED HERE: texts that belong together, one behind the other; what each proves, and under which conditions, its own opening remark says: LogC28, Trim28, StCopy28, MMountQ28, Vault28, VDo28, HoldS28, VOpen28, FsckA28, FsckB28, FsckC28, StAll28, Mach28, ShPlain28, Shell28, ShDo28.
-/
import Derived.Laws.Tables
import Derived.Test.YtdodbdednpnddaaGreatDoorPkT34
set_option maxRecDepth 100000
set_option maxHeartbeats 8000000
namespace Go.Proofs.YtdodbdednpnddaaGreatDoor
open Go.RowKit
section
variable {w w':World}{c c':Col}{base bl:Nat}{q:DiskB}{lv lv':LogV}{A A':Option Addr}{cl cl':Nat}{S S':List UInt8}{D D2 F:Nat→Prop}
theorem LogOn.stay28 (h:LogOn w D base bl q lv A cl S) (hk:Keep F w w') (hl:F bl) (hq:∀ b,b=q.bd∨b=q.bs∨b=q.bm→F b) (hA:∀ k,blk A=some k→F k) (hD:∀ b,b<w.heap.size→D b→F b) (hF:∀ b,b<w.heap.size→D b→D2 b) (hl2:¬ D2 bl) (hq2:∀ b,D2 b→DiskOf q b):LogOn w' D2 base bl q lv A cl S:=by
 have h1:=h.log.imp (F:=fun b=>D2 b∧D b∧b<w.heap.size) (fun b hb hd=>⟨hF b hb hd,hd,hb⟩) (fun hd=>hl2 hd.1)
 have h2:=(h1.keep hk hl hA fun b hd=>hD b hd.2.2 hd.2.1).imp (F:=D2) (fun b _ hd=>hd.1) hl2
 exact ⟨h2,h.disk.keep hk hq,h.size,h.plan,h.apart,h.row,hq2⟩
structure LogC (w:World) (c:Col) (base bl:Nat) (q:DiskB) (lv:LogV) (A:Option Addr) (cl:Nat) (S:List UInt8):Prop where
 on:LogOn w (fun b=>c b=7∧b≠bl∧DiskOf q b) base bl q lv A cl S
 c7:c bl=7∧c q.bd=7∧c q.bs=7∧c q.bm=7∧∀ k,blk A=some k→c k=7
 low:base≤bl∧base≤w.heap.size
theorem LogC.turn (h:LogC w c base bl q lv A cl S) (hk:Keep F w w') (hx:Ext w c c') (hF:∀ b,b<w.heap.size→c b=7→F b):LogC w' c' base bl q lv A cl S:=by
 have l1:=h.on.log.lt
 have l2:=h.on.disk.lt
 have l3:∀ k,blk A=some k→k<w.heap.size:=fun k hk'=>(h.on.log.rowLt k hk').2
 obtain ⟨x2,x3,x4,x5,x6⟩:=h.c7
 refine ⟨h.on.stay28 hk (hF _ l1 x2) (fun b hb=>hF b (l2 b hb) (by rcases hb with rfl|rfl|rfl <;> assumption)) (fun k hk'=>hF k (l3 k hk') (x6 k hk')) (fun b hb hd=>hF b hb hd.1) (fun b hb hd=>⟨(hx b hb).trans hd.1,hd.2⟩) (fun hd=>hd.2.1 rfl) fun b hd=>hd.2.2,
  ⟨(hx _ l1).trans x2,(hx _ (l2 _ (.inl rfl))).trans x3,(hx _ (l2 _ (.inr (.inl rfl)))).trans x4,(hx _ (l2 _ (.inr (.inr rfl)))).trans x5,fun k hk'=>(hx _ (l3 k hk')).trans (x6 k hk')⟩,h.low.1,Nat.le_trans h.low.2 hk.size⟩
theorem LogC.new (h:LogC w c base bl q lv A cl S) (hk:New w w') (hx:Ext w c c'):LogC w' c' base bl q lv A cl S:=h.turn hk hx fun _ _ _=>trivial
theorem LogC.far (h:LogC w c base bl q lv A cl S){b:Nat}(hc:c b≠7):b≠bl∧DiskOf q b∧some b≠blk A:=by
 obtain ⟨x2,x3,x4,x5,x6⟩:=h.c7
 exact ⟨fun e=>hc (by rw [e];exact x2),⟨fun e=>hc (by rw [e];exact x3),fun e=>hc (by rw [e];exact x4),fun e=>hc (by rw [e];exact x5)⟩,fun e=>hc (x6 b e.symm)⟩
theorem LogC.logged (h:LogC w c base bl q lv A cl S) (hk:Keep (fun j=>j≠bl∧DiskOf q j∧some j≠blk A) w w') (hl:LogOn w' (fun b=>(c b=7∧b≠bl∧DiskOf q b)∨w.heap.size≤b) base bl q lv' A' cl' S') (hA:blk A'=blk A∨∀ k,blk A'=some k→w.heap.size≤k):LogC w' (c.on w.heap.size fun _=>7) base bl q lv' A' cl' S':=by
 have l1:=h.on.log.lt
 have l2:=h.on.disk.lt
 have l3:∀ k,blk A=some k→k<w.heap.size:=fun k hk'=>(h.on.log.rowLt k hk').2
 obtain ⟨x2,x3,x4,x5,x6⟩:=h.c7
 have hx:=Col.on_ext c w fun _=>7
 have hnew:∀ b,w.heap.size≤b→b≠bl∧DiskOf q b:=fun b hb=>⟨by omega,fun e=>by have:=l2 b (.inl e);omega,fun e=>by have:=l2 b (.inr (.inl e));omega,fun e=>by have:=l2 b (.inr (.inr e));omega⟩
 refine ⟨?_,⟨(hx _ l1).trans x2,(hx _ (l2 _ (.inl rfl))).trans x3,(hx _ (l2 _ (.inr (.inl rfl)))).trans x4,(hx _ (l2 _ (.inr (.inr rfl)))).trans x5,fun k hk'=>?_⟩,h.low.1,Nat.le_trans h.low.2 hk.size⟩
 ·refine hl.stay28 (Keep.refl (fun _=>True) w') trivial (fun _ _=>trivial) (fun _ _=>trivial) (fun _ _ _=>trivial) (fun b _ hd=>?_) (fun hd=>hd.2.1 rfl) fun b hd=>hd.2.2
  rcases hd with hd|hd
  ·by_cases hb:b<w.heap.size
   ·exact ⟨(Col.on_old c _ hb).trans hd.1,hd.2⟩
   ·exact ⟨Col.on_new c _ (by omega),hd.2⟩
  ·exact ⟨Col.on_new c _ hd,hnew b hd⟩
 ·rcases hA with e|e
  ·rw [e] at hk'
   exact (hx _ (l3 k hk')).trans (x6 k hk')
  ·exact Col.on_new c _ (e k hk')
end
theorem nought_cell {w:World}{D:Nat→Prop}{A:Option Addr}{n:Nat}(h:Bs w D A n (List.replicate n 0)){k:Nat}(hk:k<n):∃ b off,A=some ⟨b,off,none⟩∧w.cell? ⟨b,off+k,none⟩=some (.int .u8 0):=by
 obtain ⟨b,off,hA,-,-,hc⟩:=h.2 (by omega)
 exact ⟨b,off,hA,hc k _ (by simp [byteVal,bv,hk])⟩
theorem trimRight_nought {w:World}{D:Nat→Prop}{A:Option Addr}{n c:Nat}(h:Bs w D A n (List.replicate n 0)) (hc:n≤c) (hn:n≤1000000):
  Calls Tryz.prog 226 #[.slice A n c,.int .u8 0] w fun e w'=>(∃ A',e=.returned (.slice A' 0 c))∧New w w':=by
 have HB:=Lib.hid (And.intro h (And.intro hc hn))
 clear h
 go_enter Tryz.func226,Tryz.ntmps226
 go_wp2_with fail
 go_loopw [0] (fun s wx=>∃ m:Nat,s=.slice A m c∧m≤n∧w=wx) (fun s _=>match s with|.slice _ m _=>m|_=>0)
 case atStart=>exact ⟨n,rfl,Nat.le_refl _,rfl⟩
 case round =>
  obtain ⟨m,rfl,hm,rfl⟩:=hrel
  have hn6:=HB.out.2.2
  have hnc:=HB.out.2.1
  by_cases h0:m=0
  ·subst h0
   go_wp2_with fail
   go_ret
   exact ⟨⟨_,rfl⟩,New.refl _⟩
  ·obtain ⟨b,off,rfl,hcell⟩:=nought_cell HB.out.1 (k:=m-1) (by omega)
   have g1:((m:Int)>0):=by omega
   have g2:IntKind.i64.wrap ((m:Int)-1)=((m-1:Nat):Int):=by rw [IntWalk.i64_in _ (by omega)];omega
   have g3:m-1<m:=by omega
   have g4:m-1≤c:=by omega
   go_wp2_with fail
   go_roundw
   case rel=>exact ⟨m-1,by first|rfl|trivial,by omega,by first|rfl|trivial⟩
   case measure=>simp;omega
theorem trimLeft_none (A:Option Addr) (c:Nat) (w:World):Calls Tryz.prog 225 #[.slice A 0 c,.int .u8 0] w fun e w'=>e=.returned (.slice none 0 0)∧New w w':=by
 go_enter Tryz.func225,Tryz.ntmps225
 go_wp2_with fail
 go_loopw [0] (fun s wx=>s=.slice A 0 c∧w=wx) (fun _ _=>0)
 case atStart=>exact ⟨rfl,rfl⟩
 case round =>
  obtain ⟨rfl,rfl⟩:=hrel
  go_wp2_with fail
  go_ret
  exact ⟨rfl,New.refl _⟩
theorem trim_nought {w:World}{D:Nat→Prop}{A:Option Addr}{n c:Nat}(h:Bs w D A n (List.replicate n 0)) (h0:0<n) (hc:n≤c) (hn:n≤1000000):
  Calls Tryz.prog 168 #[.slice A n c,.string ⟨#[0]⟩] w fun e w'=>e=.returned (.slice none 0 0)∧New w w':=by
 have HR:=Lib.hid (fun W (hW:New w W)=>trimRight_nought (h.new hW) hc hn)
 have HL:=Lib.hid (fun A' W=>trimLeft_none A' c W)
 have g0:((n:Int)==0)=false:=by simp;omega
 clear h
 go_enter Tryz.func168,Tryz.ntmps168
 go_wp2_with fail
 refine hold_begin (by kernel_rfl) ?_
 have n0:New w w.drew:=(New.refl w).drew
 refine take1 0 ?_
 refine take1 1 ?_
 refine take1 2 ?_
 refine take1 4 ?_
 refine take1 5 ?_
 refine hold_step (i:=3) (by kernel_rfl) rfl rfl (fun K hK=>?_)
 go_simp
 refine (HR.out _ n0).mono ?_
 rintro e w1 ⟨⟨A',rfl⟩,k1⟩
 go_wp2_with fail
 refine hK.out _ _ k1 ?_
 clear hK K
 try simp only [Act.put,ly1,ly2,ly3,ly4,ly5,ly6]
 replace n0:=Keep.new n0 k1
 refine hold_step (i:=6) (by kernel_rfl) rfl rfl (fun K hK=>?_)
 go_simp
 refine (HL.out A' _).mono ?_
 rintro e w2 ⟨rfl,k2⟩
 go_wp2_with fail
 refine hK.out _ _ k2 ?_
 clear hK K
 try simp only [Act.put,ly1,ly2,ly3,ly4,ly5,ly6]
 replace n0:=Keep.new n0 k2
 refine take1 7 ?_
 refine wpAnyH_done (by kernel_rfl) ?_ _
 go_wp2_with fail
 go_ret
 exact ⟨rfl,n0⟩
theorem fmt_nought {k:Nat}{id:List UInt8}(h0:64≤k) (hid:id.length=16){i:Nat}(hi:i<(k-1-2*(k/4))/8):placeOf (fmtBytes k id) (k/4) i=List.replicate 1024 0:=by
 have hs:(superBytes (k:Int) id).length=128:=superBytes_length hid
 have h2:=fmtPoint_length (id:=id) (gen:=2) h0 (by decide) (by decide)
 have h1:=fmtPoint_length (id:=id) (gen:=1) h0 (by decide) (by decide)
 unfold placeOf fmtBytes placeAt
 rw [seg_right hs (by omega),seg_right h2 (by omega),seg_right h1 (by omega),List.drop_replicate,List.take_replicate]
 congr 1
 omega
theorem stcopy_any {w:World}{c:Col}{I J:Cols}{b:Nat}{B:StateB}{s:StateP}(h:StateAt w c I b B s) (hn:s.T.length≤100000) (hs:s.S.list.length≤1000000) (hJ:J.Ok):
  Calls Tryz.prog 126 #[.pointer (some ⟨b,0,none⟩)] w (StateRet w c J s):=by
 have hd:=h.new (Keep.drew (New.refl w))
 have c0:∀ W,New w.drew W→W.cell? ⟨b,0,none⟩=some (.pointer (some ⟨B.bt,0,none⟩)):=fun W hW=>hW.cell_some (cellOf (w:=w.drew) h.state (k:=0) rfl) trivial
 have c1:∀ W,New w.drew W→W.cell? ⟨b,1,none⟩=some (.pointer (some ⟨B.bs,0,none⟩)):=fun W hW=>hW.cell_some (cellOf (w:=w.drew) h.state (k:=1) rfl) trivial
 have c2:∀ W,New w.drew W→W.cell? ⟨b,2,none⟩=some (.int .u64 s.now):=fun W hW=>hW.cell_some (cellOf (w:=w.drew) h.state (k:=2) rfl) trivial
 have u:∀ k,k<8→∀ W,New w.drew W→W.cell? ⟨b,3+k,none⟩=some (B.ptr k):=fun k hk W hW=>hW.cell_some (hd.fdCell hk) trivial
 have u0:=u 0 (by decide)
 have u1:=u 1 (by decide)
 have u2:=u 2 (by decide)
 have u3:=u 3 (by decide)
 have u4:=u 4 (by decide)
 have u5:=u 5 (by decide)
 have u6:=u 6 (by decide)
 have u7:=u 7 (by decide)
 have HT:=Lib.hid (tcopy_any (w:=w.drew) hd.tree hn J.t hJ.nz.1)
 have H3:=Lib.hid (And.intro h.snaps h.fd)
 have HJ:=Lib.hid (And.intro hJ hs)
 clear h hn hJ hs u hd
 go_enter Tryz.func126,Tryz.ntmps126
 go_upto_region 1 with fail
 refine hold_beginS (Keep (fun _=>True) w.drew) (by kernel_rfl) ?_
 have n0:Keep (fun _=>True) w.drew w.drew:=Keep.refl _ _
 refine take0 0 n0 ?_
 refine take0 1 n0 ?_
 refine take0 2 n0 ?_
 refine take0 3 n0 ?_
 refine take0 5 n0 ?_
 refine take0 6 n0 ?_
 refine take0 7 n0 ?_
 refine take0 8 n0 ?_
 refine take0 10 n0 ?_
 refine take0 11 n0 ?_
 refine take0 12 n0 ?_
 refine take0 13 n0 ?_
 refine take0 14 n0 ?_
 refine take0 15 n0 ?_
 refine take0 16 n0 ?_
 refine take0 17 n0 ?_
 refine hold_step0 (i:=4) (by kernel_rfl) rfl rfl (fun K hK=>?_)
 go_simp
 refine HT.out.mono ?_
 rintro e w1 ⟨bt2,q2,d1,rfl,k1,z1,x1,t1⟩;have H1:=Lib.hid (And.intro k1 (And.intro z1 (And.intro x1 t1)));clear z1 x1 t1
 go_wp2_with fail
 have n1:=Keep.new n0 k1
 refine hK.out _ _ n1 ?_
 clear hK K
 try simp only [Act.put,ly1,ly2,ly3,ly4,ly5,ly6]
 replace n0:=n1
 clear n1
 refine hold_step0 (i:=9) (by kernel_rfl) rfl rfl (fun K hK=>?_)
 go_simp
 refine (scopy_any (SnapsAt.keep H3.out.1 ((Keep.drew (New.refl w)).new H1.out.1) (show Ext w c d1 from H1.out.2.2.1) fun _ _ _=>trivial) HJ.out.2 J.s).mono ?_
 rintro e w2 ⟨bs2,Q2,d2,rfl,k2,z2,x2,t2⟩;have H2:=Lib.hid (And.intro k2 (And.intro z2 (And.intro x2 t2)));clear z2 x2 t2
 go_wp2_with fail
 have n1:=Keep.new n0 k2
 refine hK.out _ _ n1 ?_
 clear hK K
 try simp only [Act.put,ly1,ly2,ly3,ly4,ly5,ly6]
 replace n0:=n1
 clear n1
 refine take0 18 n0 ?_
 have k3:=(New.refl w2).alloc (.cells (stateCells ⟨bt2,q2,bs2,Q2,B.fd⟩ s.now) 180)
 refine hold_step0 (i:=19) (by kernel_rfl) rfl rfl (fun K hK=>?_)
 go_simp
 go_wp2_with fail
 have n1:=Keep.new n0 k3
 refine hK.out _ _ n1 ?_
 clear hK K
 try simp only [Act.put,ly1,ly2,ly3,ly4,ly5,ly6]
 replace n0:=n1
 clear n1
 refine take0 20 n0 ?_
 refine wpAnyH_done (by kernel_rfl) ?_ _
 go_wp2_with fail
 go_ret
 obtain ⟨k1,z1,x1,t1⟩:=H1.out
 obtain ⟨k2,z2,x2,t2⟩:=H2.out
 have kw:New w w2:=((Keep.drew (New.refl w)).new k1).new k2
 have x3:=heap_alloc_new w2 (.cells (stateCells ⟨bt2,q2,bs2,Q2,B.fd⟩ s.now) 180)
 have e3:=d2.on_ext w2 fun _=>J.o
 have x1':Ext w c d1:=x1
 have eA:Ext w c (d2.on w2.heap.size fun _=>J.o):=(x1'.trans x2 (Nat.le_trans (Nat.le_refl _) k1.size)).trans e3 kw.size
 exact ⟨w2.heap.size,⟨bt2,q2,bs2,Q2,B.fd⟩,d2.on w2.heap.size fun _=>J.o,rfl,kw.new k3,kw.size,eA,x3,d2.on_new _ (Nat.le_refl _),(t1.keep k2 x2 fun _ _ _=>trivial).keep k3 e3 fun _ _ _=>trivial,t2.keep k3 e3 fun _ _ _=>trivial,fun k hk=>(H3.out.2 k hk).keep (kw.new k3) eA fun _ _ _=>trivial,HJ.out.1⟩
theorem writes_any {w:World}{c:Col}{i:Cols}{b:Nat}{B:StateB}{s:StateP}(h:StateAt w c i b B s) (n:Int):Calls Tryz.prog 127 #[.pointer (some ⟨b,0,none⟩),.int .i64 n] w fun e w' =>
  e=.returned (.bool (fdT s n true).isSome)∧w=w':=by
 have HF:=Lib.hid (sfd_any h n true)
 clear h
 generalize (fdT s n true).isSome=z at *
 obtain ⟨p,hp⟩:∃ p,p=if z=true then B.ptr n.toNat else .pointer none:=⟨_,rfl⟩
 rw [← hp] at HF
 clear hp
 go_enter Tryz.func127,Tryz.ntmps127
 go_wp2_with fail
 refine HF.out.mono ?_
 rintro e w1 ⟨rfl,rfl⟩
 go_wp2_with fail
 go_ret
 exact ⟨rfl,rfl⟩
theorem turns_mkdir (o:OpP) (E:Option Addr) (cd:Nat) (w:World) (hk:o.kind=2):Calls Tryz.prog 129 #[opVal o E cd] w fun e w'=>e=.returned (.bool true)∧New w w':=by
 have k1:=(New.refl w).alloc (.cells (opCells o E cd) 46)
 have x1:=heap_alloc_new w (.cells (opCells o E cd) 46)
 have o0:=cellOf x1 (k:=0) rfl
 unfold opVal
 unfold opCells at *
 rw [hk] at *
 have HK:=Lib.hid k1
 clear k1 x1 hk
 go_enter Tryz.func129,Tryz.ntmps129
 go_wp2_with fail
 go_ret
 exact ⟨rfl,HK.out⟩
theorem vsafe_mkdir (o:OpP) (E:Option Addr) (cd:Nat) (w:World) (z:Bool) (hk:o.kind=2):Calls Tryz.prog 132 #[opVal o E cd,.bool z] w fun e w'=>e=.returned (.int .i64 0)∧New w w':=by
 have k1:=(New.refl w).alloc (.cells (opCells o E cd) 46)
 have x1:=heap_alloc_new w (.cells (opCells o E cd) 46)
 have o0:=cellOf x1 (k:=0) rfl
 unfold opVal
 unfold opCells at *
 rw [hk] at *
 have HK:=Lib.hid k1
 clear k1 x1 hk
 go_enter Tryz.func132,Tryz.ntmps132
 go_wp2_with fail
 go_ret
 exact ⟨rfl,HK.out⟩
def MountRetQ (w:World) (c:Col) (J:Cols) (xc:Nat) (q:DiskB) (S:List UInt8) (k p g se:Nat) (id:List UInt8) (gen sq nxE:Int) (hdE:List UInt8) (s:StateP) (e:Ending) (w':World):Prop :=
 ∃ b B c' bl I ci H hc,e=.returned (.tuple #[.pointer (some ⟨b,0,none⟩),.pointer (some ⟨bl,0,none⟩),.agg #[.int .i64 k,.int .i64 p,.int .i64 g,.slice I 16 ci,.int .u64 gen,.int .u64 sq,.int .i64 se,.int .i64 0,.slice H 32 hc],.int .i64 0]) ∧
  New w w'∧w.heap.size≤b∧Ext w c c'∧StateAt w' c' J b B s.settled∧(w.heap.size≤bl∧c' bl=xc)∧LogOn w' (fun b=>w.heap.size≤b∧b≠bl∧c' b=xc) w.heap.size bl q ⟨k,p,g,se,nxE,hdE,[]⟩ none 0 S ∧
  Bs w' (fun b=>w.heap.size≤b∧b≠bl) I 16 id∧16≤ci∧Bs w' (fun b=>w.heap.size≤b∧b≠bl) H 32 hdE∧32≤hc
theorem mmount_q {w:World}{q:DiskB}{S:List UInt8}{k fr:Nat}{id:List UInt8}(h:Clean w q S) (hk:S.length=k*128) (hsup:superOf (S.take 128)=some (k,id)){m0 m1 m:MarkP}{s0 s1 s:StateP}
  (h0:PointOk S (k/4) ((k-1-2*(k/4))/8) 0 m0 s0) (h1:PointOk S (k/4) ((k-1-2*(k/4))/8) 1 m1 s1) (hpick:(m1.gen≤m0.gen∧m=m0∧s=s0)∨(¬ m1.gen≤m0.gen∧m=m1∧s=s1)) (hfr:m.segs=fr) (h00:fr=0) (hseq:m.seq<1099511627776)
  (hfd:foundIn S (k/4) ((k-1-2*(k/4))/8-fr) fr (openNext fr (m.seq+1)) (openHead fr id m.head)=[]) (hbe:∀ i,fr+1≤i→i<(k-1-2*(k/4))/8→¬ readAt S (k/4) i)
  (hn:s.T.length≤100000) (hkey:∀ p∈s.T,-9223372036854775808≤p.1∧p.1≤9223372036854775807) (hs:s.S.list.length≤1000000) (c:Col) (J:Cols) (hJ:J.Ok) (xc:Nat):
  Calls Tryz.prog 124 #[.pointer (some ⟨q.bd,0,none⟩)] w (MountRetQ w c J xc q S k (k/4) ((k-1-2*(k/4))/8) fr id m.gen m.seq (openNext fr (m.seq+1)) (openHead fr id m.head) s):=by
 obtain ⟨k',e',h64,h4096⟩:=h.size
 obtain rfl:k'=k:=by omega
 clear e'
 have hp:planRight (k':Int) ((k'/4:Nat):Int) (((k'-1-2*(k'/4))/8:Nat):Int)=true:=planRight_iff.2 (by omega)
 obtain ⟨p,hpe⟩:∃ p,p=k'/4:=⟨_,rfl⟩
 obtain ⟨g,hge⟩:∃ g,g=(k'-1-2*p)/8:=⟨_,rfl⟩
 have HSP:=Lib.hid (fun W (hW:New w W)=>msuper_any (h.new hW) hk)
 have hmok:MarkOk (p:Int) (g:Int) m:=by
  rw [hge,hpe]
  rcases hpick with ⟨-,rfl,-⟩|⟨-,rfl,-⟩
  ·exact h0.ok
  ·exact h1.ok
 rw [← hpe] at h0 h1 hfd hbe hp ⊢
 rw [← hge] at h0 h1 hfd hbe hp ⊢
 have HSR:Hid (∀ W e w',MSuperRet W k' S e w'→(∃ A' c',e=.returned (.tuple #[.agg #[.int .i64 (k':Int),.int .i64 (p:Int),.int .i64 (g:Int)],.slice A' 16 c',.int .i64 0])∧OwnB w' W.heap.size 5 A' 16 c' id)∧New W w'):=Lib.hid fun W e w' hh=>by
  unfold MSuperRet at hh
  rw [hsup] at hh
  dsimp only at hh
  rw [if_pos rfl,← hpe,← hge] at hh
  exact hh
 have HNW:=Lib.hid (fun W (hW:New w W) (c:Col)=>mnewest_any (h.new hW) hk hp h0 h1 c ⟨1,2,3⟩ ⟨⟨by decide,by decide,by decide⟩,by decide,by decide,by decide⟩ hpick)
 have hfg:fr≤g:=by have:=hmok.segs.2;omega
 have hgb:g≤512:=by omega
 have hq0:=hmok.seq.1
 have HOP:=Lib.hid (fun W (hW:New w W) (Hd I:Option Addr) (hdc ci:Nat) (D3 D4:Nat→Prop) (hH:Bs W D3 Hd 32 m.head) (hI:Bs W D4 I 16 id) (hci:16≤ci)=>lopen_zero (h.new hW) hk hp hfg h00 Hd hdc m.head hH (m.seq+1) (by omega) (by omega) I 16 ci id hI hci (by decide))
 have HBE:=Lib.hid (fun W (hW:New w W)=>mbehind_any (fr:=fr+1) (b:=false) (h.new hW) hk hp (by omega) ⟨fun h=>(by cases h),fun ⟨i,g1,g2,g3⟩=>absurd g3 (hbe i g1 g2)⟩)
 have HFD:=Lib.hid hfd
 have HST:=Lib.hid (And.intro hn (And.intro hkey (And.intro hs hJ)))
 have q1:IntKind.u64.wrap (m.seq+1)=m.seq+1:=by rw [IntKind.wrap_u64];omega
 have q2:IntKind.i64.wrap ((fr:Int)+1)=(fr:Int)+1:=IntWalk.i64_in _ (by omega)
 have d1:decide (1099511627776≤m.seq)=false:=decide_eq_false (by omega)
 have HCL:=Lib.hid (And.intro h (And.intro hk hp))
 have HFR:=Lib.hid hfr
 clear h hk hsup h0 h1 hpick hfr h00 hseq hfd hbe hn hkey hs hJ hp hpe hge hmok
 have kA:=(New.refl w).alloc (.cells foundZero 35)
 have xA:=heap_alloc_new w (.cells foundZero 35)
 go_enter Tryz.func124,Tryz.ntmps124
 go_upto_region 1 with fail
 obtain ⟨gr,hgr⟩:∃ gr,gr=w.heap.size:=⟨_,rfl⟩
 rw [← hgr] at xA ⊢
 generalize w.alloc (.cells foundZero 35)=w1 at *
 have HGR:=Lib.hid hgr
 have HX:=Lib.hid xA
 have HK:=Lib.hid kA
 have HS1:=Lib.hid (HSP.out w1 kA)
 clear xA kA hgr HSP
 go_wp2_with fail
 refine HS1.out.mono ?_
 rintro e w2 hret
 obtain ⟨⟨I,ci,rfl,o2⟩,k2⟩:=HSR.out _ _ _ hret
 have hgz:gr<w1.heap.size:=(Array.getElem?_eq_some_iff.1 HX.out).1
 replace HX:=Lib.hid (k2.blockAt HX.out trivial)
 have HK2:=Lib.hid (HK.out.new k2)
 have HZI:=Lib.hid (And.intro (own_cap o2) (own_capMax o2))
 have HI:=Lib.hid (Row.of_own o2)
 clear HS1 HSR k2 o2 hret
 go_upto_region 4 with fail
 have kB:=(New.refl w2).alloc (.cells #[.int .i64 k',.int .i64 p,.int .i64 g] 33)
 have xB:=heap_alloc_new w2 (.cells #[.int .i64 k',.int .i64 p,.int .i64 g] 33)
 generalize w2.alloc (.cells #[.int .i64 k',.int .i64 p,.int .i64 g] 33)=w3 at *
 generalize hgp:w2.heap.size=gp at *
 replace HX:=Lib.hid (kB.blockAt HX.out trivial)
 have HXP:=Lib.hid xB
 have HG3:Hid (gr<w3.heap.size):=Lib.hid (Array.getElem?_eq_some_iff.1 HX.out).1
 have HK3:=Lib.hid (HK2.out.new kB)
 replace HI:=Lib.hid (HI.out.new kB)
 obtain ⟨p0,p1,p2⟩:=cs3 xB
 have HNW3:=Lib.hid (HNW.out w3 HK3.out (c.on w.heap.size fun _=>J.t+J.s+J.o+10))
 clear kB xB HNW HK2
 go_wp2_with fail
 refine HNW3.out.mono ?_
 rintro e w4 ⟨v,b,B,c1,rfl,mk,k4,z4,e4,st4⟩
 obtain ⟨Hd,hc,Bd,dc,rfl,r1,r2⟩:=mk
 obtain ⟨dn,hdn⟩:∃ dn,dn=m.data.length:=⟨_,rfl⟩
 rw [← hdn]
 have HS4:=Lib.hid (And.intro z4 (And.intro e4 st4))
 have HH:=Lib.hid r1
 have HZ34:=Lib.hid k4.size
 replace HX:=Lib.hid (k4.blockAt HX.out trivial)
 replace HXP:=Lib.hid (k4.blockAt HXP.out trivial)
 have HK4:=Lib.hid (HK3.out.new k4)
 replace HI:=Lib.hid (HI.out.new k4)
 clear p0 p1 p2 HNW3 k4 z4 e4 st4 r1 r2 hdn
 go_upto_region 7 with fail
 have kM:=(New.refl w4).alloc (.cells #[.int .u64 m.gen,.int .u64 m.seq,.int .i64 m.segs,.slice Hd 32 hc,.slice Bd dn dc] 142)
 have xM:=heap_alloc_new w4 (.cells #[.int .u64 m.gen,.int .u64 m.seq,.int .i64 m.segs,.slice Hd 32 hc,.slice Bd dn dc] 142)
 generalize w4.alloc (.cells #[.int .u64 m.gen,.int .u64 m.seq,.int .i64 m.segs,.slice Hd 32 hc,.slice Bd dn dc] 142)=w5 at *
 generalize hgm:w4.heap.size=gm at *
 rw [HFR.out] at xM
 have HXM:=Lib.hid xM
 replace HX:=Lib.hid (kM.blockAt HX.out trivial)
 replace HXP:=Lib.hid (kM.blockAt HXP.out trivial)
 have HK5:=Lib.hid (HK4.out.new kM)
 replace HI:=Lib.hid (Row.imp (HI.out.new kM) (E:=fun b=>w1.heap.size≤b∧b<w5.heap.size) fun b hb hd=>⟨hd,hb⟩)
 have HKM:=Lib.hid kM
 have HZ45:=Lib.hid kM.size
 have HKQ:Hid (w3.heap.size≤w5.heap.size∧gr<w5.heap.size∧gr<w3.heap.size):=Lib.hid (by have h3:=HZ34.out;have h4:=(Array.getElem?_eq_some_iff.1 HXM.out).1;have:=HG3.out;omega)
 replace HH:=Lib.hid (And.intro (HH.out.1.new kM) HH.out.2)
 obtain ⟨p0,p1,p2⟩:=cs3 HXP.out
 have y1:=cellOf HXM.out (k:=1) rfl
 have y2:=cellOf HXM.out (k:=2) rfl
 have y3:=cellOf HXM.out (k:=3) rfl
 have HOP5:=Lib.hid (HOP.out w5 HK5.out Hd I hc ci _ _ HH.out.1 HI.out HZI.out.1)
 clear kM xM HOP HK4
 go_wp2_with fail
 refine HOP5.out.mono ?_
 rintro e w6 ⟨k6,bl,Ao,co,fd,hfd,rfl,hbl,hlog,-⟩
 rw [HFD.out] at hfd
 subst hfd
 have hlog':LogOn w6 (fun b=>w5.heap.size≤b∧b≠bl) w5.heap.size bl q ⟨k',p,g,fr,openNext fr (m.seq+1),openHead fr id m.head,[]⟩ none 0 S:=hlog
 have HLOG:=Lib.hid hlog'
 have HK56:=Lib.hid k6.size
 have HBL:=Lib.hid hbl
 replace HX:=Lib.hid (k6.blockAt HX.out trivial)
 replace HXP:=Lib.hid (k6.blockAt HXP.out trivial)
 replace HXM:=Lib.hid (k6.blockAt HXM.out trivial)
 have HK6:=Lib.hid (HK5.out.new k6)
 replace HI:=Lib.hid (HI.out.new k6)
 have HKM6:=Lib.hid (HKM.out.new k6)
 have HSE:=Lib.hid (fun W (hW:New w6 W)=>sealed21_any (hlog'.log.new hW))
 have HHE:=Lib.hid (fun W (hW:New w6 W)=>head21_any (hlog'.log.new hW))
 dsimp only at HSE HHE
 have HBE6:=Lib.hid (fun W (hW:New w6 W)=>HBE.out W (HK6.out.new hW))
 clear p0 p1 p2 y1 y2 y3 HOP5 k6 hlog hlog' hbl HH HFD HBE
 have p0:∀ W,Keep (fun _=>True) w6.drew W→W.cell? ⟨gp,0,none⟩=some (.int .i64 k'):=fun W hW=>hW.cell_some (cellOf (w:=w6.drew) HXP.out (k:=0) rfl) trivial
 have p1:∀ W,Keep (fun _=>True) w6.drew W→W.cell? ⟨gp,1,none⟩=some (.int .i64 p):=fun W hW=>hW.cell_some (cellOf (w:=w6.drew) HXP.out (k:=1) rfl) trivial
 have p2:∀ W,Keep (fun _=>True) w6.drew W→W.cell? ⟨gp,2,none⟩=some (.int .i64 g):=fun W hW=>hW.cell_some (cellOf (w:=w6.drew) HXP.out (k:=2) rfl) trivial
 have hdr6:New w6 w6.drew:=Keep.drew (New.refl w6)
 have hcast:(((fr+1:Nat)):Int)=(fr:Int)+1:=by omega
 rw [hcast] at HBE6
 clear hcast
 go_upto_region 10 with fail
 refine hold_beginS (Keep (fun _=>True) w6.drew) (by kernel_rfl) ?_
 have n0:Keep (fun _=>True) w6.drew w6.drew:=Keep.refl _ _
 refine take0 0 n0 ?_
 refine take0 1 n0 ?_
 refine take0 2 n0 ?_
 refine take0 3 n0 ?_
 refine take0 4 n0 ?_
 refine take0 5 n0 ?_
 refine hold_step0 (i:=6) (by kernel_rfl) rfl rfl (fun K hK=>?_)
 go_simp
 refine (HSE.out _ (hdr6.new n0)).mono ?_
 rintro e w7 ⟨rfl,k7⟩
 go_wp2_with fail
 have n1:=Keep.new n0 k7
 refine hK.out _ _ n1 ?_
 clear hK K
 try simp only [Act.put,ly1,ly2,ly3,ly4,ly5,ly6]
 replace n0:=n1
 clear n1
 refine take0 7 n0 ?_
 refine hold_step0 (i:=8) (by kernel_rfl) rfl rfl (fun K hK=>?_)
 go_simp
 refine (HBE6.out _ (hdr6.new n0)).mono ?_
 rintro e w8 ⟨rfl,k8⟩
 go_wp2_with fail
 have n1:=Keep.new n0 k8
 refine hK.out _ _ n1 ?_
 clear hK K
 try simp only [Act.put,ly1,ly2,ly3,ly4,ly5,ly6]
 replace n0:=n1
 clear n1
 refine take0 9 n0 ?_
 refine wpAnyH_done (by kernel_rfl) ?_ _
 have kw8:New w6 w8:=hdr6.new n0
 have HK8:=Lib.hid kw8
 clear p0 p1 p2 n0 k7 k8 kw8 hdr6 HBE6
 go_upto_region 12 with fail
 go_cut [14] from 71 to 81 (fun s14 wx=>∃ (gf:Nat) (H:Option Addr) (hcH:Nat),s14=.pointer (some ⟨gf,0,none⟩)∧w8.heap.size≤gf∧wx.heap[gf]?=some (.cells #[.int .i64 k',.int .i64 p,.int .i64 g,.slice I 16 ci,.int .u64 m.gen,.int .u64 m.seq,.int .i64 fr,.int .i64 0,.slice H 32 hcH] 35 (0,0))∧Bs wx (fun b=>w8.heap.size≤b∧b≠gf) H 32 (openHead fr id m.head)∧(32≤hcH∧hcH≤9223372036854775807)∧New w8 wx)
 case first =>
  have HSE8:=Lib.hid (fun W (hW:New w8 W)=>HSE.out W (HK8.out.new hW))
  have HHE8:=Lib.hid (fun W (hW:New w8 W)=>HHE.out W (HK8.out.new hW))
  have hdr8:New w8 w8.drew:=Keep.drew (New.refl w8)
  have p0:∀ W,Keep (fun _=>True) w8.drew W→W.cell? ⟨gp,0,none⟩=some (.int .i64 k'):=fun W hW=>hW.cell_some (cellOf (w:=w8.drew) (HK8.out.blockAt HXP.out trivial) (k:=0) rfl) trivial
  have p1:∀ W,Keep (fun _=>True) w8.drew W→W.cell? ⟨gp,1,none⟩=some (.int .i64 p):=fun W hW=>hW.cell_some (cellOf (w:=w8.drew) (HK8.out.blockAt HXP.out trivial) (k:=1) rfl) trivial
  have p2:∀ W,Keep (fun _=>True) w8.drew W→W.cell? ⟨gp,2,none⟩=some (.int .i64 g):=fun W hW=>hW.cell_some (cellOf (w:=w8.drew) (HK8.out.blockAt HXP.out trivial) (k:=2) rfl) trivial
  have y0:∀ W,Keep (fun _=>True) w8.drew W→W.cell? ⟨gm,0,none⟩=some (.int .u64 m.gen):=fun W hW=>hW.cell_some (cellOf (w:=w8.drew) (HK8.out.blockAt HXM.out trivial) (k:=0) rfl) trivial
  have y1:∀ W,Keep (fun _=>True) w8.drew W→W.cell? ⟨gm,1,none⟩=some (.int .u64 m.seq):=fun W hW=>hW.cell_some (cellOf (w:=w8.drew) (HK8.out.blockAt HXM.out trivial) (k:=1) rfl) trivial
  refine hold_beginS (Keep (fun _=>True) w8.drew) (by kernel_rfl) ?_
  have n0:Keep (fun _=>True) w8.drew w8.drew:=Keep.refl _ _
  have hzd:Hid (w8.drew.heap.size=w8.heap.size):=Lib.hid rfl
  generalize w8.drew=wd at *
  refine take0 0 n0 ?_
  refine take0 1 n0 ?_
  refine take0 2 n0 ?_
  refine take0 3 n0 ?_
  refine take0 4 n0 ?_
  refine take0 5 n0 ?_
  refine take0 6 n0 ?_
  refine take0 8 n0 ?_
  clear p0 p1 p2 y0 y1
  refine hold_fork0 (i:=7) (j:=11) (by kernel_rfl) rfl rfl rfl rfl (fun K hK=>?_) (fun K hK=>?_)
  ·skip
   go_simp
   refine (HSE8.out _ (hdr8.new n0)).mono ?_
   rintro e w9 ⟨rfl,k_w9⟩
   go_wp2_with fail
   have n_w9:=Keep.new n0 k_w9
   refine hK.out _ _ n_w9 ?_
   clear hK K
   try simp only [Act.put,ly1,ly2,ly3,ly4,ly5,ly6]
   refine hold_fork0 (i:=9) (j:=11) (by kernel_rfl) rfl rfl rfl rfl (fun K hK=>?_) (fun K hK=>?_)
   ·skip
    go_simp
    refine (HHE8.out _ (hdr8.new n_w9)).mono ?_
    rintro e wa ⟨⟨H,hcH,rfl,oH⟩,k_wa⟩
    go_wp2_with fail
    have n_wa:=Keep.new n_w9 k_wa
    refine hK.out _ _ n_wa ?_
    clear hK K
    try simp only [Act.put,ly1,ly2,ly3,ly4,ly5,ly6]
    have bH:=Row.of_own oH
    have cH:=And.intro (own_cap oH) (own_capMax oH)
    refine take0 10 n_wa ?_
    refine hold_step0 (i:=11) (by kernel_rfl) rfl rfl (fun K hK=>?_)
    go_simp
    try go_wp2_with fail
    have k_wb:=(New.refl wa).alloc (.cells foundZero 35)
    have xF:=heap_alloc_new wa (.cells foundZero 35)
    have n_wb:=Keep.new n_wa k_wb
    refine hK.out _ _ n_wb ?_
    clear hK K
    try simp only [Act.put,ly1,ly2,ly3,ly4,ly5,ly6]
    generalize hnx:wa.alloc (.cells foundZero 35)=wb at *
    generalize hgf:wa.heap.size=gf at *
    have hgfl:w8.heap.size≤gf:=by rw [← hgf];exact (hdr8.new n_wa).size
    have bHs:Bs wb (fun b=>w8.heap.size≤b∧b≠gf) H 32 (openHead fr id m.head):=(bH.imp (E:=fun b=>w8.heap.size≤b∧b≠gf) fun b hb hd=>⟨Nat.le_trans (hdr8.new n_w9).size hd,by omega⟩).new k_wb
    have hszc:=Keep.size n_wb
    obtain ⟨f0,f1,f2,f3,f4,f5,f6,f7,f8⟩:=cs9 xF
    obtain ⟨z0,z1,z2,z3,z4,z5,z6,z7,z8⟩:=fz9 xF
    have hbf:w8.heap.size≤gf:=hgfl
    obtain ⟨hE,hKE⟩:=nine_cells xF (.int .i64 k') (.int .i64 p) (.int .i64 g) (.slice I 16 ci) (.int .u64 m.gen) (.int .u64 m.seq) (.int .i64 fr) (.int .i64 0) (.slice H 32 hcH)
    have nE:Keep (fun _=>True) wd _:=Keep.trans2 n_wb hKE fun b hb _=>by have:=hzd.out;show b≠gf;omega
    refine hold_step0 (i:=12) (by kernel_rfl) rfl rfl (fun K hK=>?_)
    go_simp
    try go_wp2_with fail
    clear f0 f1 f2 f3 f4 f5 f6 f7 f8 z0 z1 z2 z3 z4 z5 z6 z7 z8
    refine hK.out _ _ nE ?_
    clear hK K
    try simp only [Act.put,ly1,ly2,ly3,ly4,ly5,ly6]
    refine wpAnyH_done (by kernel_rfl) ?_ _
    generalize hwE:World.setCell _ _ _=wE at *
    go_wp2_with fail
    go_meet
    exact ⟨gf,H,hcH,rfl,hbf,hE,bHs.keep hKE fun b _ hb=>hb.2,cH,hdr8.new nE⟩
   ·skip
    go_simp
    try go_wp2_with fail
    have k_wa:=(New.refl w9).alloc (.cells foundZero 35)
    have xF:=heap_alloc_new w9 (.cells foundZero 35)
    have n_wa:=Keep.new n_w9 k_wa
    refine hK.out _ _ n_wa ?_
    clear hK K
    try simp only [Act.put,ly1,ly2,ly3,ly4,ly5,ly6]
    generalize hnx:w9.alloc (.cells foundZero 35)=wa at *
    generalize hgf:w9.heap.size=gf at *
    have hgfl:w8.heap.size≤gf:=by rw [← hgf];exact (hdr8.new n_w9).size
    refine hold_step0 (i:=9) (by kernel_rfl) rfl rfl (fun K hK=>?_)
    go_simp
    refine (HHE8.out _ (hdr8.new n_wa)).mono ?_
    rintro e wb ⟨⟨H,hcH,rfl,oH⟩,k_wb⟩
    go_wp2_with fail
    have n_wb:=Keep.new n_wa k_wb
    refine hK.out _ _ n_wb ?_
    clear hK K
    try simp only [Act.put,ly1,ly2,ly3,ly4,ly5,ly6]
    have bH:=Row.of_own oH
    have cH:=And.intro (own_cap oH) (own_capMax oH)
    refine take0 10 n_wb ?_
    have hga:gf<wa.heap.size:=(Array.getElem?_eq_some_iff.1 xF).1
    have xF:=k_wb.blockAt xF trivial
    have bHs:Bs wb (fun b=>w8.heap.size≤b∧b≠gf) H 32 (openHead fr id m.head):=bH.imp fun b _ hd=>⟨Nat.le_trans (hdr8.new n_wa).size hd,by omega⟩
    have hszc:=Keep.size n_wb
    obtain ⟨f0,f1,f2,f3,f4,f5,f6,f7,f8⟩:=cs9 xF
    obtain ⟨z0,z1,z2,z3,z4,z5,z6,z7,z8⟩:=fz9 xF
    have hbf:w8.heap.size≤gf:=hgfl
    obtain ⟨hE,hKE⟩:=nine_cells xF (.int .i64 k') (.int .i64 p) (.int .i64 g) (.slice I 16 ci) (.int .u64 m.gen) (.int .u64 m.seq) (.int .i64 fr) (.int .i64 0) (.slice H 32 hcH)
    have nE:Keep (fun _=>True) wd _:=Keep.trans2 n_wb hKE fun b hb _=>by have:=hzd.out;show b≠gf;omega
    refine hold_step0 (i:=12) (by kernel_rfl) rfl rfl (fun K hK=>?_)
    go_simp
    try go_wp2_with fail
    clear f0 f1 f2 f3 f4 f5 f6 f7 f8 z0 z1 z2 z3 z4 z5 z6 z7 z8
    refine hK.out _ _ nE ?_
    clear hK K
    try simp only [Act.put,ly1,ly2,ly3,ly4,ly5,ly6]
    refine wpAnyH_done (by kernel_rfl) ?_ _
    generalize hwE:World.setCell _ _ _=wE at *
    go_wp2_with fail
    go_meet
    exact ⟨gf,H,hcH,rfl,hbf,hE,bHs.keep hKE fun b _ hb=>hb.2,cH,hdr8.new nE⟩
  ·skip
   go_simp
   try go_wp2_with fail
   have k_w9:=(New.refl wd).alloc (.cells foundZero 35)
   have xF:=heap_alloc_new wd (.cells foundZero 35)
   have n_w9:=Keep.new n0 k_w9
   refine hK.out _ _ n_w9 ?_
   clear hK K
   try simp only [Act.put,ly1,ly2,ly3,ly4,ly5,ly6]
   generalize hnx:wd.alloc (.cells foundZero 35)=w9 at *
   generalize hgf:wd.heap.size=gf at *
   have hgfl:w8.heap.size≤gf:=by have:=hzd.out;omega
   refine hold_step0 (i:=7) (by kernel_rfl) rfl rfl (fun K hK=>?_)
   go_simp
   refine (HSE8.out _ (hdr8.new n_w9)).mono ?_
   rintro e wa ⟨rfl,k_wa⟩
   go_wp2_with fail
   have n_wa:=Keep.new n_w9 k_wa
   refine hK.out _ _ n_wa ?_
   clear hK K
   try simp only [Act.put,ly1,ly2,ly3,ly4,ly5,ly6]
   have hga:gf<w9.heap.size:=(Array.getElem?_eq_some_iff.1 xF).1
   have xF:=k_wa.blockAt xF trivial
   refine hold_step0 (i:=9) (by kernel_rfl) rfl rfl (fun K hK=>?_)
   go_simp
   refine (HHE8.out _ (hdr8.new n_wa)).mono ?_
   rintro e wb ⟨⟨H,hcH,rfl,oH⟩,k_wb⟩
   go_wp2_with fail
   have n_wb:=Keep.new n_wa k_wb
   refine hK.out _ _ n_wb ?_
   clear hK K
   try simp only [Act.put,ly1,ly2,ly3,ly4,ly5,ly6]
   have bH:=Row.of_own oH
   have cH:=And.intro (own_cap oH) (own_capMax oH)
   refine take0 10 n_wb ?_
   have xF:=k_wb.blockAt xF trivial
   have bHs:Bs wb (fun b=>w8.heap.size≤b∧b≠gf) H 32 (openHead fr id m.head):=bH.imp fun b _ hd=>⟨Nat.le_trans (hdr8.new n_wa).size hd,by have:=Keep.size k_wa;omega⟩
   have hszc:=Keep.size n_wb
   obtain ⟨f0,f1,f2,f3,f4,f5,f6,f7,f8⟩:=cs9 xF
   obtain ⟨z0,z1,z2,z3,z4,z5,z6,z7,z8⟩:=fz9 xF
   have hbf:w8.heap.size≤gf:=hgfl
   obtain ⟨hE,hKE⟩:=nine_cells xF (.int .i64 k') (.int .i64 p) (.int .i64 g) (.slice I 16 ci) (.int .u64 m.gen) (.int .u64 m.seq) (.int .i64 fr) (.int .i64 0) (.slice H 32 hcH)
   have nE:Keep (fun _=>True) wd _:=Keep.trans2 n_wb hKE fun b hb _=>by have:=hzd.out;show b≠gf;omega
   refine hold_step0 (i:=12) (by kernel_rfl) rfl rfl (fun K hK=>?_)
   go_simp
   try go_wp2_with fail
   clear f0 f1 f2 f3 f4 f5 f6 f7 f8 z0 z1 z2 z3 z4 z5 z6 z7 z8
   refine hK.out _ _ nE ?_
   clear hK K
   try simp only [Act.put,ly1,ly2,ly3,ly4,ly5,ly6]
   refine wpAnyH_done (by kernel_rfl) ?_ _
   generalize hwE:World.setCell _ _ _=wE at *
   go_wp2_with fail
   go_meet
   exact ⟨gf,H,hcH,rfl,hbf,hE,bHs.keep hKE fun b _ hb=>hb.2,cH,hdr8.new nE⟩
 case rest =>
  obtain ⟨gf,H,hcH,rfl,hgf,hF,hbH,hcc,kF⟩:=hcut
  have HF:=Lib.hid hF
  have HBH:=Lib.hid (And.intro hbH hcc)
  have HKF:=Lib.hid kF
  have HCC:=Lib.hid (concatr0_any Ao co wc)
  have hgrf:gr≠gf:=by
   have h1:=HK6.out.size
   have h2:=HK8.out.size
   have h3:=(Array.getElem?_eq_some_iff.1 HX.out).1
   omega
  clear hF hbH hcc kF hgf
  go_wp2_with fail
  refine HCC.out.mono ?_
  rintro e w9 ⟨rfl,k9⟩
  have kw9:New w8 w9:=HKF.out.new k9
  have HK9:=Lib.hid kw9
  replace HF:=Lib.hid (k9.blockAt HF.out trivial)
  replace HBH:=Lib.hid (And.intro (HBH.out.1.new k9) HBH.out.2)
  clear k9 kw9 HCC HKF
  go_wp2_with fail
  go_loopw [10,85] (fun s10 s85 wx=>s10=.pointer (some ⟨b,0,none⟩)∧s85=.int .i64 0∧wx=w9) (fun _ _ _=>0)
  case atStart=>exact ⟨rfl,rfl,rfl⟩
  case round =>
   obtain ⟨rfl,rfl,rfl⟩:=hrel
   go_upto_region 22 with fail
   have HKZ:Hid (New w6 wr):=Lib.hid (HK8.out.new HK9.out)
   have hz45:w4.heap.size≤w5.heap.size:=HZ45.out
   have stw:StateAt wr (c1.on w5.heap.size fun _=>xc) ⟨1,2,3⟩ b B s:=HS4.out.2.2.keep (HKM6.out.new HKZ.out) (fun j hj=>Col.on_old _ _ (Nat.lt_of_lt_of_le hj hz45)) fun _ _ _=>trivial
   have hx9:=(HK8.out.new HK9.out).blockAt HX.out trivial
   have hst:=HST.out
   have HSET:=Lib.hid (settled_any (J:=J) (stw.new (Keep.drew (New.refl wr))) hst.1 hst.2.1 hst.2.2.1 hst.2.2.2)
   have HX9:=Lib.hid hx9
   have f0:∀ W,Keep (fun b=>b≠gr) wr.drew W→W.cell? ⟨gf,0,none⟩=some (.int .i64 k'):=fun W hW=>hW.cell_some (cellOf (w:=wr.drew) HF.out (k:=0) rfl) (Ne.symm hgrf)
   have f1:∀ W,Keep (fun b=>b≠gr) wr.drew W→W.cell? ⟨gf,1,none⟩=some (.int .i64 p):=fun W hW=>hW.cell_some (cellOf (w:=wr.drew) HF.out (k:=1) rfl) (Ne.symm hgrf)
   have f2:∀ W,Keep (fun b=>b≠gr) wr.drew W→W.cell? ⟨gf,2,none⟩=some (.int .i64 g):=fun W hW=>hW.cell_some (cellOf (w:=wr.drew) HF.out (k:=2) rfl) (Ne.symm hgrf)
   have f3:∀ W,Keep (fun b=>b≠gr) wr.drew W→W.cell? ⟨gf,3,none⟩=some (.slice I 16 ci):=fun W hW=>hW.cell_some (cellOf (w:=wr.drew) HF.out (k:=3) rfl) (Ne.symm hgrf)
   have f4:∀ W,Keep (fun b=>b≠gr) wr.drew W→W.cell? ⟨gf,4,none⟩=some (.int .u64 m.gen):=fun W hW=>hW.cell_some (cellOf (w:=wr.drew) HF.out (k:=4) rfl) (Ne.symm hgrf)
   have f5:∀ W,Keep (fun b=>b≠gr) wr.drew W→W.cell? ⟨gf,5,none⟩=some (.int .u64 m.seq):=fun W hW=>hW.cell_some (cellOf (w:=wr.drew) HF.out (k:=5) rfl) (Ne.symm hgrf)
   have f6:∀ W,Keep (fun b=>b≠gr) wr.drew W→W.cell? ⟨gf,6,none⟩=some (.int .i64 fr):=fun W hW=>hW.cell_some (cellOf (w:=wr.drew) HF.out (k:=6) rfl) (Ne.symm hgrf)
   have f7:∀ W,Keep (fun b=>b≠gr) wr.drew W→W.cell? ⟨gf,7,none⟩=some (.int .i64 0):=fun W hW=>hW.cell_some (cellOf (w:=wr.drew) HF.out (k:=7) rfl) (Ne.symm hgrf)
   have f8:∀ W,Keep (fun b=>b≠gr) wr.drew W→W.cell? ⟨gf,8,none⟩=some (.slice H 32 hcH):=fun W hW=>hW.cell_some (cellOf (w:=wr.drew) HF.out (k:=8) rfl) (Ne.symm hgrf)
   clear stw hx9 hst
   refine hold_beginS (Keep (fun b=>b≠gr) wr.drew) (by kernel_rfl) ?_
   have n0:Keep (fun b=>b≠gr) wr.drew wr.drew:=Keep.refl _ _
   refine take0 0 n0 ?_
   refine take0 2 n0 ?_
   refine take0 3 n0 ?_
   refine hold_step0 (i:=1) (by kernel_rfl) rfl rfl (fun K hK=>?_)
   go_simp
   refine HSET.out.mono ?_
   rintro e w10 ⟨b',B',c',rfl,k10,z10,x10,st10⟩
   go_wp2_with fail
   have n1:=Keep.new n0 k10
   refine hK.out _ _ n1 ?_
   clear hK K
   try simp only [Act.put,ly1,ly2,ly3,ly4,ly5,ly6]
   replace n0:=n1
   clear n1
   refine take0 4 n0 ?_
   refine take0 5 n0 ?_
   have hxg:w10.heap[gr]?=some (.cells foundZero 35 (0,0)):=k10.blockAt (show wr.drew.heap[gr]?=_ from HX9.out) trivial
   have H10:=Lib.hid (And.intro k10 (And.intro z10 (And.intro x10 st10)))
   clear k10 z10 x10 st10 f0 f1 f2 f3 f4 f5 f6 f7 f8
   have d0:=cellOf hxg (k:=0) rfl
   have d1':=cellOf hxg (k:=1) rfl
   have d2:=cellOf hxg (k:=2) rfl
   have d3:=cellOf hxg (k:=3) rfl
   have d4:=cellOf hxg (k:=4) rfl
   have d5:=cellOf hxg (k:=5) rfl
   have d6:=cellOf hxg (k:=6) rfl
   have d7:=cellOf hxg (k:=7) rfl
   have d8:=cellOf hxg (k:=8) rfl
   obtain ⟨z0,z1,z2,z3,z4,z5,z6,z7,z8⟩:=fz9 hxg
   obtain ⟨hE,hKE⟩:=nine_cells hxg (.int .i64 k') (.int .i64 p) (.int .i64 g) (.slice I 16 ci) (.int .u64 m.gen) (.int .u64 m.seq) (.int .i64 fr) (.int .i64 0) (.slice H 32 hcH)
   refine hold_step0 (i:=6) (by kernel_rfl) rfl rfl (fun K hK=>?_)
   (go_simp;try go_wp2_with fail;clear d0 d1' d2 d3 d4 d5 d6 d7 d8 z0 z1 z2 z3 z4 z5 z6 z7 z8)
   skip
   have n1:=n0.trans hKE
   refine hK.out _ _ n1 ?_
   clear hK K
   try simp only [Act.put,ly1,ly2,ly3,ly4,ly5,ly6]
   replace n0:=n1
   clear n1
   refine take0 7 n0 ?_
   refine wpAnyH_done (by kernel_rfl) ?_ _
   generalize hwE:World.setCell _ _ _=wE at *
   have HE:=Lib.hid (And.intro hE hKE)
   clear hE hKE hwE n0 hxg
   have f0:wE.cell? ⟨gr,0,none⟩=some (.int .i64 k'):=cellOf HE.out.1 rfl
   have f1:wE.cell? ⟨gr,1,none⟩=some (.int .i64 p):=cellOf HE.out.1 rfl
   have f2:wE.cell? ⟨gr,2,none⟩=some (.int .i64 g):=cellOf HE.out.1 rfl
   have f3:wE.cell? ⟨gr,3,none⟩=some (.slice I 16 ci):=cellOf HE.out.1 rfl
   have f4:wE.cell? ⟨gr,4,none⟩=some (.int .u64 m.gen):=cellOf HE.out.1 rfl
   have f5:wE.cell? ⟨gr,5,none⟩=some (.int .u64 m.seq):=cellOf HE.out.1 rfl
   have f6:wE.cell? ⟨gr,6,none⟩=some (.int .i64 fr):=cellOf HE.out.1 rfl
   have f7:wE.cell? ⟨gr,7,none⟩=some (.int .i64 0):=cellOf HE.out.1 rfl
   have f8:wE.cell? ⟨gr,8,none⟩=some (.slice H 32 hcH):=cellOf HE.out.1 rfl
   go_wp2_with fail
   refine bodyPost_ret (v:=.tuple #[.pointer (some ⟨b',0,none⟩),.pointer (some ⟨bl,0,none⟩),.agg #[.int .i64 k',.int .i64 p,.int .i64 g,.slice I 16 ci,.int .u64 m.gen,.int .u64 m.seq,.int .i64 fr,.int .i64 0,.slice H 32 hcH],.int .i64 0]) (by simp [results,Tryz.results124,go_sem,f0,f1,f2,f3,f4,f5,f6,f7,f8]) rfl ?_
   clear f0 f1 f2 f3 f4 f5 f6 f7 f8
   obtain ⟨k10,z10,x10,st10⟩:=H10.out
   have hKE:=HE.out.2
   have kr:New wr w10:=(Keep.drew (New.refl wr)).new k10
   have kZ:=HKZ.out
   have k6r:New w6 w10:=kZ.new kr
   have hz3:=HK3.out.size
   have hz5:=HK5.out.size
   have hz6:=HK6.out.size
   have hzz:=kZ.size
   have hgr:=HGR.out
   have hz8:=HK8.out.size
   have hz86:w6.heap.size≤w8.heap.size:=hz8
   have zd:wr.heap.size≤b':=z10
   have hkq:=HKQ.out
   have hz56:=HK56.out
   have hz45:w4.heap.size≤w5.heap.size:=HZ45.out
   have hcg:c' gr=J.t+J.s+J.o+10:=(x10 gr (by show gr<wr.heap.size;omega)).trans ((Col.on_old _ _ (by omega)).trans ((HS4.out.2.1 gr (by omega)).trans (Col.on_new _ _ (by omega))))
   have hF:∀ b,b<w10.heap.size→J.has (c' b)∨c' b=0→b≠gr:=fun b _ hb e=>by
    rw [e,hcg] at hb
    rcases hb with hb|hb
    ·unfold Cols.has at hb;omega
    ·omega
   have hbl:=HBL.out
   have hx5:∀ j,w5.heap.size≤j→j<wr.heap.size→c' j=xc:=fun j h1 h2=>(x10 j h2).trans (Col.on_new _ _ h1)
   have hlw:bl<wr.heap.size:=Nat.lt_of_lt_of_le HLOG.out.log.lt hzz
   have hL:=HLOG.out.new k6r
   have x10':Ext wr (c1.on w5.heap.size fun _=>xc) c':=x10
   refine ⟨b',B',c',bl,I,ci,H,hcH,rfl,(HK6.out.new k6r).trans2 hKE fun b hb _=>by show b≠gr;omega,by omega,(((Col.on_ext c w _).trans HS4.out.2.1 hz3).trans (Col.on_ext c1 w5 fun _=>xc) (by omega)).trans x10' (by omega),st10.keep hKE (Ext.refl _ _) hF,⟨by omega,hx5 bl hbl hlw⟩,⟨?_,hL.disk.keep hKE fun b hb=>by have:=HCL.out.1.lt b hb;show b≠gr;omega,hL.size,hL.plan,hL.apart,hL.row,fun b hb=>HCL.out.1.beyond b hb.1⟩,?_,HZI.out.1,?_,HBH.out.2.1⟩
   ·have h0:=HLOG.out.log.imp (F:=fun b=>w5.heap.size≤b∧b≠bl∧c' b=xc) (fun b hlt hb=>⟨hb.1,hb.2,hx5 b hb.1 (by omega)⟩) (fun hb=>hb.2.1 rfl)
    have h1:=(h0.new k6r).keep hKE (by show bl≠gr;omega) (fun k hk=>by cases hk) fun b hb=>by show b≠gr;omega
    have h2:=h1.imp (F:=fun b=>w.heap.size≤b∧b≠bl∧c' b=xc) (fun b _ hb=>⟨by omega,hb.2⟩) (fun hb=>hb.2.1 rfl)
    exact ⟨h2.cells,h2.waits.rebase (by omega),h2.next0,h2.next1,h2.few,h2.out,h2.apart⟩
   ·exact (((HI.out.new k6r).keep hKE fun b _ hb=>by show b≠gr;omega).imp fun b _ hb=>⟨by omega,by omega⟩)
   ·have hb6:bl<w6.heap.size:=HLOG.out.log.lt
    exact (((HBH.out.1.new kr).keep hKE fun b _ hb=>by show b≠gr;omega).imp fun b _ hb=>⟨by omega,by omega⟩)
def foundCells (k p g:Nat) (I:Option Addr) (ci:Nat) (gen sq:Int) (se nr:Nat) (H:Option Addr) (hc:Nat):List Value:=[.int .i64 k,.int .i64 p,.int .i64 g,.slice I 16 ci,.int .u64 gen,.int .u64 sq,.int .i64 se,.int .i64 nr,.slice H 32 hc]
def vaultCells (bd bs bl:Nat) (k p g:Nat) (I:Option Addr) (ci:Nat) (gen sq:Int) (se nr:Nat) (H:Option Addr) (hc:Nat):Array Value:=#[.pointer (some ⟨bd,0,none⟩),.pointer (some ⟨bs,0,none⟩),.pointer (some ⟨bl,0,none⟩),.int .i64 k,.int .i64 p,.int .i64 g,.slice I 16 ci,.int .u64 gen,.int .u64 sq,.int .i64 se,.int .i64 nr,.slice H 32 hc]
theorem st_no28 {x:Nat}(h:x=7∨x=8):¬ (⟨1,2,3⟩:Cols).has x:=by
 rcases h with rfl|rfl <;> (rintro (e|e|e) <;> exact absurd e (by decide))
structure VaultAt (w:World) (c:Col) (base bv:Nat) (q:DiskB) (s:StateP) (lv:LogV) (A:Option Addr) (cl:Nat) (S:List UInt8) (k p g:Nat) (I:Option Addr) (ci:Nat) (gen sq:Int) (se nr:Nat) (H:Option Addr) (hc bs bl:Nat):Prop where
 cells:w.heap[bv]?=some (.cells (vaultCells q.bd bs bl k p g I ci gen sq se nr H hc) 151 (0,0))
 cv:c bv=8
 st:∃ B,StateAt w c ⟨1,2,3⟩ bs B s
 log:LogC w c base bl q lv A cl S
section
variable {w w':World}{c c':Col}{base bv:Nat}{q:DiskB}{s s':StateP}{lv:LogV}{A:Option Addr}{cl:Nat}{S:List UInt8}{k p g:Nat}{I:Option Addr}{ci:Nat}{gen sq:Int}{se nr:Nat}{H:Option Addr}{hc bs bl:Nat}
theorem VaultAt.lt (h:VaultAt w c base bv q s lv A cl S k p g I ci gen sq se nr H hc bs bl):bv<w.heap.size:=(Array.getElem?_eq_some_iff.1 h.cells).1
theorem VaultAt.turn {F:Nat→Prop}(h:VaultAt w c base bv q s lv A cl S k p g I ci gen sq se nr H hc bs bl) (hk:Keep F w w') (hx:Ext w c c') (hF:∀ b,b<w.heap.size→c b=7∨c b=8∨c b=0∨(⟨1,2,3⟩:Cols).has (c b)→F b):VaultAt w' c' base bv q s lv A cl S k p g I ci gen sq se nr H hc bs bl:=by
 obtain ⟨B,hst⟩:=h.st
 exact ⟨(hk.block bv h.lt (hF _ h.lt (.inr (.inl h.cv)))).trans h.cells,(hx _ h.lt).trans h.cv,⟨B,hst.keep hk hx fun b hb e=>hF b hb (e.elim (fun e=>.inr (.inr (.inr e))) fun e=>.inr (.inr (.inl e)))⟩,h.log.turn hk hx fun b hb e=>hF b hb (.inl e)⟩
theorem VaultAt.new (h:VaultAt w c base bv q s lv A cl S k p g I ci gen sq se nr H hc bs bl) (hk:New w w') (hx:Ext w c c'):VaultAt w' c' base bv q s lv A cl S k p g I ci gen sq se nr H hc bs bl:=h.turn hk hx fun _ _ _=>trivial
theorem vsave_any (h:VaultAt w c base bv q s lv A cl S k p g I ci gen sq se nr H hc bs bl) (hS:StateOk s):Calls Tryz.prog 60 #[.pointer (some ⟨bv,0,none⟩)] w fun e w'=>(∃ A' n' c',e=.returned (.slice A' n' c'))∧New w w':=by
 obtain ⟨B,hst⟩:=h.st
 have c1:w.cell? ⟨bv,1,none⟩=some (.pointer (some ⟨bs,0,none⟩)):=cellOf h.cells rfl
 have HS:=Lib.hid (stsave_any hst hS)
 clear h hst hS
 go_enter Tryz.func60,Tryz.ntmps60
 go_wp2_with fail
 refine HS.out.mono ?_
 rintro e w1 ⟨⟨A',c',rfl,-⟩,k1⟩
 go_wp2_with fail
 go_ret
 exact ⟨⟨_,_,_,rfl⟩,k1⟩
theorem vhead_any (h:VaultAt w c base bv q s lv A cl S k p g I ci gen sq se nr H hc bs bl):Calls Tryz.prog 61 #[.pointer (some ⟨bv,0,none⟩)] w fun e w'=>(∃ A' n' c',e=.returned (.slice A' n' c'))∧New w w':=by
 have c2:w.cell? ⟨bv,2,none⟩=some (.pointer (some ⟨bl,0,none⟩)):=cellOf h.cells rfl
 have HS:=Lib.hid (head21_any h.log.on.log)
 clear h
 go_enter Tryz.func61,Tryz.ntmps61
 go_wp2_with fail
 refine HS.out.mono ?_
 rintro e w1 ⟨⟨A',c',rfl,-⟩,k1⟩
 go_wp2_with fail
 go_ret
 exact ⟨⟨_,_,_,rfl⟩,k1⟩
theorem lv_mark {v:LogV}(h:v.waits=[]) (h2:v.next≤1000):v.fits ⟨2,v.next,[]⟩=true∧(v.g-v.sealed≠0→v.code ⟨2,v.next,[]⟩=0)∧(v.g-v.sealed≠0→v.append ⟨2,v.next,[]⟩=v.more ⟨2,v.next,[]⟩)∧∀ S,v.adisk ⟨2,v.next,[]⟩ S=S:=by
 have hr:recRight ⟨2,v.next,[]⟩=true:=by rw [recRight_def];exact decide_eq_true ⟨by show v.next≤_;omega,Nat.zero_le _,.inr ⟨rfl,rfl⟩⟩
 have hf:v.fits ⟨2,v.next,[]⟩=true:=by unfold LogV.fits recSize;rw [h,hr];rfl
 have hc:v.g-v.sealed≠0→v.code ⟨2,v.next,[]⟩=0:=fun hg=>by unfold LogV.code;rw [if_neg hg,if_pos hf]
 refine ⟨hf,hc,fun hg=>?_,fun S=>?_⟩
 ·unfold LogV.append;rw [if_neg (by rw [hc hg];decide),if_pos hf]
 ·unfold LogV.adisk;split
  ·rfl
  ·first|rfl|rw [if_pos hf]
def VBeginRet (w:World) (c:Col) (base:Nat) (q:DiskB) (s:StateP) (lv:LogV) (S:List UInt8) (k p g:Nat) (I:Option Addr) (ci:Nat) (gen sq:Int) (se nr:Nat) (H:Option Addr) (hc bs bl:Nat) (e:Ending) (w':World):Prop :=
 ∃ bv c' A cl,e=.returned (.pointer (some ⟨bv,0,none⟩))∧Keep (fun j=>j<w.heap.size∧j≠bl∧DiskOf q j) w w'∧Ext w c c'∧w.heap.size≤bv∧VaultAt w' c' base bv q s (lv.more ⟨2,lv.next,[]⟩) A cl S k p g I ci gen sq se nr H hc bs bl
theorem vbegin_any {B:StateB}(hst:StateAt w c ⟨1,2,3⟩ bs B s) (hl:LogC w c base bl q lv none 0 S) (hk:S.length=k*128) (hp:planRight k p g=true) (hg:0<g) (hlv:lv.sealed=0∧lv.waits=[]∧lv.g=g∧lv.next≤1000) (hz:placeOf S p 0=List.replicate 1024 0):
  Calls Tryz.prog 125 #[.pointer (some ⟨q.bd,0,none⟩),.pointer (some ⟨bs,0,none⟩),.pointer (some ⟨bl,0,none⟩),.agg #[.int .i64 k,.int .i64 p,.int .i64 g,.slice I 16 ci,.int .u64 gen,.int .u64 sq,.int .i64 se,.int .i64 nr,.slice H 32 hc]] w (VBeginRet w c base q s lv S k p g I ci gen sq se nr H hc bs bl):=by
 obtain ⟨hv0,hv1,hv2,hv3⟩:=hlv
 have hnx:=hl.on.log.next0
 have k1:=(New.refl w).alloc (.cells (foundCells k p g I ci gen sq se nr H hc).toArray 35)
 have x1:=heap_alloc_new w (.cells (foundCells k p g I ci gen sq se nr H hc).toArray 35)
 unfold foundCells at *
 obtain ⟨wa,hwa⟩:∃ wa,wa=w.alloc (.cells #[.int .i64 k,.int .i64 p,.int .i64 g,.slice I 16 ci,.int .u64 gen,.int .u64 sq,.int .i64 se,.int .i64 nr,.slice H 32 hc] 35):=⟨_,rfl⟩
 obtain ⟨gf,hgf⟩:∃ gf,gf=w.heap.size:=⟨_,rfl⟩
 rw [← hwa] at k1 x1
 rw [← hgf] at x1
 have hx:=Col.on_ext c w fun _=>9
 have HSE:=Lib.hid (fun W (hW:New w W)=>sealed21_any (hl.on.log.new hW))
 have HPL:=Lib.hid (fun W (hW:New w W)=>place_any (hl.on.disk.new hW) hk hp hg)
 have HNX:=Lib.hid (fun W (hW:New w W)=>next21_any (hl.on.log.new hW))
 rw [hz] at HPL
 rw [hv0] at HSE
 have y0:∀ W,New wa W→W.cell? ⟨gf,0,none⟩=some (.int .i64 k):=fun W hW=>cellOf (hW.blockAt x1 trivial) (k:=0) rfl
 have y1:∀ W,New wa W→W.cell? ⟨gf,1,none⟩=some (.int .i64 p):=fun W hW=>cellOf (hW.blockAt x1 trivial) (k:=1) rfl
 have y2:∀ W,New wa W→W.cell? ⟨gf,2,none⟩=some (.int .i64 g):=fun W hW=>cellOf (hW.blockAt x1 trivial) (k:=2) rfl
 have HH:=Lib.hid (And.intro hst hl)
 have HV:=Lib.hid (And.intro hv0 (And.intro hv1 (And.intro hv2 (And.intro hv3 (And.intro hnx hg)))))
 have HK:=Lib.hid (And.intro k1 (And.intro x1 (And.intro hx hgf)))
 have HWA:=Lib.hid hwa
 clear hst hl hk hp hg hz hv0 hv1 hv2 hv3 hnx k1 x1 hx
 go_enter Tryz.func125,Tryz.ntmps125
 go_upto_region 1 with fail
 rw [← hwa,← hgf]
 clear hwa hgf
 refine hold_begin (by kernel_rfl) ?_
 have n0:New wa wa.drew:=(New.refl wa).drew
 replace y0:=fun W (hW:New wa.drew W)=>y0 W (Keep.new n0 hW)
 replace y1:=fun W (hW:New wa.drew W)=>y1 W (Keep.new n0 hW)
 replace y2:=fun W (hW:New wa.drew W)=>y2 W (Keep.new n0 hW)
 refine take1 0 ?_
 refine take1 1 ?_
 refine take1 2 ?_
 refine take1 3 ?_
 refine hold_step (i:=4) (by kernel_rfl) rfl rfl (fun K hK=>?_)
 go_simp
 refine (HSE.out _ (HK.out.1.new n0)).mono ?_
 rintro e w1 ⟨rfl,k1⟩
 go_wp2_with fail
 refine hK.out _ _ k1 ?_
 clear hK K
 try simp only [Act.put,ly1,ly2,ly3,ly4,ly5,ly6]
 replace n0:=Keep.new n0 k1
 replace y0:=fun W (hW:New w1 W)=>y0 W (Keep.new k1 hW)
 replace y1:=fun W (hW:New w1 W)=>y1 W (Keep.new k1 hW)
 replace y2:=fun W (hW:New w1 W)=>y2 W (Keep.new k1 hW)
 refine hold_step (i:=5) (by kernel_rfl) rfl rfl (fun K hK=>?_)
 go_simp
 refine (HPL.out _ (HK.out.1.new n0)).mono ?_
 rintro e w2 ⟨⟨A2,c2,rfl,o2⟩,k2⟩
 go_wp2_with fail
 refine hK.out _ _ k2 ?_
 clear hK K
 try simp only [Act.put,ly1,ly2,ly3,ly4,ly5,ly6]
 replace n0:=Keep.new n0 k2
 replace y0:=fun W (hW:New w2 W)=>y0 W (Keep.new k2 hW)
 replace y1:=fun W (hW:New w2 W)=>y1 W (Keep.new k2 hW)
 replace y2:=fun W (hW:New w2 W)=>y2 W (Keep.new k2 hW)
 refine take1 6 ?_
 refine wpAnyH_done (by kernel_rfl) ?_ _
 have HT:=Lib.hid (trim_nought (Row.of_own o2) (by decide) (own_cap o2) (by decide))
 have H2:=Lib.hid (And.intro n0 (HK.out.1.new n0))
 clear n0 k1 k2 o2 y0 y1 y2 HSE HPL
 go_wp2_with fail
 refine HT.out.mono ?_
 rintro e w3 ⟨rfl,k3⟩
 have H3:=Lib.hid (And.intro (H2.out.1.new k3) (H2.out.2.new k3))
 clear k3 HT H2
 go_wp2_with fail
 refine (HNX.out _ H3.out.2).mono ?_
 rintro e w4 ⟨rfl,k4⟩
 have H4:=Lib.hid (And.intro (H3.out.1.new k4) (H3.out.2.new k4))
 clear k4 HNX H3
 have hw0:(lv.waits.length:Int)=0:=by rw [HV.out.2.1];rfl
 rw [hw0,Int.add_zero]
 have L4:=HH.out.2.new H4.out.2 (Ext.refl w c)
 have hlow:=HH.out.2.low
 have HAP:=Lib.hid (lappend_fit L4.on ⟨2,lv.next,[]⟩ none 0 0 rfl (D2:=fun _=>False) (Row.nil _ _ _ _) (Nat.le_refl _) (by decide) (fun _ hb=>hb.elim) (Nat.le_trans hlow.2 H4.out.2.size)
  (by rw [recRight_def];exact decide_eq_true ⟨by have:=HV.out.2.2.2.1;show lv.next≤_;omega,Nat.zero_le _,.inr ⟨rfl,rfl⟩⟩) HV.out.2.2.2.2.1 (by rw [HV.out.2.1];simp) (by rw [HV.out.2.1];intro x hx;cases hx) (by rw [HV.out.2.1];decide) (by rw [HV.out.2.1];intro h;exact absurd rfl h)
  (lv_mark HV.out.2.1 HV.out.2.2.2.1).1 (by rw [HV.out.1,HV.out.2.2.1];have:=HV.out.2.2.2.2.2;omega))
 have HL4:=Lib.hid L4
 clear L4 hlow hw0
 go_wp2_with fail
 refine HAP.out.mono ?_
 rintro e w5 ⟨rfl,k5,A5,c5,l5,b5⟩
 rw [(lv_mark HV.out.2.1 HV.out.2.2.2.1).2.2.2] at l5
 rw [(lv_mark HV.out.2.1 HV.out.2.2.2.1).2.2.1 (by rw [HV.out.1,HV.out.2.2.1];have:=HV.out.2.2.2.2.2;omega)] at l5
 have L5:=HL4.out.logged k5 l5 b5
 have hfar:gf≠bl∧DiskOf q gf:=by
  have h1:=HH.out.2.on.log.lt
  have h2:=HH.out.2.on.disk.lt
  have h3:=HK.out.2.2.2
  exact ⟨by omega,fun e=>by have:=h2 gf (.inl e);omega,fun e=>by have:=h2 gf (.inr (.inl e));omega,fun e=>by have:=h2 gf (.inr (.inr e));omega⟩
 have x5:w5.heap[gf]?=some (.cells #[.int .i64 k,.int .i64 p,.int .i64 g,.slice I 16 ci,.int .u64 gen,.int .u64 sq,.int .i64 se,.int .i64 nr,.slice H 32 hc] 35 (0,0)):=k5.blockAt (H4.out.1.blockAt HK.out.2.1 trivial) ⟨hfar.1,hfar.2,by simp [blk]⟩
 have H5:=Lib.hid (And.intro k5 L5)
 obtain ⟨f0,f1,f2,f3,f4,f5,f6,f7,f8⟩:=cs9 x5
 clear k5 l5 b5 L5 hfar x5 HAP
 have x6:=heap_alloc_new w5 (.cells (vaultCells q.bd bs bl k p g I ci gen sq se nr H hc) 151)
 have k6:=(New.refl w5).alloc (.cells (vaultCells q.bd bs bl k p g I ci gen sq se nr H hc) 151)
 have H6:=Lib.hid (And.intro x6 k6)
 clear x6 k6
 go_wp2_with fail
 go_ret
 obtain ⟨k5,L5⟩:=H5.out
 obtain ⟨x6,k6⟩:=H6.out
 have hst:=HH.out.1
 have h4:=H4.out.2
 have hz4:=h4.size
 have hz5:=k5.size
 have e4:Ext w4 c (c.on w4.heap.size fun _=>7):=Col.on_ext c w4 _
 have e5:=(c.on w4.heap.size fun _=>7).on_ext w5 fun _=>8
 have s5:=(hst.new h4).keep k5 e4 fun b hb e=>HL4.out.far fun e7=>by rcases e with e|e;exact st_no28 (.inl e7) e;omega
 refine ⟨w5.heap.size,_,A5,c5,rfl,?_,?_,Nat.le_trans hz4 hz5,x6,Col.on_new _ _ (Nat.le_refl _),⟨B,s5.keep k6 e5 fun _ _ _=>trivial⟩,L5.new k6 e5⟩
 ·exact ((Keep.of_new (D:=fun j=>j<w.heap.size) h4).imp fun j _ hj=>hj.1).trans2 (k5.trans2 k6 fun j _ _=>trivial) fun j hj hh=>⟨hh.2.1,hh.2.2,by simp [blk]⟩
 ·exact fun b hb=>(e5 b (by omega)).trans (e4 b (by omega))
end
structure LvOk (lv:LogV) (r:RecP):Prop where
 right:recRight r=true
 s0:0≤r.seq
 seq:r.seq=lv.next+(lv.waits.length:Int)
 wr:∀ x∈lv.waits,recRight x=true∧0≤x.seq
 wb:waitBytes lv.waits≤942
 fine:lv.waits.length≠0→SegFine lv.sealed lv.next lv.head lv.waits
 fit:lv.fits r=true
 room:lv.g-lv.sealed≠0
theorem LvOk.says {lv:LogV}{r:RecP}(h:LvOk lv r):lv.code r=0∧lv.append r=lv.more r∧∀ S,lv.adisk r S=S:=by
 have hc:lv.code r=0:=by unfold LogV.code;rw [if_neg h.room,if_pos h.fit]
 refine ⟨hc,?_,fun S=>?_⟩
 ·unfold LogV.append;rw [if_neg (by rw [hc];decide),if_pos h.fit]
 ·unfold LogV.adisk;split
  ·rfl
  ·first|rfl|rw [if_pos h.fit]
section
variable {w w':World}{c c':Col}{base bv:Nat}{q:DiskB}{s s':StateP}{lv:LogV}{A:Option Addr}{cl:Nat}{S:List UInt8}{k p g:Nat}{I:Option Addr}{ci:Nat}{gen sq:Int}{se nr:Nat}{H:Option Addr}{hc bs bl:Nat}
def VDoRet (w:World) (c:Col) (base bv:Nat) (q:DiskB) (s':StateP) (lv':LogV) (S:List UInt8) (k p g:Nat) (I:Option Addr) (ci:Nat) (gen sq:Int) (se nr:Nat) (H:Option Addr) (hc bl:Nat) (e:Ending) (w':World):Prop :=
 ∃ D cd N cn c' A' cl' bs',e=.returned (replyVal (noR 0) D cd N cn)∧Keep (fun j=>j<w.heap.size∧¬ (c j=7∨c j=8∨(⟨1,2,3⟩:Cols).has (c j))) w w'∧Ext w c c'∧VaultAt w' c' base bv q s' lv' A' cl' S k p g I ci gen sq se nr H hc bs' bl
theorem vdo_mkdir (h:VaultAt w c base bv q s lv A cl S k p g I ci gen sq se nr H hc bs bl) (hS:StInv s){o:OpP}{a:AskP}(hk:o.kind=2) (ho:o.data=[]) (h0:splitL [o.path]=0) (hm0:(makeT s.T (splitP o.path).1 2).2.1=0) (ha:asksOf o.kind=some a) (hr:rightOf o a=0) (hlp:o.path.length≤1000) (hlg:o.goal.length≤1000) (ht0:0≤o.till) (ht1:o.till≤1000) (hb9:(opBytes o a).length≤900) (hm:MaxLenAt w) (hL:LvOk lv ⟨1,lv.next+(lv.waits.length:Int),opBytes o a⟩):
  Calls Tryz.prog 98 #[.pointer (some ⟨bv,0,none⟩),opVal o none 0] w (VDoRet w c base bv q (mkdirT s (splitP o.path).1).2 (lv.more ⟨1,lv.next+(lv.waits.length:Int),opBytes o a⟩) S k p g I ci gen sq se nr H hc bl):=by
 have k0:=(New.refl w).alloc (.cells (opCells o none 0) 46)
 have x0:=heap_alloc_new w (.cells (opCells o none 0) 46)
 obtain ⟨wa,hwa⟩:∃ wa,wa=w.alloc (.cells (opCells o none 0) 46):=⟨_,rfl⟩
 obtain ⟨go,hgo⟩:∃ go,go=w.heap.size:=⟨_,rfl⟩
 rw [← hwa] at k0 x0
 rw [← hgo] at x0
 have k1:=(New.refl wa).alloc (.cells #[.int .i64 0,.int .i64 0,.slice none 0 0,.slice none 0 0,.int .i64 0,.int .i64 0,.int .i64 0,.int .i64 0,.int .u64 0,.bool false] 30)
 have x1:=heap_alloc_new wa (.cells #[.int .i64 0,.int .i64 0,.slice none 0 0,.slice none 0 0,.int .i64 0,.int .i64 0,.int .i64 0,.int .i64 0,.int .u64 0,.bool false] 30)
 obtain ⟨wb,hwb⟩:∃ wb,wb=wa.alloc (.cells #[.int .i64 0,.int .i64 0,.slice none 0 0,.slice none 0 0,.int .i64 0,.int .i64 0,.int .i64 0,.int .i64 0,.int .u64 0,.bool false] 30):=⟨_,rfl⟩
 obtain ⟨gr,hgr⟩:∃ gr,gr=go+1:=⟨_,rfl⟩
 have hgz:wa.heap.size=gr:=by rw [hgr,hgo,hwa];simp
 rw [← hwb] at k1 x1
 rw [hgz] at x1
 have k01:=k0.new k1
 have hx1:=Col.on_ext c w fun _=>9
 have hgo9:(c.on w.heap.size fun _=>9) go=9:=Col.on_new c _ (by omega)
 have hgr9:(c.on w.heap.size fun _=>9) gr=9:=Col.on_new c _ (by omega)
 obtain ⟨c1,hc1⟩:∃ c1,c1=c.on w.heap.size fun _=>9:=⟨_,rfl⟩
 rw [← hc1] at hx1 hgo9 hgr9
 have hv1:=h.new k01 hx1
 obtain ⟨B,hst⟩:=hv1.st
 have HV:=Lib.hid hv1
 have H1:=Lib.hid (And.intro k01 (And.intro hx1 (And.intro (k1.blockAt x0 trivial) (And.intro x1 (And.intro hgo9 hgr9)))))
 have HCP:=Lib.hid (stcopy_any (J:=⟨1,2,3⟩) hst (by have:=hS.tree.few;omega) (by have:=hS.snaps;omega) hst.ok)
 have HS:=Lib.hid (And.intro hS (And.intro h0 (And.intro hm0 (And.intro ha (And.intro hr (And.intro hlp (And.intro hlg (And.intro ht0 (And.intro ht1 hb9)))))))))
 have HM:=Lib.hid (hm.new k01)
 have HL:=Lib.hid hL
 have hdl:o.data.length=0:=by rw [ho];rfl
 have HKO:=Lib.hid (And.intro hk (And.intro hdl ho))
 have HWA:=Lib.hid (And.intro hwa (And.intro hgo (And.intro hwb hgr)))
 have HGR:Hid (w.heap.size≤gr):=Lib.hid (by omega)
 have c1':wb.cell? ⟨bv,1,none⟩=some (.pointer (some ⟨bs,0,none⟩)):=cellOf hv1.cells rfl
 unfold opVal at *
 unfold opCells at hwa ⊢
 rw [hk,hdl] at hwa ⊢
 clear h hS h0 hm0 ha hr hlp hlg ht0 ht1 hb9 hm hL hk ho hdl k0 x0 k1 x1 k01 hx1 hgo9 hgr9 hc1 hv1 hst hgz
 go_enter Tryz.func98,Tryz.ntmps98
 go_upto_region 1 with fail
 rw [← hwa,← hgo]
 clear hwa hgo
 rw [← hwb,← hgr]
 clear hwb hgr HWA
 go_wp2_with fail
 refine HCP.out.mono ?_
 rintro e w2 ⟨b2,B2,c2,rfl,k2,z2,x2,t2⟩
 replace HV:=Lib.hid (And.intro (HV.out.new k2 x2).log (And.intro (HV.out.new k2 x2).cells (HV.out.new k2 x2).cv))
 have hl2:=(Array.getElem?_eq_some_iff.1 H1.out.2.2.2.1).1
 have hl1:=(Array.getElem?_eq_some_iff.1 H1.out.2.2.1).1
 have H2:=Lib.hid (And.intro (H1.out.1.new k2) (And.intro (H1.out.2.1.trans x2 H1.out.1.size) (And.intro (k2.blockAt H1.out.2.2.1 trivial) (And.intro (k2.blockAt H1.out.2.2.2.1 trivial) (And.intro ((x2 _ hl1).trans H1.out.2.2.2.2.1) ((x2 _ hl2).trans H1.out.2.2.2.2.2))))))
 have HT:=Lib.hid t2
 replace HM:=Lib.hid (HM.out.new k2)
 have HW2:=Lib.hid (writes_any t2 o.fd)
 have HDO:=Lib.hid (sdo_mkdir (D:=fun _=>False) (E:=none) (cd:=0) t2 HS.out.1 HKO.out.1 HS.out.2.1 (by have:=HS.out.2.2.2.2.2.1;omega) (by have:=HS.out.2.2.2.2.2.2.1;omega) HM.out (by rw [HKO.out.2.2];exact Row.nil _ _ _ _) (by rw [HKO.out.2.2];exact Nat.le_refl _) (by decide) HS.out.2.2.2.2.2.2.2.1 (by have:=HS.out.2.2.2.2.2.2.2.2.1;omega))
 clear c1' k2 z2 x2 t2 HCP hl1 hl2 H1
 obtain ⟨o0,o1,o2,o3,o4,o5,o6,o7,o8⟩:=op_at H2.out.2.2.1
 rw [HKO.out.1] at o0
 rw [HKO.out.2.1] at o8
 unfold opVal opCells at HDO
 rw [HKO.out.1,HKO.out.2.1] at HDO
 go_wp2_with fail
 refine HW2.out.mono ?_
 rintro e w2' ⟨rfl,rfl⟩
 generalize (fdT s o.fd true).isSome=zw at *
 clear HW2
 go_wp2_with fail
 refine HDO.out.mono ?_
 rintro e w3 ⟨⟨D3,cd3,N3,cn3,rfl,-,-,-⟩,k3,c3,B3,x3,t3⟩
 have hR:(mkdirT s (splitP o.path).1).1=noR 0:=by unfold mkdirT;rw [HS.out.2.2.1]
 rw [hR]
 obtain ⟨s9,hs9⟩:∃ s9,s9=(mkdirT s (splitP o.path).1).2:=⟨_,rfl⟩
 rw [← hs9] at t3
 have HS9:=Lib.hid hs9
 have hF:∀ b,b<w2.heap.size→(c2 b=7∨c2 b=8∨c2 b=9)→b<w2.heap.size∧¬ (⟨1,2,3⟩:Cols).has (c2 b):=fun b hb e=>⟨hb,fun e2=>by unfold Cols.has at e2;dsimp only at e2;omega⟩
 have hlo:=(Array.getElem?_eq_some_iff.1 H2.out.2.2.1).1
 have hlr:=(Array.getElem?_eq_some_iff.1 H2.out.2.2.2.1).1
 have hlv:=(Array.getElem?_eq_some_iff.1 HV.out.2.1).1
 replace HV:=Lib.hid (And.intro (HV.out.1.turn k3 x3 fun b hb e=>hF b hb (.inl e)) (And.intro ((k3.block bv hlv (hF _ hlv (.inr (.inl HV.out.2.2)))).trans HV.out.2.1) ((x3 _ hlv).trans HV.out.2.2)))
 have H3:=Lib.hid (And.intro (show Keep (fun j=>j<w.heap.size∧¬ (c j=7∨c j=8∨(⟨1,2,3⟩:Cols).has (c j))) w w3 from (Keep.of_new H2.out.1).trans2 k3 fun j hj hh=>⟨Nat.lt_of_lt_of_le hj H2.out.1.size,by rw [H2.out.2.1 j hj];exact fun e=>hh.2 (.inr (.inr e))⟩) (And.intro (H2.out.2.1.trans x3 H2.out.1.size) (And.intro (k3.blockAt H2.out.2.2.1 (hF _ hlo (.inr (.inr H2.out.2.2.2.2.1)))) (And.intro (k3.blockAt H2.out.2.2.2.1 (hF _ hlr (.inr (.inr H2.out.2.2.2.2.2)))) (And.intro ((x3 _ hlo).trans H2.out.2.2.2.2.1) (And.intro ((x3 _ hlr).trans H2.out.2.2.2.2.2) H2.out.1.size))))))
 replace HT:=Lib.hid t3
 clear k3 x3 t3 HDO hF hlo hlr hlv hs9 hR H2 HM o0 o1 o2 o3 o4 o5 o6 o7 o8
 dsimp only [replyVal]
 unfold noR ReplyP.nodeId ReplyP.nd
 dsimp only
 have kR:=(New.refl w3).alloc (.cells #[.int .i64 0,.int .i64 0,.slice D3 0 cd3,.slice N3 0 cn3,.int .i64 0,.int .i64 0,.int .i64 0,.int .i64 0,.int .u64 0,.bool false] 30)
 have xR:=heap_alloc_new w3 (.cells #[.int .i64 0,.int .i64 0,.slice D3 0 cd3,.slice N3 0 cn3,.int .i64 0,.int .i64 0,.int .i64 0,.int .i64 0,.int .u64 0,.bool false] 30)
 obtain ⟨wr3,hwr3⟩:∃ wx,wx=w3.alloc (.cells #[.int .i64 0,.int .i64 0,.slice D3 0 cd3,.slice N3 0 cn3,.int .i64 0,.int .i64 0,.int .i64 0,.int .i64 0,.int .u64 0,.bool false] 30):=⟨_,rfl⟩
 obtain ⟨g7,hg7⟩:∃ g,g=w3.heap.size:=⟨_,rfl⟩
 rw [← hwr3] at kR xR
 rw [← hg7] at xR
 have hxx:=Col.on_ext c3 w3 fun _=>9
 have hg79:(c3.on w3.heap.size fun _=>9) g7=9:=Col.on_new c3 _ (by omega)
 obtain ⟨c4,hc4⟩:∃ c4,c4=c3.on w3.heap.size fun _=>9:=⟨_,rfl⟩
 rw [← hc4] at hxx hg79
 replace HV:=Lib.hid (And.intro (HV.out.1.new kR hxx) (And.intro (kR.blockAt HV.out.2.1 trivial) ((hxx _ (Array.getElem?_eq_some_iff.1 HV.out.2.1).1).trans HV.out.2.2)))
 replace HT:=Lib.hid (HT.out.keep kR hxx fun _ _ _=>trivial)
 replace H3:=Lib.hid (And.intro (H3.out.1.trans2 (Keep.of_new (D:=fun j=>j<w3.heap.size) kR) fun j hj hh=>Nat.lt_of_lt_of_le hj H3.out.1.size) (And.intro (H3.out.2.1.trans hxx H3.out.1.size) (And.intro (kR.blockAt H3.out.2.2.1 trivial) (And.intro (kR.blockAt H3.out.2.2.2.1 trivial) (And.intro ((hxx _ (Array.getElem?_eq_some_iff.1 H3.out.2.2.1).1).trans H3.out.2.2.2.2.1) ((hxx _ (Array.getElem?_eq_some_iff.1 H3.out.2.2.2.1).1).trans H3.out.2.2.2.2.2.1))))))
 have HR:=Lib.hid (And.intro xR hg79)
 have HTU:=Lib.hid (turns_mkdir o none 0 wr3 HKO.out.1)
 unfold opVal opCells at HTU
 rw [HKO.out.1,HKO.out.2.1] at HTU
 clear hc4 hxx hg79 kR
 obtain ⟨r0,r1,r2,r3,r4,r5,r6,r7,r8,r9⟩:=cells10 xR
 obtain ⟨o0,o1,o2,o3,o4,o5,o6,o7,o8⟩:=op_at H3.out.2.2.1
 rw [HKO.out.1] at o0
 rw [HKO.out.2.1] at o8
 clear xR
 go_upto_region 4 with fail
 rw [← hwr3,← hg7]
 clear hwr3 hg7
 go_wp2_with fail
 refine HTU.out.mono ?_
 rintro e w4 ⟨rfl,k4⟩
 replace HV:=Lib.hid (And.intro (HV.out.1.new k4 (Ext.refl _ _)) (And.intro (k4.blockAt HV.out.2.1 trivial) HV.out.2.2))
 replace HT:=Lib.hid (HT.out.new k4)
 replace H3:=Lib.hid (And.intro (H3.out.1.trans2 (Keep.of_new (D:=fun j=>j<wr3.heap.size) k4) fun j hj hh=>Nat.lt_of_lt_of_le hj H3.out.1.size) (And.intro H3.out.2.1 (And.intro (k4.blockAt H3.out.2.2.1 trivial) (And.intro (k4.blockAt H3.out.2.2.2.1 trivial) H3.out.2.2.2.2))))
 replace HR:=Lib.hid (And.intro (k4.blockAt HR.out.1 trivial) HR.out.2)
 have HEN:=Lib.hid (oenc_any o none 0 HS.out.2.2.2.1 HS.out.2.2.2.2.1 (D:=fun _=>False) w4 (by rw [HKO.out.2.2];exact Row.nil _ _ _ _) (by rw [HKO.out.2.2];exact Nat.le_refl _) (by have:=HS.out.2.2.2.2.2.1;omega) (by have:=HS.out.2.2.2.2.2.2.1;omega) (by rw [HKO.out.2.2];decide) HS.out.2.2.2.2.2.2.2.1 (by have:=HS.out.2.2.2.2.2.2.2.2.1;omega))
 unfold opVal opCells at HEN
 rw [HKO.out.1,HKO.out.2.1] at HEN
 clear k4 HTU r0 r1 r2 r3 r4 r5 r6 r7 r8 r9 o0 o1 o2 o3 o4 o5 o6 o7 o8
 obtain ⟨o0,o1,o2,o3,o4,o5,o6,o7,o8⟩:=op_at H3.out.2.2.1
 rw [HKO.out.1] at o0
 rw [HKO.out.2.1] at o8
 go_wp2_with fail
 refine HEN.out.mono ?_
 rintro e w5 ⟨⟨Ab,cb,rfl,ob⟩,k5⟩
 obtain ⟨body,hbody⟩:∃ body,body=opBytes o a:=⟨_,rfl⟩
 rw [← hbody] at ob HL ⊢
 have HBY:=Lib.hid hbody
 have hb9:body.length≤900:=by rw [hbody];exact HS.out.2.2.2.2.2.2.2.2.2
 clear hbody
 have hl4:∀ j,w4.heap.size≤j→j≠bl∧DiskOf q j∧some j≠blk A:=fun j hj=>by
  have h1:=HV.out.1.on.log.lt
  have h2:=HV.out.1.on.disk.lt
  exact ⟨by omega,⟨fun e=>by have:=h2 j (.inl e);omega,fun e=>by have:=h2 j (.inr (.inl e));omega,fun e=>by have:=h2 j (.inr (.inr e));omega⟩,fun e=>by have:=(HV.out.1.on.log.rowLt j e.symm).2;omega⟩
 replace HV:=Lib.hid (And.intro (HV.out.1.new k5 (Ext.refl _ _)) (And.intro (k5.blockAt HV.out.2.1 trivial) HV.out.2.2))
 replace HT:=Lib.hid (HT.out.new k5)
 replace H3:=Lib.hid (And.intro (H3.out.1.trans2 (Keep.of_new (D:=fun j=>j<w4.heap.size) k5) fun j hj hh=>Nat.lt_of_lt_of_le hj H3.out.1.size) (And.intro H3.out.2.1 (And.intro (k5.blockAt H3.out.2.2.1 trivial) (And.intro (k5.blockAt H3.out.2.2.2.1 trivial) H3.out.2.2.2.2))))
 replace HR:=Lib.hid (And.intro (k5.blockAt HR.out.1 trivial) HR.out.2)
 have HOB:=Lib.hid (And.intro ob hl4)
 obtain ⟨bn,hbn⟩:∃ bn,bn=body.length:=⟨_,rfl⟩
 rw [← hbn] at HOB ⊢
 have HBN:=Lib.hid (And.intro hbn hb9)
 clear k5 ob hbn hb9 hl4 HEN o0 o1 o2 o3 o4 o5 o6 o7 o8
 go_upto_region 9 with fail
 have hfv:=HV.out.1.far (b:=bv) (by rw [HV.out.2.2];decide)
 refine hold_beginS (Keep (fun j=>j≠bl∧DiskOf q j∧some j≠blk A) w5.drew) (by kernel_rfl) ?_
 have kdr:New w5 w5.drew:=(New.refl w5).drew
 have r2:∀ W,Keep (fun j=>j≠bl∧DiskOf q j∧some j≠blk A) w5.drew W→W.cell? ⟨bv,2,none⟩=some (.pointer (some ⟨bl,0,none⟩)):=fun W hW=>hW.cell_some (show w5.drew.cell? ⟨bv,2,none⟩=some (.pointer (some ⟨bl,0,none⟩)) from cellOf (kdr.blockAt HV.out.2.1 trivial) rfl) hfv
 replace HV:=Lib.hid (And.intro (HV.out.1.new kdr (Ext.refl _ _)) (And.intro (kdr.blockAt HV.out.2.1 trivial) HV.out.2.2))
 replace HT:=Lib.hid (HT.out.new kdr)
 replace H3:=Lib.hid (And.intro (H3.out.1.trans2 (Keep.of_new (D:=fun j=>j<w5.heap.size) kdr) fun j hj hh=>Nat.lt_of_lt_of_le hj H3.out.1.size) (And.intro H3.out.2.1 (And.intro (kdr.blockAt H3.out.2.2.1 trivial) (And.intro (kdr.blockAt H3.out.2.2.2.1 trivial) H3.out.2.2.2.2))))
 replace HR:=Lib.hid (And.intro (kdr.blockAt HR.out.1 trivial) HR.out.2)
 replace HOB:=Lib.hid (And.intro (own_keep HOB.out.1 kdr fun _ _=>trivial) HOB.out.2)
 clear kdr
 generalize w5.drew=w6 at *
 have n0:Keep (fun j=>j≠bl∧DiskOf q j∧some j≠blk A) w6 w6:=Keep.refl _ _
 obtain ⟨nx,hnx⟩:∃ nx,nx=lv.next+(lv.waits.length:Int):=⟨_,rfl⟩
 rw [← hnx] at HL
 have HNQ:=Lib.hid hnx
 have HNX:Hid (Calls Tryz.prog 131 #[.pointer (some ⟨bl,0,none⟩)] w6 fun e w'=>e=.returned (.int .u64 nx)∧New w6 w'):=Lib.hid (by rw [hnx];exact next21_any HV.out.1.on.log)
 clear hnx hfv
 refine take0 0 n0 ?_
 refine take0 1 n0 ?_
 refine take0 2 n0 ?_
 refine take0 3 n0 ?_
 refine take0 4 n0 ?_
 refine take0 5 n0 ?_
 refine take0 6 n0 ?_
 refine take0 7 n0 ?_
 refine take0 9 n0 ?_
 clear r2
 refine hold_step0 (i:=8) (by kernel_rfl) rfl rfl (fun C hC=>?_)
 go_simp
 refine HNX.out.mono ?_
 rintro e w7 ⟨rfl,k7⟩
 go_wp2_with fail
 have n1:=Keep.new n0 k7
 refine hC.out _ _ n1 ?_
 clear hC C HNX n0
 try simp only [Act.put,ly1,ly2,ly3,ly4,ly5,ly6]
 refine take0 10 n1 ?_
 replace HV:=Lib.hid (And.intro (HV.out.1.new k7 (Ext.refl _ _)) (And.intro (k7.blockAt HV.out.2.1 trivial) HV.out.2.2))
 replace HT:=Lib.hid (HT.out.new k7)
 replace H3:=Lib.hid (And.intro (H3.out.1.trans2 (Keep.of_new (D:=fun j=>j<w6.heap.size) k7) fun j hj hh=>Nat.lt_of_lt_of_le hj H3.out.1.size) (And.intro H3.out.2.1 (And.intro (k7.blockAt H3.out.2.2.1 trivial) (And.intro (k7.blockAt H3.out.2.2.2.1 trivial) H3.out.2.2.2.2))))
 replace HR:=Lib.hid (And.intro (k7.blockAt HR.out.1 trivial) HR.out.2)
 replace HOB:=Lib.hid (And.intro (own_keep HOB.out.1 k7 fun _ _=>trivial) HOB.out.2)
 have HLA:Hid (Calls Tryz.prog 130 #[.pointer (some ⟨bl,0,none⟩),.agg #[.int .i64 1,.int .u64 nx,.slice Ab bn cb]] w7 fun e w'=>e=.returned (.int .i64 0)∧Keep (fun j=>j≠bl∧DiskOf q j∧some j≠blk A) w7 w' ∧
   ∃ A' c',LogOn w' (fun b=>(c4 b=7∧b≠bl∧DiskOf q b)∨w7.heap.size≤b) base bl q (lv.more ⟨1,nx,body⟩) A' c' S∧(blk A'=blk A∨∀ k,blk A'=some k→w7.heap.size≤k)):=Lib.hid (by
  have hla:=lappend_fit HV.out.1.on ⟨1,nx,body⟩ Ab bn cb HBN.out.1.symm (D2:=fun b=>w4.heap.size≤b) (Row.of_own HOB.out.1) (own_cap HOB.out.1) (own_capMax HOB.out.1) HOB.out.2 HV.out.1.low.2 HL.out.right HL.out.s0 HL.out.seq HL.out.wr HL.out.wb HL.out.fine HL.out.fit HL.out.room
  rw [HL.out.says.1,HL.out.says.2.1,HL.out.says.2.2 S] at hla
  exact hla)
 clear k7
 refine hold_step0 (i:=11) (by kernel_rfl) rfl rfl (fun C hC=>?_)
 go_simp
 refine HLA.out.mono ?_
 rintro e w8 ⟨rfl,k8,A8,c8,l8,b8⟩
 go_wp2_with fail
 have n2:=n1.trans k8
 refine hC.out _ _ n2 ?_
 clear hC C n1 HLA
 try simp only [Act.put,ly1,ly2,ly3,ly4,ly5,ly6]
 refine take0 12 n2 ?_
 refine wpAnyH_done (by kernel_rfl) ?_ _
 have hfar:∀ {b:Nat},c4 b≠7→b≠bl∧DiskOf q b∧some b≠blk A:=fun hb=>HV.out.1.far hb
 have hx8:=Col.on_ext c4 w7 fun _=>7
 have L8:=HV.out.1.logged k8 l8 b8
 have hlo:=(Array.getElem?_eq_some_iff.1 H3.out.2.2.1).1
 have hlr:=(Array.getElem?_eq_some_iff.1 H3.out.2.2.2.1).1
 have hl7:=(Array.getElem?_eq_some_iff.1 HR.out.1).1
 have hlv:=(Array.getElem?_eq_some_iff.1 HV.out.2.1).1
 replace HT:=Lib.hid (HT.out.keep k8 hx8 fun b hb e=>hfar fun e7=>by rcases e with e|e;exact st_no28 (.inl e7) e;omega)
 replace H3:=Lib.hid (And.intro (H3.out.1.trans2 k8 fun j hj hh=>hfar (by have h1:=hh.2;have h2:=H3.out.2.1 j hj;omega)) (And.intro (H3.out.2.1.trans hx8 H3.out.1.size) (And.intro (k8.blockAt H3.out.2.2.1 (hfar (by have:=H3.out.2.2.2.2.1;omega))) (And.intro (k8.blockAt H3.out.2.2.2.1 (hfar (by have:=H3.out.2.2.2.2.2;omega))) (And.intro ((hx8 _ hlo).trans H3.out.2.2.2.2.1) ((hx8 _ hlr).trans H3.out.2.2.2.2.2))))))
 replace HR:=Lib.hid (And.intro (k8.blockAt HR.out.1 (hfar (by have:=HR.out.2;omega))) ((hx8 _ hl7).trans HR.out.2))
 replace HV:=Lib.hid (And.intro L8 (And.intro (k8.blockAt HV.out.2.1 (hfar (by have:=HV.out.2.2;omega))) ((hx8 _ hlv).trans HV.out.2.2)))
 obtain ⟨c9,hc9⟩:∃ c9,c9=c4.on w7.heap.size fun _=>7:=⟨_,rfl⟩
 rw [← hc9] at HT H3 HR HV
 clear hc9 n2 k8 l8 b8 hfar hx8 L8 hlo hlr hl7 hlv HOB HBN
 have v1:w8.cell? ⟨bv,1,none⟩=some (.pointer (some ⟨bs,0,none⟩)):=cellOf HV.out.2.1 rfl
 have z1:=frozenOf HV.out.2.1 1
 have hb1:=setCell_block HV.out.2.1 1 (.pointer (some ⟨b2,0,none⟩))
 have hk1:Keep (fun j=>j≠bv) w8 (w8.setCell ⟨bv,1,none⟩ (.pointer (some ⟨b2,0,none⟩))):=(Keep.refl _ w8).setCell (p:=⟨bv,1,none⟩) (fun hd=>absurd rfl hd) _
 go_upto_region 14 with fail
 obtain ⟨w9,hw9⟩:∃ w9,w9=w8.setCell ⟨bv,1,none⟩ (.pointer (some ⟨b2,0,none⟩)):=⟨_,rfl⟩
 rw [← hw9] at hb1 hk1 ⊢
 have ne:∀ {b:Nat},c9 b≠8→b≠bv:=fun hb e=>hb (by rw [e];exact HV.out.2.2)
 replace HT:=Lib.hid (HT.out.keep hk1 (Ext.refl _ _) fun b hb e=>ne fun e8=>by rcases e with e|e;exact st_no28 (.inr e8) e;omega)
 replace H3:=Lib.hid (And.intro (H3.out.1.trans2 hk1 fun j hj hh=>ne (by have h1:=hh.2;have h2:=H3.out.2.1 j hj;omega)) (And.intro H3.out.2.1 (And.intro (hk1.blockAt H3.out.2.2.1 (ne (by have:=H3.out.2.2.2.2.1;omega))) (And.intro (hk1.blockAt H3.out.2.2.2.1 (ne (by have:=H3.out.2.2.2.2.2;omega))) H3.out.2.2.2.2))))
 replace HR:=Lib.hid (And.intro (hk1.blockAt HR.out.1 (ne (by have:=HR.out.2;omega))) HR.out.2)
 have hvc:w9.heap[bv]?=some (.cells (vaultCells q.bd b2 bl k p g I ci gen sq se nr H hc) 151 (0,0)):=hb1
 replace HV:=Lib.hid (And.intro (HV.out.1.turn hk1 (Ext.refl _ _) fun b _ e=>ne (by omega)) (And.intro hvc HV.out.2.2))
 have HSF:=Lib.hid (vsafe_mkdir o none 0 w9 zw HKO.out.1)
 unfold opVal opCells at HSF
 rw [HKO.out.1,HKO.out.2.1] at HSF
 clear v1 z1 hb1 hk1 hw9 ne hvc
 obtain ⟨o0,o1,o2,o3,o4,o5,o6,o7,o8⟩:=op_at H3.out.2.2.1
 rw [HKO.out.1] at o0
 rw [HKO.out.2.1] at o8
 go_wp2_with fail
 refine HSF.out.mono ?_
 rintro e w10 ⟨rfl,k10⟩
 replace HV:=Lib.hid (And.intro (HV.out.1.new k10 (Ext.refl _ _)) (And.intro (k10.blockAt HV.out.2.1 trivial) HV.out.2.2))
 replace HT:=Lib.hid (HT.out.new k10)
 replace H3:=Lib.hid (And.intro (H3.out.1.trans2 (Keep.of_new (D:=fun j=>j<w9.heap.size) k10) fun j hj hh=>Nat.lt_of_lt_of_le hj H3.out.1.size) (And.intro H3.out.2.1 (And.intro (k10.blockAt H3.out.2.2.2.1 trivial) H3.out.2.2.2.2.2)))
 have x7:=k10.blockAt HR.out.1 trivial
 have hgg:g7≠gr∨g7=gr:=by omega
 clear k10 HSF o0 o1 o2 o3 o4 o5 o6 o7 o8
 obtain ⟨r0,r1,r2,r3,r4,r5,r6,r7,r8,r9⟩:=cells10 x7
 obtain ⟨d0,d1,d2,d3,d4,d5,d6,d7,d8,d9⟩:=cells10 H3.out.2.2.1
 obtain ⟨z0,z1,z2,z3,z4,z5,z6,z7,z8,z9⟩:=frozen10 H3.out.2.2.1
 clear x7 hgg
 go_wp2_with fail
 clear d0 d1 d2 d3 d4 d5 d6 d7 d8 d9 z0 z1 z2 z3 z4 z5 z6 z7 z8 z9 r0 r1 r2 r3 r4 r5 r6 r7 r8 r9
 obtain ⟨hE,hKE⟩:=ten_cells H3.out.2.2.1 (.int .i64 0) (.int .i64 0) (.slice D3 0 cd3) (.slice N3 0 cn3) (.int .i64 0) (.int .i64 0) (.int .i64 0) (.int .i64 0) (.int .u64 0) (.bool false)
 generalize hwE:World.setCell _ _ _=wE at *
 obtain ⟨f0,f1,f2,f3,f4,f5,f6,f7,f8,f9⟩:=cells10 hE
 try simp only [Exit.inBlock,Exit.then]
 refine bodyPost_ret (v:=replyVal (noR 0) D3 cd3 N3 cn3) (by simp [results,Tryz.results98,go_sem,f0,f1,f2,f3,f4,f5,f6,f7,f8,f9,replyVal,noR,ReplyP.nodeId,ReplyP.nd]) rfl ?_
 rw [← HS9.out,← HBY.out,← HNQ.out]
 have ne:∀ {b:Nat},c9 b≠9→b≠gr:=fun hb e=>hb (by rw [e];exact H3.out.2.2.2)
 refine ⟨D3,cd3,N3,cn3,c9,A8,c8,b2,rfl,H3.out.1.trans2 hKE fun j hj hh=>?_,H3.out.2.1,(hKE.block bv (Array.getElem?_eq_some_iff.1 HV.out.2.1).1 (ne (by have:=HV.out.2.2;omega))).trans HV.out.2.1,HV.out.2.2,⟨B3,HT.out.keep hKE (Ext.refl _ _) fun b hb e=>ne fun e9=>by (rcases e with e|e;(unfold Cols.has at e;dsimp only at e;omega);omega)⟩,HV.out.1.turn hKE (Ext.refl _ _) fun b _ e=>ne (by omega)⟩
 show j≠gr
 have h9:=HGR.out
 omega
end
section
variable {P:Program}{ops:Array Oper}{Q:Exit→Act→World→Prop}{md:Region.Mode}{Ws:List Nat}{w0:World}{fuel:Nat}{listed:Array Bool}{a:Act}{w:World}
def HVs (P:Program) (md:Region.Mode) (ops:Array Oper) (Q:Exit→Act→World→Prop) (Ws:List Nat) (w0:World) (fuel:Nat) (listed:Array Bool) (a:Act) (w:World):Prop :=
 wpAnyW P md ops Q Ws (fun _=>True) (New w0) fuel listed a w
theorem hvs_begin (Ws:List Nat){id:Nat}(hm:P.follows .mixedOrders=true) (h:HVs P .any ops Q Ws w.drew ops.size (Array.replicate ops.size false) a w.drew):(Code.region id ops true).wp P Q a w :=
 holdW_begin Ws _ _ hm h
theorem hvs_take (i:Nat){oi:Oper}{a':Act}{v:Value}(hT:New w0 w) (h:HVs P md ops Q Ws w0 fuel (listed.setIfInBounds i true) a' w) (hi:ops[i]?=some oi:=by rfl)
  (hs:Region.noSelect ops=true:=by kernel_rfl) (hf:Region.free md ops listed i=true:=by kernel_rfl) (hr:(Region.ready md ops listed).contains i=true:=by kernel_rfl)
  (hc:chkW md ops (pathOf md ops i) i=true:=by kernel_rfl) (hl:Ws.all (fun k=>(pathOf md ops i).contains k)=true:=by kernel_rfl) (hcl:clearB (pathOf md ops i) listed=true:=by kernel_rfl)
  (hQ:∀ c a w,Q (.panic c) (a.put oi.dst v) w→Q (.panic c) a w:=by exact fun _ _ _ h=>h) (hw:Region.wanted oi (yielded ops a.tmps)=true:=by rfl)
  (hy:∀ w',New w0 w'→(execOp a.eval oi).run P w'=.ok (.value v) w':=by intro w' hN;go_simp;try with_reducible rfl) (ha:a.put oi.dst v=a':=by (conv=>lhs;simp only [Act.put,ly1,ly2,ly3,ly4,ly5,ly6]);try exact rfl):HVs P md ops Q Ws w0 (fuel+1) listed a w :=
 wpAnyW_firstP hi (Region.noSelect_spec hs) hQ hc (fun k hk=>by simpa using List.all_eq_true.1 hl k hk) fuel listed a w (Region.free_spec hi hf) (by simpa using hr) hcl (.inl ⟨hw,hy⟩) trivial hT (ha▸h)
theorem hvs_pure (i:Nat){oi:Oper}{a':Act}{v:Value}(h:HVs P md ops Q Ws w0 fuel (listed.setIfInBounds i true) a' w) (hi:ops[i]?=some oi:=by rfl)
  (hs:Region.noSelect ops=true:=by kernel_rfl) (hf:Region.free md ops listed i=true:=by kernel_rfl) (hr:(Region.ready md ops listed).contains i=true:=by kernel_rfl)
  (hc:Ws.contains i=false:=by rfl) (hT:clearB Ws listed=false:=by kernel_rfl)
  (hQ:∀ c a w,Q (.panic c) (a.put oi.dst v) w→Q (.panic c) a w:=by exact fun _ _ _ h=>h) (hw:Region.wanted oi (yielded ops a.tmps)=true:=by rfl)
  (hy:∀ w',True→(execOp a.eval oi).run P w'=.ok (.value v) w':=by intro w' hN;go_simp;try with_reducible rfl) (ha:a.put oi.dst v=a':=by (conv=>lhs;simp only [Act.put,ly1,ly2,ly3,ly4,ly5,ly6]);try exact rfl):HVs P md ops Q Ws w0 (fuel+1) listed a w :=
 holdW_read ⟨trivial,fun hcl=>(by rw [hT] at hcl;cases hcl)⟩ hi hs hf hr hc hQ hw hy (ha▸h)
theorem hvs_step (i:Nat){o:Oper}(hr:Region.ready md ops listed=[i]) (ho:ops[i]?=some o) (hw:Region.wanted o (yielded ops a.tmps)=true)
  (h:∀ K:Act→World→Prop,Hid (∀ a' w',New w0 w'→HVs P md ops Q Ws w0 fuel (listed.setIfInBounds i true) a' w'→K a' w')→Oper.wp P o a w K Q):HVs P md ops Q Ws w0 (fuel+1) listed a w :=
 holdW_step hr ho hw fun K hK=>h K (Lib.hid fun a' w' hN hk=>hK.out a' w' ⟨trivial,fun _=>hN⟩ hk)
theorem hvs_write (i:Nat){o:Oper}(hr:Region.ready md ops listed=[i]) (ho:ops[i]?=some o) (hw:Region.wanted o (yielded ops a.tmps)=true) (hW:clearB Ws (listed.setIfInBounds i true)=false)
  (h:∀ K:Act→World→Prop,Hid (∀ a' w',HVs P md ops Q Ws w0 fuel (listed.setIfInBounds i true) a' w'→K a' w')→Oper.wp P o a w K Q):HVs P md ops Q Ws w0 (fuel+1) listed a w :=
 holdW_step hr ho hw fun K hK=>h K (Lib.hid fun a' w' hk=>hK.out a' w' ⟨trivial,fun hc=>(by rw [hW] at hc;cases hc)⟩ hk)
theorem hvs_done (hr:Region.ready md ops listed=[]) (h:Q .normal a w) (fuel:Nat):HVs P md ops Q Ws w0 fuel listed a w:=wpAnyW_done hr h fuel
end
section
variable {w w':World}{c c':Col}{base bv:Nat}{q:DiskB}{s s':StateP}{lv:LogV}{A:Option Addr}{cl:Nat}{S:List UInt8}{k p g:Nat}{I:Option Addr}{ci:Nat}{gen sq:Int}{se nr:Nat}{H:Option Addr}{hc bs bl:Nat}
theorem vfound_any (h:VaultAt w c base bv q s lv A cl S k p g I ci gen sq se nr H hc bs bl){D1 D2:Nat→Prop}{id hd:List UInt8}(hI:Bs w D1 I 16 id) (hH:Bs w D2 H 32 hd):
  Calls Tryz.prog 97 #[.pointer (some ⟨bv,0,none⟩)] w fun e w'=>(∃ I' ci' H' hc',e=.returned (.agg #[.int .i64 k,.int .i64 p,.int .i64 g,.slice I' 16 ci',.int .u64 gen,.int .u64 sq,.int .i64 se,.int .i64 nr,.slice H' 32 hc']))∧New w w':=by
 have hv:w.heap[bv]?=some (.cells #[.pointer (some ⟨q.bd,0,none⟩),.pointer (some ⟨bs,0,none⟩),.pointer (some ⟨bl,0,none⟩),.int .i64 k,.int .i64 p,.int .i64 g,.slice I 16 ci,.int .u64 gen,.int .u64 sq,.int .i64 se,.int .i64 nr,.slice H 32 hc] 151 (0,0)):=h.cells
 have k0:=(New.refl w).alloc (.cells foundZero 35)
 have x0:=heap_alloc_new w (.cells foundZero 35)
 obtain ⟨wa,hwa⟩:∃ wa,wa=w.alloc (.cells foundZero 35):=⟨_,rfl⟩
 obtain ⟨ga,hga⟩:∃ ga,ga=w.heap.size:=⟨_,rfl⟩
 rw [← hwa] at k0 x0
 rw [← hga] at x0
 have hva:=k0.blockAt hv trivial
 have v3:=cellOf hva (k:=3) rfl
 have v4:=cellOf hva (k:=4) rfl
 have v5:=cellOf hva (k:=5) rfl
 have v6:=cellOf hva (k:=6) rfl
 have v7:=cellOf hva (k:=7) rfl
 have v8:=cellOf hva (k:=8) rfl
 have v9:=cellOf hva (k:=9) rfl
 have va:=cellOf hva (k:=10) rfl
 have vb:=cellOf hva (k:=11) rfl
 have k1:=(New.refl wa).alloc (.cells #[.int .i64 k,.int .i64 p,.int .i64 g,.slice I 16 ci,.int .u64 gen,.int .u64 sq,.int .i64 se,.int .i64 nr,.slice H 32 hc] 35)
 have x1:=heap_alloc_new wa (.cells #[.int .i64 k,.int .i64 p,.int .i64 g,.slice I 16 ci,.int .u64 gen,.int .u64 sq,.int .i64 se,.int .i64 nr,.slice H 32 hc] 35)
 obtain ⟨wb,hwb⟩:∃ wb,wb=wa.alloc (.cells #[.int .i64 k,.int .i64 p,.int .i64 g,.slice I 16 ci,.int .u64 gen,.int .u64 sq,.int .i64 se,.int .i64 nr,.slice H 32 hc] 35):=⟨_,rfl⟩
 obtain ⟨gb,hgb⟩:∃ gb,gb=wa.heap.size:=⟨_,rfl⟩
 rw [← hwb] at k1 x1
 rw [← hgb] at x1
 have k01:=k0.new k1
 have HX:=Lib.hid (And.intro (k1.blockAt x0 trivial) (And.intro x1 (And.intro k01 (And.intro (show w.heap.size≤ga by omega) (show ga<gb by have:=(Array.getElem?_eq_some_iff.1 x0).1;omega)))))
 have HI:=Lib.hid (fun W (hW:New wb W)=>clone_bytes _ I 16 ci id W ((hI.new k01).new hW) (by decide))
 have HH:=Lib.hid (fun W (hW:New wb W)=>clone_bytes _ H 32 hc hd W ((hH.new k01).new hW) (by decide))
 have HWA:=Lib.hid (And.intro hwa (And.intro hga (And.intro hwb hgb)))
 clear h hI hH hv hva k0 x0 k1 x1 k01
 unfold foundZero at hwa
 go_enter Tryz.func97,Tryz.ntmps97
 go_upto_region 1 with fail
 rw [← hwa,← hga]
 clear hga hwa
 go_upto_region 2 with fail
 rw [← hwb,← hgb]
 clear hgb hwb HWA v3 v4 v5 v6 v7 v8 v9 va vb
 have d:New wb wb.drew:=(New.refl wb).drew
 have r3:∀ W,New wb.drew W→W.cell? ⟨gb,3,none⟩=some (.slice I 16 ci):=fun W hW=>cellOf ((d.new hW).blockAt HX.out.2.1 trivial) (k:=3) rfl
 have r8:∀ W,New wb.drew W→W.cell? ⟨gb,8,none⟩=some (.slice H 32 hc):=fun W hW=>cellOf ((d.new hW).blockAt HX.out.2.1 trivial) (k:=8) rfl
 refine hvs_begin [7,9] (by kernel_rfl) ?_
 have n0:New wb.drew wb.drew:=New.refl _
 refine hvs_take 0 n0 ?_
 refine hvs_take 1 n0 ?_
 refine hvs_take 3 n0 ?_
 refine hvs_take 4 n0 ?_
 clear r3 r8
 refine hvs_step 2 (by kernel_rfl) rfl rfl (fun K hK=>?_)
 go_simp
 refine (HI.out _ (d.new n0)).mono ?_
 rintro e w1 ⟨⟨I',ci',rfl,-⟩,k1⟩
 go_wp2_with fail
 refine hK.out _ _ k1 ?_
 clear hK K
 try simp only [Act.put,ly1,ly2,ly3,ly4,ly5,ly6]
 refine hvs_take 6 k1 ?_
 refine hvs_step 5 (by kernel_rfl) rfl rfl (fun K hK=>?_)
 go_simp
 refine (HH.out _ (d.new k1)).mono ?_
 rintro e w2 ⟨⟨H',hc',rfl,-⟩,k2⟩
 go_wp2_with fail
 have n2:=k1.new k2
 refine hK.out _ _ n2 ?_
 clear hK K
 try simp only [Act.put,ly1,ly2,ly3,ly4,ly5,ly6]
 have xb:=(d.new n2).blockAt HX.out.2.1 trivial
 have z3:=frozenOf xb 3
 have b3:=setCell_block xb 3 (.slice I' 16 ci')
 refine hvs_write 7 (by kernel_rfl) rfl rfl (by kernel_rfl) (fun K hK=>?_)
 have c3:=cellOf xb (k:=3) rfl
 go_simp
 refine hK.out _ _ ?_
 clear hK K
 try simp only [Act.put,ly1,ly2,ly3,ly4,ly5,ly6]
 have q3:Keep (fun b=>b≠gb) w2 (w2.setCell ⟨gb,3,none⟩ (.slice I' 16 ci')):=(Keep.refl _ w2).setCell (p:=⟨gb,3,none⟩) (fun hd=>absurd rfl hd) _
 obtain ⟨w3,hw3⟩:∃ w3,w3=w2.setCell ⟨gb,3,none⟩ (.slice I' 16 ci'):=⟨_,rfl⟩
 rw [← hw3] at b3 q3 ⊢
 clear hw3 z3 c3
 refine hvs_pure 8 ?_
 have z8:=frozenOf b3 8
 have c8:=cellOf b3 (k:=8) rfl
 have b8:=setCell_block b3 8 (.slice H' 32 hc')
 refine hvs_write 9 (by kernel_rfl) rfl rfl (by kernel_rfl) (fun K hK=>?_)
 go_simp
 refine hK.out _ _ ?_
 clear hK K
 try simp only [Act.put,ly1,ly2,ly3,ly4,ly5,ly6]
 have q8:=q3.setCell (p:=⟨gb,8,none⟩) (fun hd=>absurd rfl hd) (.slice H' 32 hc')
 obtain ⟨w4,hw4⟩:∃ w4,w4=w3.setCell ⟨gb,8,none⟩ (.slice H' 32 hc'):=⟨_,rfl⟩
 rw [← hw4] at b8 q8 ⊢
 clear hw4 z8 c8
 refine hvs_done (by kernel_rfl) ?_ _
 have xa:=(q8.blockAt ((d.new n2).blockAt HX.out.1 trivial) (show ga≠gb by have:=HX.out.2.2.2.2;omega))
 have kE:Keep (fun b=>b<w.heap.size) w w4:=(Keep.of_new (HX.out.2.2.1.new (d.new n2))).trans2 q8 fun b hb _=>by (show b≠gb);have:=HX.out.2.2.2;omega
 have xb':w4.heap[gb]?=some (.cells #[.int .i64 k,.int .i64 p,.int .i64 g,.slice I' 16 ci',.int .u64 gen,.int .u64 sq,.int .i64 se,.int .i64 nr,.slice H' 32 hc'] 35 (0,0)):=b8
 have H4:=Lib.hid (And.intro kE xa)
 obtain ⟨f0,f1,f2,f3,f4,f5,f6,f7,f8⟩:=cs9 xb'
 unfold foundZero at xa
 obtain ⟨e0,e1,e2,e3,e4,e5,e6,e7,e8⟩:=cs9 xa
 obtain ⟨z0,z1,z2,z3,z4,z5,z6,z7,z8⟩:=fz9 xa
 clear xb b3 q3 b8 q8 xa kE xb' n2 k1 k2 n0 d
 go_wp2_with fail
 clear f0 f1 f2 f3 f4 f5 f6 f7 f8 e0 e1 e2 e3 e4 e5 e6 e7 e8 z0 z1 z2 z3 z4 z5 z6 z7 z8
 have hxa:w4.heap[ga]?=some (.cells #[.int .i64 0,.int .i64 0,.int .i64 0,.slice none 0 0,.int .u64 0,.int .u64 0,.int .i64 0,.int .i64 0,.slice none 0 0] 35 (0,0)):=H4.out.2
 obtain ⟨hE,hKE⟩:=nine_cells hxa (.int .i64 k) (.int .i64 p) (.int .i64 g) (.slice I' 16 ci') (.int .u64 gen) (.int .u64 sq) (.int .i64 se) (.int .i64 nr) (.slice H' 32 hc')
 generalize hwE:World.setCell _ _ _=wE at *
 obtain ⟨f0,f1,f2,f3,f4,f5,f6,f7,f8⟩:=cs9 hE
 try simp only [Exit.inBlock,Exit.then]
 refine bodyPost_ret (v:=.agg #[.int .i64 k,.int .i64 p,.int .i64 g,.slice I' 16 ci',.int .u64 gen,.int .u64 sq,.int .i64 se,.int .i64 nr,.slice H' 32 hc']) (by simp [results,Tryz.results97,go_sem,f0,f1,f2,f3,f4,f5,f6,f7,f8]) rfl ?_
 exact ⟨⟨_,_,_,_,rfl⟩,(H4.out.1.trans2 hKE fun b hb _=>by (show b≠ga);have:=HX.out.2.2.2.1;omega).toNew fun b hb=>hb⟩
end
def lv28 (k p g:Nat) (id:List UInt8):LogV:=⟨k,p,g,0,1,genesisOf id,[]⟩
def VOpenRet (w:World) (c:Col) (q:DiskB) (k:Nat) (id:List UInt8) (e:Ending) (w':World):Prop :=
 ∃ bv c' A cl I ci H hc bs bl,e=.returned (.tuple #[.pointer (some ⟨bv,0,none⟩),.int .i64 0])∧Keep (fun j=>j<w.heap.size∧DiskOf q j) w w'∧Ext w c c' ∧
  VaultAt w' c' w.heap.size bv q stateNew ((lv28 k (k/4) ((k-1-2*(k/4))/8) id).more ⟨2,1,[]⟩) A cl (fmtBytes k id) k (k/4) ((k-1-2*(k/4))/8) I ci 2 0 0 0 H hc bs bl∧Bs w' (fun b=>w.heap.size≤b) I 16 id∧Bs w' (fun b=>w.heap.size≤b) H 32 (genesisOf id)
theorem mmount_fmtQ {w:World}{q:DiskB}{k:Nat}{id:List UInt8}(h0:64≤k) (h1:k≤1000) (hid:id.length=16) (h:Clean w q (fmtBytes k id)) (c:Col):
  Calls Tryz.prog 124 #[.pointer (some ⟨q.bd,0,none⟩)] w (MountRetQ w c ⟨1,2,3⟩ 7 q (fmtBytes k id) k (k/4) ((k-1-2*(k/4))/8) 0 id 2 0 1 (genesisOf id) stateNew) :=
 mmount_q h (fmtBytes_length h0 hid) (fmt_super h0 (by omega) hid) (fmt_ok0 h0 hid _) (fmt_ok1 h0 hid _) (.inl ⟨by show (1:Int)≤2;decide,rfl,rfl⟩) rfl rfl (by show (0:Int)<_;decide) (fmt_found h0 hid _ _) (fun i _ hi hr=>fmt_unread h0 hid hi hr.1) (by decide) (by decide) (by decide) c ⟨1,2,3⟩ ⟨⟨by decide,by decide,by decide⟩,by decide,by decide,by decide⟩ 7
theorem vopen_fmt {w:World}{q:DiskB}{k:Nat}{id:List UInt8}(h0:64≤k) (h1:k≤1000) (hid:id.length=16) (h:Clean w q (fmtBytes k id)) (c:Col) (hq:c q.bd=7∧c q.bs=7∧c q.bm=7):
  Calls Tryz.prog 96 #[.pointer (some ⟨q.bd,0,none⟩)] w (VOpenRet w c q k id):=by
 have HM:=Lib.hid (mmount_fmtQ h0 h1 hid h c)
 have hp:planRight (k:Int) ((k/4:Nat):Int) (((k-1-2*(k/4))/8:Nat):Int)=true:=planRight_iff.2 (by omega)
 have hg:0<(k-1-2*(k/4))/8:=by omega
 have hz:=fmt_nought (id:=id) h0 hid hg
 unfold VOpenRet
 have HB:=Lib.hid (fun (W:World) (c':Col) (bs:Nat) (B:StateB) (bl:Nat) (I:Option Addr) (ci:Nat) (H:Option Addr) (hc:Nat) (hst:StateAt W c' ⟨1,2,3⟩ bs B stateNew) (hl:LogC W c' w.heap.size bl q (lv28 k (k/4) ((k-1-2*(k/4))/8) id) none 0 (fmtBytes k id)) =>
  vbegin_any (I:=I) (ci:=ci) (gen:=2) (sq:=0) (se:=0) (nr:=0) (H:=H) (hc:=hc) hst hl (fmtBytes_length h0 hid) hp hg ⟨rfl,rfl,rfl,by show (1:Int)≤1000;decide⟩ hz)
 have HQ:=Lib.hid (And.intro hq h)
 have HLT:=Lib.hid h.lt
 clear hz hp hg h hq
 generalize (k-1-2*(k/4))/8=g at *
 generalize k/4=p at *
 generalize hSB:fmtBytes k id=SB at *
 obtain ⟨lvx,hlvx⟩:∃ l,l=lv28 k p g id:=⟨_,rfl⟩
 rw [← hlvx] at HB ⊢
 have HLV:=Lib.hid hlvx
 clear hlvx hSB
 go_enter Tryz.func96,Tryz.ntmps96
 go_wp2_with fail
 refine HM.out.mono ?_
 rintro e w1 ⟨b,B,c1,bl,I,ci,H,hc,rfl,k1,zb,x1,st1,⟨zl,cbl⟩,l1,hI,hci,hH,hhc⟩
 have hst:StateAt w1 c1 ⟨1,2,3⟩ b B stateNew:=st1
 have hDQ:∀ b,w.heap.size≤b→DiskOf q b:=fun b hb=>⟨fun e=>by have:=HLT.out b (.inl e);omega,fun e=>by have:=HLT.out b (.inr (.inl e));omega,fun e=>by have:=HLT.out b (.inr (.inr e));omega⟩
 have L1:LogC w1 c1 w.heap.size bl q lvx none 0 SB:=by
  rw [HLV.out]
  refine ⟨l1.stay28 (Keep.refl (fun _=>True) w1) trivial (fun _ _=>trivial) (fun _ _=>trivial) (fun _ _ _=>trivial) (fun j _ hd=>⟨hd.2.2,hd.2.1,hDQ j hd.1⟩) (fun hd=>hd.2.1 rfl) fun j hd=>hd.2.2,⟨cbl,(x1 _ (HLT.out _ (.inl rfl))).trans HQ.out.1.1,(x1 _ (HLT.out _ (.inr (.inl rfl)))).trans HQ.out.1.2.1,(x1 _ (HLT.out _ (.inr (.inr rfl)))).trans HQ.out.1.2.2,fun k hk=>by cases hk⟩,zl,k1.size⟩
 have kF:=(New.refl w1).alloc (.cells #[.int .i64 k,.int .i64 p,.int .i64 g,.slice I 16 ci,.int .u64 2,.int .u64 0,.int .i64 0,.int .i64 0,.slice H 32 hc] 35)
 have xF:=heap_alloc_new w1 (.cells #[.int .i64 k,.int .i64 p,.int .i64 g,.slice I 16 ci,.int .u64 2,.int .u64 0,.int .i64 0,.int .i64 0,.slice H 32 hc] 35)
 have e2:=Col.on_ext c1 w1 fun _=>9
 have HB1:=Lib.hid (HB.out _ _ b B bl I ci H hc (hst.keep kF e2 fun _ _ _=>trivial) (L1.new kF e2))
 have H1:=Lib.hid (And.intro k1 (And.intro x1 (And.intro kF (And.intro e2 (And.intro (hI.imp (E:=fun j=>j≠bl∧w.heap.size≤j) fun j _ hj=>⟨hj.2,hj.1⟩) (And.intro (hH.imp (E:=fun j=>j≠bl∧w.heap.size≤j) fun j _ hj=>⟨hj.2,hj.1⟩) hDQ))))))
 obtain ⟨f0,f1,f2,f3,f4,f5,f6,f7,f8⟩:=cs9 xF
 clear k1 zb x1 st1 zl cbl l1 hI hci hH hhc hst hDQ L1 kF xF e2 HM HB
 go_upto_region 4 with fail
 generalize w1.alloc (.cells #[.int .i64 k,.int .i64 p,.int .i64 g,.slice I 16 ci,.int .u64 2,.int .u64 0,.int .i64 0,.int .i64 0,.slice H 32 hc] 35)=w2 at *
 go_wp2_with fail
 refine HB1.out.mono ?_
 rintro e w3 ⟨bv,c3,A3,cl3,rfl,k3,x3,z3,v3⟩
 go_wp2_with fail
 refine bodyPost_ret (v:=.tuple #[.pointer (some ⟨bv,0,none⟩),.int .i64 0]) (by simp [results,Tryz.results96,go_sem]) rfl ?_
 obtain ⟨k1,x1,kF,e2,hI,hH,hDQ⟩:=H1.out
 have hv:VaultAt w3 c3 w.heap.size bv q stateNew (lvx.more ⟨2,1,[]⟩) A3 cl3 SB k p g I ci 2 0 0 0 H hc b bl:=by
  have:lvx.next=1:=by rw [HLV.out];rfl
  rw [this] at v3
  exact v3
 have k12:=k1.new kF
 refine ⟨bv,c3,A3,cl3,I,ci,H,hc,b,bl,rfl,(Keep.of_new k12).trans2 k3 fun j hj hh=>?_,(x1.trans e2 k1.size).trans x3 k12.size,hv,?_,?_⟩
 ·have h1:=hv.log.low.1
  have h3:=k12.size
  exact ⟨by omega,by omega,hh.2⟩
 ·exact ((hI.new kF).keep k3 fun j hj hd=>⟨hj,hd.1,hDQ j hd.2⟩).imp fun _ _ hd=>hd.2
 ·exact ((hH.new kF).keep k3 fun j hj hd=>⟨hj,hd.1,hDQ j hd.2⟩).imp fun _ _ hd=>hd.2
def chkCells (bd k p g:Nat) (I:Option Addr) (ci:Nat):Array Value:=#[.pointer (some ⟨bd,0,none⟩),.int .i64 k,.int .i64 p,.int .i64 g,.slice I 16 ci,.slice none 0 0,.slice none 0 0,.slice none 0 0]
theorem fchain_any {w:World}{q:DiskB}{S:List UInt8}{k p g:Nat}{I:Option Addr}{ci bc:Nat}(h:Clean w q S) (hk:S.length=k*128) (hp:planRight k p g=true) (hg:0<g) (hg2:g≤1000) (hc:w.heap[bc]?=some (.cells (chkCells q.bd k p g I ci) 277 (0,0))) (hz:(segRead (placeOf S p 0)).2.2≠0) (hbe:∀ i,1≤i→i<g→¬ readAt S p i):
  Calls Tryz.prog 201 #[.pointer (some ⟨bc,0,none⟩)] w fun e w'=>e=.returned (.tuple #[])∧New w w':=by
 have HPL:=fun W (hW:New w W)=>Lib.hid (place_any (h.new hW) hk hp hg)
 have HRD:=fun (W:World) (Q:Option Addr) (qc:Nat) (D:Nat→Prop) (hB:Bs W D Q 1024 (placeOf S p 0)) (h1:1024≤qc) (h2:qc≤9223372036854775807)=>Lib.hid (read_any _ Q 1024 qc (placeOf S p 0) W hB h1 h2)
 have HBE:=Lib.hid (fun W (hW:New w W)=>mbehind_any (fr:=1) (b:=false) (h.new hW) hk hp (by decide) ⟨fun h=>(by cases h),fun ⟨i,g1,g2,g3⟩=>absurd g3 (hbe i g1 g2)⟩)
 have HC:=Lib.hid hc
 generalize placeOf S p 0=pb at *
 have hz2:((segRead pb).2.2 !=0)=true:=by simpa using hz
 generalize segRead pb=d at *
 obtain ⟨hh,rr,why⟩:=d
 dsimp only at hz2 HRD
 have HZ:=Lib.hid hz2
 have hgi:(0:Int)<(g:Int):=by omega
 have c3:w.cell? ⟨bc,3,none⟩=some (.int .i64 g):=cellOf hc rfl
 clear h hk hp hbe hc hz hz2
 go_enter Tryz.func201,Tryz.ntmps201
 go_wp2_with fail
 go_loopw [11] (fun s11 wx=>s11=.int .i64 0∧w=wx) (fun _ _=>0)
 case atStart=>exact ⟨rfl,rfl⟩
 case round =>
  obtain ⟨rfl,rfl⟩:=hrel
  go_upto_region 3 with fail
  clear c3
  go_cut [3,4,5] (fun s3 s4 s5 wx=>∃ (gh:Nat) (A3:Option Addr) (n3 c3:Nat),s3=.pointer (some ⟨gh,0,none⟩)∧s4=.slice A3 n3 c3∧s5=.int .i64 why∧New w wx)
  case first =>
   have n3:New w w.drew:=(New.refl w).drew
   refine hold_beginS (New w.drew) (by kernel_rfl) ?_
   have r0:∀ W,New w.drew W→W.cell? ⟨bc,0,none⟩=some (.pointer (some ⟨q.bd,0,none⟩)):=fun W hW=>cellOf (k:=0) ((n3.new hW).blockAt HC.out trivial) rfl
   have r1:∀ W,New w.drew W→W.cell? ⟨bc,1,none⟩=some (.int .i64 k):=fun W hW=>cellOf (k:=1) ((n3.new hW).blockAt HC.out trivial) rfl
   have r2:∀ W,New w.drew W→W.cell? ⟨bc,2,none⟩=some (.int .i64 p):=fun W hW=>cellOf (k:=2) ((n3.new hW).blockAt HC.out trivial) rfl
   have r3:∀ W,New w.drew W→W.cell? ⟨bc,3,none⟩=some (.int .i64 g):=fun W hW=>cellOf (k:=3) ((n3.new hW).blockAt HC.out trivial) rfl
   have HPL:=fun W (hW:New w.drew W)=>HPL W (n3.new hW)
   generalize w.drew=w8 at *
   have n0:New w8 w8:=New.refl _
   refine take0 0 n0 ?_
   refine take0 1 n0 ?_
   refine take0 2 n0 ?_
   refine take0 3 n0 ?_
   refine take0 4 n0 ?_
   refine take0 5 n0 ?_
   refine take0 6 n0 ?_
   refine take0 7 n0 ?_
   refine take0 8 n0 ?_
   clear r0 r1 r2 r3
   refine hold_fork0 (i:=9) (j:=15) (by kernel_rfl) rfl rfl rfl rfl (fun K hK=>?_) (fun K hK=>?_)
   ·skip
    go_simp
    refine (HPL _ n0).out.mono ?_
    rintro e wp ⟨⟨A5,c5,rfl,o5⟩,k5⟩
    go_wp2_with fail
    have n1p:=Keep.new n0 k5
    have hb5:=Row.of_own o5
    have h5:=And.intro (own_cap o5) (own_capMax o5)
    clear o5
    refine hK.out _ _ n1p ?_
    clear hK K
    try simp only [Act.put,ly1,ly2,ly3,ly4,ly5,ly6]
    refine hold_fork0 (i:=10) (j:=15) (by kernel_rfl) rfl rfl rfl rfl (fun K hK=>?_) (fun K hK=>?_)
    ·skip
     go_simp
     refine (HRD wp A5 c5 _ hb5 h5.1 h5.2).out.mono ?_
     rintro e wq ⟨⟨P1,p1,P2,p2,A3,c3,rfl,-⟩,k6⟩
     go_wp2_with fail
     have n2r:=Keep.new n1p k6
     clear hb5 h5
     refine hK.out _ _ n2r ?_
     clear hK K
     try simp only [Act.put,ly1,ly2,ly3,ly4,ly5,ly6]
     refine take0 11 n2r ?_
     refine take0 12 n2r ?_
     refine take0 13 n2r ?_
     refine take0 14 n2r ?_
     refine hold_step0 (i:=15) (by kernel_rfl) rfl rfl (fun K hK=>?_)
     go_simp
     try go_wp2_with fail
     have n3a:=n2r.alloc (.cells #[.int .i64 0,.int .u64 0,.int .i64 0,.int .i64 0,.slice none 0 0,.slice none 0 0] 264)
     have hxz:=heap_alloc_new wq (.cells #[.int .i64 0,.int .u64 0,.int .i64 0,.int .i64 0,.slice none 0 0,.slice none 0 0] 264)
     have hgz:=Keep.size n2r
     have kz:=(New.refl wq).alloc (.cells #[.int .i64 0,.int .u64 0,.int .i64 0,.int .i64 0,.slice none 0 0,.slice none 0 0] 264)
     have hgl:wq.heap.size<(wq.alloc (.cells #[.int .i64 0,.int .u64 0,.int .i64 0,.int .i64 0,.slice none 0 0,.slice none 0 0] 264)).heap.size:=by simp
     refine hK.out _ _ n3a ?_
     clear hK K
     try simp only [Act.put,ly1,ly2,ly3,ly4,ly5,ly6]
     generalize wq.alloc (.cells #[.int .i64 0,.int .u64 0,.int .i64 0,.int .i64 0,.slice none 0 0,.slice none 0 0] 264)=wz at *
     generalize hge:wq.heap.size=gh at hxz hgz hgl ⊢
     clear kz
     obtain ⟨z0,z1,z2,z3,z4,z5⟩:=fz6 hxz
     obtain ⟨d0,d1,d2,d3,d4,d5⟩:=cs6 hxz
     refine hold_step0 (i:=16) (by kernel_rfl) rfl rfl (fun K hK=>?_)
     go_simp
     obtain ⟨-,kf⟩:=six_cells hxz (.int .i64 hh.index) (.int .u64 hh.first) (.int .i64 hh.count) (.int .i64 hh.bytes) (.slice P1 hh.prev.length p1) (.slice P2 hh.root.length p2)
     have nf:=((Keep.of_new (D:=fun b=>b<w8.heap.size) n3a).trans2 kf (fun b _ hb e=>by omega)).toNew (fun b hb=>hb)
     refine hK.out _ _ nf ?_
     clear hK K z0 z1 z2 z3 z4 z5 d0 d1 d2 d3 d4 d5
     try simp only [Act.put,ly1,ly2,ly3,ly4,ly5,ly6]
     generalize World.setCell _ _ _=wf at *
     refine take0 17 nf ?_
     refine take0 18 nf ?_
     refine wpAnyH_done (by kernel_rfl) ?_ _
     go_wp2_with fail
     go_meet
     exact ⟨gh,A3,rr.length,c3,rfl,rfl,rfl,n3.new nf⟩
    ·skip
     go_simp
     try go_wp2_with fail
     have n2a:=n1p.alloc (.cells #[.int .i64 0,.int .u64 0,.int .i64 0,.int .i64 0,.slice none 0 0,.slice none 0 0] 264)
     have hxz:=heap_alloc_new wp (.cells #[.int .i64 0,.int .u64 0,.int .i64 0,.int .i64 0,.slice none 0 0,.slice none 0 0] 264)
     have hgz:=Keep.size n1p
     have kz:=(New.refl wp).alloc (.cells #[.int .i64 0,.int .u64 0,.int .i64 0,.int .i64 0,.slice none 0 0,.slice none 0 0] 264)
     have hgl:wp.heap.size<(wp.alloc (.cells #[.int .i64 0,.int .u64 0,.int .i64 0,.int .i64 0,.slice none 0 0,.slice none 0 0] 264)).heap.size:=by simp
     refine hK.out _ _ n2a ?_
     clear hK K
     try simp only [Act.put,ly1,ly2,ly3,ly4,ly5,ly6]
     generalize wp.alloc (.cells #[.int .i64 0,.int .u64 0,.int .i64 0,.int .i64 0,.slice none 0 0,.slice none 0 0] 264)=wz at *
     generalize hge:wp.heap.size=gh at hxz hgz hgl ⊢
     have hb5:=hb5.new kz
     clear kz
     refine hold_step0 (i:=10) (by kernel_rfl) rfl rfl (fun K hK=>?_)
     go_simp
     refine (HRD wz A5 c5 _ hb5 h5.1 h5.2).out.mono ?_
     rintro e wq ⟨⟨P1,p1,P2,p2,A3,c3,rfl,-⟩,k6⟩
     go_wp2_with fail
     have n3r:=Keep.new n2a k6
     have hxz:=k6.blockAt hxz trivial
     have hgl:gh<wq.heap.size:=Nat.lt_of_lt_of_le hgl k6.size
     clear hb5 h5
     refine hK.out _ _ n3r ?_
     clear hK K
     try simp only [Act.put,ly1,ly2,ly3,ly4,ly5,ly6]
     refine take0 11 n3r ?_
     refine take0 12 n3r ?_
     refine take0 13 n3r ?_
     refine take0 14 n3r ?_
     obtain ⟨z0,z1,z2,z3,z4,z5⟩:=fz6 hxz
     obtain ⟨d0,d1,d2,d3,d4,d5⟩:=cs6 hxz
     refine hold_step0 (i:=16) (by kernel_rfl) rfl rfl (fun K hK=>?_)
     go_simp
     obtain ⟨-,kf⟩:=six_cells hxz (.int .i64 hh.index) (.int .u64 hh.first) (.int .i64 hh.count) (.int .i64 hh.bytes) (.slice P1 hh.prev.length p1) (.slice P2 hh.root.length p2)
     have nf:=((Keep.of_new (D:=fun b=>b<w8.heap.size) n3r).trans2 kf (fun b _ hb e=>by omega)).toNew (fun b hb=>hb)
     refine hK.out _ _ nf ?_
     clear hK K z0 z1 z2 z3 z4 z5 d0 d1 d2 d3 d4 d5
     try simp only [Act.put,ly1,ly2,ly3,ly4,ly5,ly6]
     generalize World.setCell _ _ _=wf at *
     refine take0 17 nf ?_
     refine take0 18 nf ?_
     refine wpAnyH_done (by kernel_rfl) ?_ _
     go_wp2_with fail
     go_meet
     exact ⟨gh,A3,rr.length,c3,rfl,rfl,rfl,n3.new nf⟩
   ·skip
    go_simp
    try go_wp2_with fail
    have n1a:=n0.alloc (.cells #[.int .i64 0,.int .u64 0,.int .i64 0,.int .i64 0,.slice none 0 0,.slice none 0 0] 264)
    have hxz:=heap_alloc_new w8 (.cells #[.int .i64 0,.int .u64 0,.int .i64 0,.int .i64 0,.slice none 0 0,.slice none 0 0] 264)
    have hgz:=Keep.size n0
    have kz:=(New.refl w8).alloc (.cells #[.int .i64 0,.int .u64 0,.int .i64 0,.int .i64 0,.slice none 0 0,.slice none 0 0] 264)
    have hgl:w8.heap.size<(w8.alloc (.cells #[.int .i64 0,.int .u64 0,.int .i64 0,.int .i64 0,.slice none 0 0,.slice none 0 0] 264)).heap.size:=by simp
    refine hK.out _ _ n1a ?_
    clear hK K
    try simp only [Act.put,ly1,ly2,ly3,ly4,ly5,ly6]
    generalize w8.alloc (.cells #[.int .i64 0,.int .u64 0,.int .i64 0,.int .i64 0,.slice none 0 0,.slice none 0 0] 264)=wz at *
    generalize hge:w8.heap.size=gh at hxz hgz hgl ⊢
    clear kz
    refine hold_step0 (i:=9) (by kernel_rfl) rfl rfl (fun K hK=>?_)
    go_simp
    refine (HPL _ n1a).out.mono ?_
    rintro e wp ⟨⟨A5,c5,rfl,o5⟩,k5⟩
    go_wp2_with fail
    have n2p:=Keep.new n1a k5
    have hxz:=k5.blockAt hxz trivial
    have hgl:gh<wp.heap.size:=Nat.lt_of_lt_of_le hgl k5.size
    have hb5:=Row.of_own o5
    have h5:=And.intro (own_cap o5) (own_capMax o5)
    clear o5
    refine hK.out _ _ n2p ?_
    clear hK K
    try simp only [Act.put,ly1,ly2,ly3,ly4,ly5,ly6]
    refine hold_step0 (i:=10) (by kernel_rfl) rfl rfl (fun K hK=>?_)
    go_simp
    refine (HRD wp A5 c5 _ hb5 h5.1 h5.2).out.mono ?_
    rintro e wq ⟨⟨P1,p1,P2,p2,A3,c3,rfl,-⟩,k6⟩
    go_wp2_with fail
    have n3r:=Keep.new n2p k6
    have hxz:=k6.blockAt hxz trivial
    have hgl:gh<wq.heap.size:=Nat.lt_of_lt_of_le hgl k6.size
    clear hb5 h5
    refine hK.out _ _ n3r ?_
    clear hK K
    try simp only [Act.put,ly1,ly2,ly3,ly4,ly5,ly6]
    refine take0 11 n3r ?_
    refine take0 12 n3r ?_
    refine take0 13 n3r ?_
    refine take0 14 n3r ?_
    obtain ⟨z0,z1,z2,z3,z4,z5⟩:=fz6 hxz
    obtain ⟨d0,d1,d2,d3,d4,d5⟩:=cs6 hxz
    refine hold_step0 (i:=16) (by kernel_rfl) rfl rfl (fun K hK=>?_)
    go_simp
    obtain ⟨-,kf⟩:=six_cells hxz (.int .i64 hh.index) (.int .u64 hh.first) (.int .i64 hh.count) (.int .i64 hh.bytes) (.slice P1 hh.prev.length p1) (.slice P2 hh.root.length p2)
    have nf:=((Keep.of_new (D:=fun b=>b<w8.heap.size) n3r).trans2 kf (fun b _ hb e=>by omega)).toNew (fun b hb=>hb)
    refine hK.out _ _ nf ?_
    clear hK K z0 z1 z2 z3 z4 z5 d0 d1 d2 d3 d4 d5
    try simp only [Act.put,ly1,ly2,ly3,ly4,ly5,ly6]
    generalize World.setCell _ _ _=wf at *
    refine take0 17 nf ?_
    refine take0 18 nf ?_
    refine wpAnyH_done (by kernel_rfl) ?_ _
    go_wp2_with fail
    go_meet
    exact ⟨gh,A3,rr.length,c3,rfl,rfl,rfl,n3.new nf⟩
  case rest =>
   obtain ⟨gh,A3,n3',c3',rfl,rfl,rfl,hN⟩:=hcut
   have HN:=Lib.hid hN
   have hz2:=HZ.out
   clear hN HPL HRD
   go_upto_region 4 with fail
   refine hold_begin (by kernel_rfl) ?_
   refine take1 0 ?_
   refine take1 1 ?_
   refine take1 2 ?_
   refine skip1 3 ?_
   refine skip1 4 ?_
   refine skip1 5 ?_
   refine skip1 6 ?_
   refine skip1 7 ?_
   refine skip1 8 ?_
   refine skip1 9 ?_
   refine skip1 10 ?_
   refine skip1 11 ?_
   refine skip1 12 ?_
   refine skip1 13 ?_
   refine skip1 14 ?_
   refine skip1 15 ?_
   refine skip1 16 ?_
   refine skip1 17 ?_
   refine take1 18 ?_
   refine wpAnyH_done (by kernel_rfl) ?_ _
   have HN2:=Lib.hid (HN.out.new (New.refl wc).drew)
   have HC2:=Lib.hid (HN2.out.blockAt HC.out trivial)
   go_upto_region 5 with fail
   have r0:∀ W,New wc.drew W→W.cell? ⟨bc,0,none⟩=some (.pointer (some ⟨q.bd,0,none⟩)):=fun W hW=>cellOf (k:=0) (hW.blockAt HC2.out trivial) rfl
   have r1:∀ W,New wc.drew W→W.cell? ⟨bc,1,none⟩=some (.int .i64 k):=fun W hW=>cellOf (k:=1) (hW.blockAt HC2.out trivial) rfl
   have r2:∀ W,New wc.drew W→W.cell? ⟨bc,2,none⟩=some (.int .i64 p):=fun W hW=>cellOf (k:=2) (hW.blockAt HC2.out trivial) rfl
   have r3:∀ W,New wc.drew W→W.cell? ⟨bc,3,none⟩=some (.int .i64 g):=fun W hW=>cellOf (k:=3) (hW.blockAt HC2.out trivial) rfl
   generalize wc.drew=w9 at *
   refine hold_begin (by kernel_rfl) ?_
   have n0:New w9 w9.drew:=(New.refl w9).drew
   replace r0:=fun W (hW:New w9.drew W)=>r0 W (Keep.new n0 hW)
   replace r1:=fun W (hW:New w9.drew W)=>r1 W (Keep.new n0 hW)
   replace r2:=fun W (hW:New w9.drew W)=>r2 W (Keep.new n0 hW)
   replace r3:=fun W (hW:New w9.drew W)=>r3 W (Keep.new n0 hW)
   refine take1 0 ?_
   refine take1 1 ?_
   refine take1 2 ?_
   refine take1 3 ?_
   refine take1 4 ?_
   refine take1 5 ?_
   refine take1 6 ?_
   refine take1 7 ?_
   refine take1 8 ?_
   refine take1 9 ?_
   refine hold_step (i:=10) (by kernel_rfl) rfl rfl (fun K hK=>?_)
   go_simp
   refine (HBE.out _ (HN2.out.new n0)).mono ?_
   rintro e wb ⟨rfl,kb⟩
   go_wp2_with fail
   refine hK.out _ _ kb ?_
   clear hK K
   try simp only [Act.put,ly1,ly2,ly3,ly4,ly5,ly6]
   replace n0:=Keep.new n0 kb
   replace r0:=fun W (hW:New wb W)=>r0 W (Keep.new kb hW)
   replace r1:=fun W (hW:New wb W)=>r1 W (Keep.new kb hW)
   replace r2:=fun W (hW:New wb W)=>r2 W (Keep.new kb hW)
   replace r3:=fun W (hW:New wb W)=>r3 W (Keep.new kb hW)
   refine wpAnyH_done (by kernel_rfl) ?_ _
   have hE:=HN2.out.new n0
   go_wp2_with fail
   refine bodyPost_ret (results_none rfl _ _ _) rfl ?_
   exact ⟨rfl,hE⟩
  end Go.Proofs.YtdodbdednpnddaaGreatDoor
namespace Go.Proofs.YtdodbdednpnddaaGreatDoor
open Go.RowKit
theorem shead_nil (D:Nat→Prop) (I:Option Addr) (n ci:Nat) (id:List UInt8) (w:World) (hB:Bs w D I n id) (hc:n≤ci) (hn:n≤1000) (A:Option Addr) (c:Nat):
  Calls Tryz.prog 202 #[.slice I n ci,.slice A 0 c] w fun e w'=>(∃ A' c',e=.returned (.slice A' 32 c')∧OwnB w' w.heap.size 5 A' 32 c' (genesisOf id))∧New w w':=by
 have HG:=Lib.hid (genesis_any D I n ci id w hB hc (by omega))
 clear hB
 go_enter Tryz.func202,Tryz.ntmps202
 go_wp2_with fail
 refine HG.out.mono ?_
 rintro e w1 ⟨⟨A',c',rfl,o⟩,k1⟩
 go_wp2_with fail
 go_ret
 exact ⟨⟨A',c',rfl,o⟩,k1⟩
theorem fsealed_any {w:World}{bd k p g:Nat}{I:Option Addr}{ci bc:Nat}{id:List UInt8}{D1 D2:Nat→Prop}{gen:Int}{H:Option Addr}{hc:Nat}{B:Option Addr}{dn dc:Nat}(h:w.heap[bc]?=some (.cells (chkCells bd k p g I ci) 277 (0,0))) (hI:Bs w D1 I 16 id) (hci:16≤ci) (hH:Bs w D2 H 32 (genesisOf id)):
  Calls Tryz.prog 203 #[.pointer (some ⟨bc,0,none⟩),.agg #[.int .u64 gen,.int .u64 0,.int .i64 0,.slice H 32 hc,.slice B dn dc]] w fun e w'=>e=.returned (.bool true)∧New w w':=by
 have k1:=(New.refl w).alloc (.cells #[.int .u64 gen,.int .u64 0,.int .i64 0,.slice H 32 hc,.slice B dn dc] 142)
 have x1:=heap_alloc_new w (.cells #[.int .u64 gen,.int .u64 0,.int .i64 0,.slice H 32 hc,.slice B dn dc] 142)
 obtain ⟨wa,hwa⟩:∃ wa,wa=w.alloc (.cells #[.int .u64 gen,.int .u64 0,.int .i64 0,.slice H 32 hc,.slice B dn dc] 142):=⟨_,rfl⟩
 obtain ⟨gm,hgm⟩:∃ gm,gm=w.heap.size:=⟨_,rfl⟩
 rw [← hwa] at k1 x1
 rw [← hgm] at x1
 have HX:=Lib.hid (And.intro x1 (And.intro (k1.blockAt h trivial) (And.intro (hI.new k1) (hH.new k1))))
 have HK:=Lib.hid k1
 have HC:=Lib.hid hci
 have y2:∀ m,(wa.drewN m).cell? ⟨gm,2,none⟩=some (.int .i64 0):=fun m=>cellOf (w:=wa.drewN m) x1 (k:=2) rfl
 have b5:∀ m,(wa.drewN m).cell? ⟨bc,5,none⟩=some (.slice none 0 0):=fun m=>cellOf (w:=wa.drewN m) (k1.blockAt h trivial) (k:=5) rfl
 clear h hI hci hH k1 x1
 go_enter Tryz.func203,Tryz.ntmps203
 go_upto_region 1 with fail
 rw [← hwa,← hgm]
 clear hwa hgm
 go_quiet (fail)
 rename_i nq
 go_upto_region 3 with fail
 have y2':∀ m,((wa.drewN nq).drewN m).cell? ⟨gm,2,none⟩=some (.int .i64 0):=fun m=>y2 m
 have b5':∀ m,((wa.drewN nq).drewN m).cell? ⟨bc,5,none⟩=some (.slice none 0 0):=fun m=>b5 m
 go_quiet (fail)
 generalize hwb:World.drewN (World.drewN wa _) _=wb
 have hb:New wa wb:=by rw [← hwb];exact ((New.refl wa).drewN _).drewN _
 replace HX:=Lib.hid (And.intro (hb.blockAt HX.out.1 trivial) (And.intro (hb.blockAt HX.out.2.1 trivial) (And.intro (HX.out.2.2.1.new hb) (HX.out.2.2.2.new hb))))
 replace HK:=Lib.hid (HK.out.new hb)
 clear y2 b5 y2' b5' hwb hb
 go_wp2_with fail
 go_loopw [6,26] (fun s6 s26 wx=>s6=.int .u64 0∧s26=.int .i64 0∧wb=wx) (fun _ _ _=>0)
 case atStart=>exact ⟨rfl,rfl,rfl⟩
 case round =>
  obtain ⟨rfl,rfl,rfl⟩:=hrel
  go_upto_region 10 with fail
  have d:New wb wb.drew:=(New.refl wb).drew
  have r1:∀ W,New wb.drew W→W.cell? ⟨gm,1,none⟩=some (.int .u64 0):=fun W hW=>cellOf ((d.new hW).blockAt HX.out.1 trivial) (k:=1) rfl
  have r3:∀ W,New wb.drew W→W.cell? ⟨gm,3,none⟩=some (.slice H 32 hc):=fun W hW=>cellOf ((d.new hW).blockAt HX.out.1 trivial) (k:=3) rfl
  have r4:∀ W,New wb.drew W→W.cell? ⟨bc,4,none⟩=some (.slice I 16 ci):=fun W hW=>cellOf ((d.new hW).blockAt HX.out.2.1 trivial) (k:=4) rfl
  refine hold_beginS (New wb.drew) (by kernel_rfl) ?_
  have n0:New wb.drew wb.drew:=New.refl _
  refine take0 0 n0 ?_
  refine take0 1 n0 ?_
  refine take0 2 n0 ?_
  refine take0 3 n0 ?_
  refine take0 4 n0 ?_
  refine take0 5 n0 ?_
  refine take0 6 n0 ?_
  refine take0 7 n0 ?_
  refine take0 8 n0 ?_
  refine take0 9 n0 ?_
  refine take0 10 n0 ?_
  refine take0 11 n0 ?_
  clear r1 r3 r4
  refine hold_step0 (i:=12) (by kernel_rfl) rfl rfl (fun K hK=>?_)
  go_simp
  refine (shead_nil _ I 16 ci id _ (HX.out.2.2.1.new (d.new n0)) HC.out (by decide) none 0).mono ?_
  rintro e w1 ⟨⟨A',c',rfl,o⟩,k1⟩
  go_wp2_with fail
  refine hK.out _ _ k1 ?_
  clear hK K
  try simp only [Act.put,ly1,ly2,ly3,ly4,ly5,ly6]
  refine hold_step0 (i:=13) (by kernel_rfl) rfl rfl (fun K hK=>?_)
  go_simp
  refine (equal_any _ _ H A' 32 hc 32 c' _ _ w1 (HX.out.2.2.2.new (d.new k1)) (Row.of_own o)).mono ?_
  rintro e w2 ⟨rfl,rfl⟩
  rw [beq_self_eq_true]
  go_wp2_with fail
  refine hK.out _ _ k1 ?_
  clear hK K
  try simp only [Act.put,ly1,ly2,ly3,ly4,ly5,ly6]
  refine take0 14 k1 ?_
  refine take0 15 k1 ?_
  refine wpAnyH_done (by kernel_rfl) ?_ _
  have hE:=HK.out.new (d.new k1)
  go_wp2_with fail
  go_ret
  exact ⟨rfl,hE⟩
theorem fagain_any {w:World}{bd k p g:Nat}{I:Option Addr}{ci bc:Nat}(h:w.heap[bc]?=some (.cells (chkCells bd k p g I ci) 277 (0,0))):
  Calls Tryz.prog 204 #[.pointer (some ⟨bc,0,none⟩)] w fun e w'=>∃ gs A' c',e=.returned (.tuple #[.slice (some ⟨gs,0,none⟩) 1 1,.bool true])∧w'.cell? ⟨gs,0,none⟩=some (.slice A' (stBytes stateNew).length c')∧w.heap.size≤gs∧Bs w' (fun b=>w.heap.size≤b∧b≠gs) A' (stBytes stateNew).length (stBytes stateNew)∧New w w':=by
 have HN:=Lib.hid (stnew_any (fun _=>0) ⟨1,2,3⟩ ⟨⟨by decide,by decide,by decide⟩,by decide,by decide,by decide⟩ w)
 have HX:=Lib.hid h
 obtain ⟨sn,hsn⟩:∃ sn,sn=(stBytes stateNew).length:=⟨_,rfl⟩
 rw [← hsn]
 have HSN:=Lib.hid hsn
 clear h hsn
 go_enter Tryz.func204,Tryz.ntmps204
 go_wp2_with fail
 refine HN.out.mono ?_
 rintro e w1 ⟨b,B,c1,rfl,k1,z1,x1,t1⟩
 have HS:=Lib.hid (stsave_any t1 stateNew_ok)
 rw [← HSN.out] at HS
 have HK1:=Lib.hid k1
 clear k1 z1 x1 t1 HN
 go_wp2_with fail
 refine HS.out.mono ?_
 rintro e w2 ⟨⟨A',c',rfl,o⟩,k2⟩
 have kA:=(New.refl w2).alloc (.cells #[.slice A' sn c'] 24)
 have xA:=heap_alloc_new w2 (.cells #[.slice A' sn c'] 24)
 have hK2:=HK1.out.new k2
 have hB:Bs (w2.alloc (.cells #[.slice A' sn c'] 24)) (fun b=>w.heap.size≤b∧b≠w2.heap.size) A' sn (stBytes stateNew):=((Row.of_own o).imp (E:=fun b=>w.heap.size≤b∧b≠w2.heap.size) fun b hb hd=>⟨Nat.le_trans HK1.out.size hd,Nat.ne_of_lt hb⟩).new kA
 have H3:=Lib.hid (And.intro (hK2.new kA) (And.intro xA (And.intro hK2.size hB)))
 have c6:(w2.alloc (.cells #[.slice A' sn c'] 24)).cell? ⟨bc,6,none⟩=some (.slice none 0 0):=cellOf ((hK2.new kA).blockAt HX.out trivial) rfl
 clear k2 o kA xA hK2 hB HS
 go_upto_region 3 with fail
 generalize w2.alloc (.cells #[.slice A' sn c'] 24)=w3 at *
 generalize w2.heap.size=gs at *
 go_wp2_with fail
 go_loopw [4,5,20] (fun s4 s5 s20 wx=>s5=.slice (some ⟨gs,0,none⟩) 1 1∧s20=.int .i64 0∧w3=wx) (fun _ _ _ _=>0)
 case atStart=>exact ⟨rfl,rfl,rfl⟩
 case round =>
  obtain ⟨rfl,rfl,rfl⟩:=hrel
  go_wp2_with fail
  refine bodyPost_ret (v:=.tuple #[.slice (some ⟨gs,0,none⟩) 1 1,.bool true]) (by simp [results,Tryz.results204,go_sem]) rfl ?_
  exact ⟨gs,A',c',rfl,cellOf H3.out.2.1 (k:=0) rfl,H3.out.2.2.1,H3.out.2.2.2,H3.out.1⟩
structure QuietMark (S:List UInt8) (k p g i:Nat) (id:List UInt8) (m:MarkP):Prop where
 pt:PointOk S p g i m stateNew
 seq:m.seq=0
 segs:m.segs=0
 head:m.head=genesisOf id
def stN:Nat:=(stBytes stateNew).length
def markL (m:MarkP) (H:Option Addr) (hc:Nat) (B:Option Addr) (dc:Nat):List Value:=[.int .u64 m.gen,.int .u64 0,.int .i64 0,.slice H 32 hc,.slice B stN dc]
def zeroMark:List Value:=[.int .u64 0,.int .u64 0,.int .i64 0,.slice none 0 0,.slice none 0 0]
def Marks (w:World) (gm gb n:Nat) (m0 m1:MarkP) (id:List UInt8):Prop :=
 ∃ H0 h0 B0 d0 H1 h1 B1 d1,w.heap[gm]?=some (.cells ((if n=0 then zeroMark else markL m0 H0 h0 B0 d0)++(if n=2 then markL m1 H1 h1 B1 d1 else zeroMark)).toArray 278 (0,0)) ∧
  w.heap[gb]?=some (.cells #[.bool (decide (n≠0)),.bool (decide (n=2))] 279 (0,0)) ∧
  (n≠0→Bs w (fun b=>b≠gm∧b≠gb) H0 32 (genesisOf id)∧Bs w (fun b=>b≠gm∧b≠gb) B0 stN (stBytes stateNew)) ∧
  (n=2→Bs w (fun b=>b≠gm∧b≠gb) H1 32 (genesisOf id)∧Bs w (fun b=>b≠gm∧b≠gb) B1 stN (stBytes stateNew))
theorem Marks.new {w w':World}{gm gb n:Nat}{m0 m1:MarkP}{id:List UInt8}(h:Marks w gm gb n m0 m1 id) (hk:New w w'):Marks w' gm gb n m0 m1 id:=by
 obtain ⟨H0,h0,B0,d0,H1,h1,B1,d1,e1,e2,e3,e4⟩:=h
 exact ⟨H0,h0,B0,d0,H1,h1,B1,d1,hk.blockAt e1 trivial,hk.blockAt e2 trivial,fun hn=>⟨(e3 hn).1.new hk,(e3 hn).2.new hk⟩,fun hn=>⟨(e4 hn).1.new hk,(e4 hn).2.new hk⟩⟩
theorem Marks.lt {w:World}{gm gb n:Nat}{m0 m1:MarkP}{id:List UInt8}(h:Marks w gm gb n m0 m1 id):gm<w.heap.size∧gb<w.heap.size:=by
 obtain ⟨_,_,_,_,_,_,_,_,e1,e2,-⟩:=h
 exact ⟨(Array.getElem?_eq_some_iff.1 e1).1,(Array.getElem?_eq_some_iff.1 e2).1⟩
theorem Marks.step {w:World}{gm gb n:Nat}{m0 m1 m:MarkP}{id:List UInt8}(h:Marks w gm gb n m0 m1 id) (hn:n=0∧m=m0∨n=1∧m=m1) (hne:gm≠gb){H B:Option Addr}{hc dc:Nat}(hH:Bs w (fun b=>b≠gm∧b≠gb) H 32 (genesisOf id)) (hB:Bs w (fun b=>b≠gm∧b≠gb) B stN (stBytes stateNew)):
  Marks ((((((w.setCell ⟨gm,n*5,none⟩ (.int .u64 m.gen)).setCell ⟨gm,n*5+1,none⟩ (.int .u64 0)).setCell ⟨gm,n*5+2,none⟩ (.int .i64 0)).setCell ⟨gm,n*5+3,none⟩ (.slice H 32 hc)).setCell ⟨gm,n*5+4,none⟩ (.slice B stN dc)).setCell ⟨gb,n,none⟩ (.bool true)) gm gb (n+1) m0 m1 id ∧
  Keep (fun b=>b≠gm∧b≠gb) w ((((((w.setCell ⟨gm,n*5,none⟩ (.int .u64 m.gen)).setCell ⟨gm,n*5+1,none⟩ (.int .u64 0)).setCell ⟨gm,n*5+2,none⟩ (.int .i64 0)).setCell ⟨gm,n*5+3,none⟩ (.slice H 32 hc)).setCell ⟨gm,n*5+4,none⟩ (.slice B stN dc)).setCell ⟨gb,n,none⟩ (.bool true)):=by
 obtain ⟨H0,h0,B0,d0,H1,h1,B1,d1,e1,e2,e3,e4⟩:=h
 have kg:∀ (W:World) (i:Nat) (u:Value),Keep (fun b=>b≠gm∧b≠gb) w W→Keep (fun b=>b≠gm∧b≠gb) w (W.setCell ⟨gm,i,none⟩ u):=fun W i u hW=>hW.setCell (p:=⟨gm,i,none⟩) (fun hd=>absurd rfl hd.1) u
 have hk:Keep (fun b=>b≠gm∧b≠gb) w ((((((w.setCell ⟨gm,n*5,none⟩ (.int .u64 m.gen)).setCell ⟨gm,n*5+1,none⟩ (.int .u64 0)).setCell ⟨gm,n*5+2,none⟩ (.int .i64 0)).setCell ⟨gm,n*5+3,none⟩ (.slice H 32 hc)).setCell ⟨gm,n*5+4,none⟩ (.slice B stN dc)).setCell ⟨gb,n,none⟩ (.bool true)) :=
  (kg _ _ _ (kg _ _ _ (kg _ _ _ (kg _ _ _ (kg _ _ _ (Keep.refl _ w)))))).setCell (p:=⟨gb,n,none⟩) (fun hd=>absurd rfl hd.2) _
 have b1:=setCell_block (setCell_block (setCell_block (setCell_block (setCell_block e1 (n*5) (.int .u64 m.gen)) (n*5+1) (.int .u64 0)) (n*5+2) (.int .i64 0)) (n*5+3) (.slice H 32 hc)) (n*5+4) (.slice B stN dc)
 have k1:Keep (fun b=>b≠gm) w (((((w.setCell ⟨gm,n*5,none⟩ (.int .u64 m.gen)).setCell ⟨gm,n*5+1,none⟩ (.int .u64 0)).setCell ⟨gm,n*5+2,none⟩ (.int .i64 0)).setCell ⟨gm,n*5+3,none⟩ (.slice H 32 hc)).setCell ⟨gm,n*5+4,none⟩ (.slice B stN dc)) :=
  (((((Keep.refl _ w).setCell (p:=⟨gm,_,none⟩) (fun hd=>absurd rfl hd) _).setCell (p:=⟨gm,_,none⟩) (fun hd=>absurd rfl hd) _).setCell (p:=⟨gm,_,none⟩) (fun hd=>absurd rfl hd) _).setCell (p:=⟨gm,_,none⟩) (fun hd=>absurd rfl hd) _).setCell (p:=⟨gm,_,none⟩) (fun hd=>absurd rfl hd) _
 have b2:=setCell_block (k1.blockAt e2 (Ne.symm hne)) n (.bool true)
 have b1':=((Keep.refl (fun b=>b≠gb) _).setCell (p:=⟨gb,n,none⟩) (fun hd=>absurd rfl hd) (.bool true)).blockAt b1 hne
 rcases hn with ⟨rfl,rfl⟩|⟨rfl,rfl⟩
 ·exact ⟨⟨H,hc,B,dc,H1,h1,B1,d1,b1',b2,fun _=>⟨hH.keep hk fun b _ hb=>hb,hB.keep hk fun b _ hb=>hb⟩,fun h=>absurd h (by decide)⟩,hk⟩
 ·have e3':=e3 (by decide)
  exact ⟨⟨H0,h0,B0,d0,H,hc,B,dc,b1',b2,fun _=>⟨e3'.1.keep hk fun b _ hb=>hb,e3'.2.keep hk fun b _ hb=>hb⟩,fun _=>⟨hH.keep hk fun b _ hb=>hb,hB.keep hk fun b _ hb=>hb⟩⟩,hk⟩
theorem frun_any {w:World}{q:DiskB}{S:List UInt8}{k p g:Nat}{id:List UInt8}(h:Clean w q S) (hk:S.length=k*128) (hp:planRight k p g=true) (hpe:p=k/4) (hge:g=(k-1-2*(k/4))/8) (hg:0<g) (hg2:g≤1000) (hsup:superOf (S.take 128)=some (k,id)){m0 m1:MarkP}(q0:QuietMark S k p g 0 id m0) (q1:QuietMark S k p g 1 id m1) (hz:(segRead (placeOf S p 0)).2.2≠0) (hbe:∀ i,1≤i→i<g→¬ readAt S p i):
  Calls Tryz.prog 137 #[.pointer (some ⟨q.bd,0,none⟩)] w fun e w'=>(∃ A n c,e=.returned (.tuple #[.slice none 0 0,.slice A n c]))∧New w w':=by
 have HSP:=Lib.hid (msuper_any h hk)
 have HSR:Hid (∀ e w',MSuperRet w k S e w'→(∃ A' c',e=.returned (.tuple #[.agg #[.int .i64 (k:Int),.int .i64 (p:Int),.int .i64 (g:Int)],.slice A' 16 c',.int .i64 0])∧OwnB w' w.heap.size 5 A' 16 c' id)∧New w w'):=Lib.hid fun e w' hh=>by
  unfold MSuperRet at hh
  rw [hsup] at hh
  dsimp only at hh
  rw [if_pos rfl,← hge,← hpe] at hh
  exact hh
 have HPT:=Lib.hid (fun W (hW:New w W) (i:Nat) (m:MarkP) (hi:i=0∧m=m0∨i=1∧m=m1)=>(by
  rcases hi with ⟨rfl,rfl⟩|⟨rfl,rfl⟩
  ·exact mpoint_any (h.new hW) hk hp (.inl rfl) q0.pt.ok q0.pt.fit q0.pt.laid q0.pt.data q0.pt.loads (fun _=>0) ⟨1,2,3⟩ ⟨⟨by decide,by decide,by decide⟩,by decide,by decide,by decide⟩
  ·exact mpoint_any (h.new hW) hk hp (.inr rfl) q1.pt.ok q1.pt.fit q1.pt.laid q1.pt.data q1.pt.loads (fun _=>0) ⟨1,2,3⟩ ⟨⟨by decide,by decide,by decide⟩,by decide,by decide,by decide⟩:Calls Tryz.prog 199 #[.pointer (some ⟨q.bd,0,none⟩),.agg #[.int .i64 k,.int .i64 p,.int .i64 g],.int .i64 i] W fun e w'=>∃ v b B c',e=.returned (.tuple #[v,.pointer (some ⟨b,0,none⟩),.bool true])∧MarkAt W w' m v∧New W w'∧W.heap.size≤b∧Ext W (fun _=>0) c'∧StateAt w' c' ⟨1,2,3⟩ b B stateNew))
 have HCH:=Lib.hid (fun W (hW:New w W) (I:Option Addr) (ci bc:Nat) hc=>fchain_any (I:=I) (ci:=ci) (bc:=bc) (h.new hW) hk hp hg hg2 hc hz hbe)
 have HM:Hid (∀ i m,(i=0∧m=m0∨i=1∧m=m1)→m.seq=0∧m.segs=0∧m.head=genesisOf id∧m.data=stBytes stateNew):=Lib.hid fun i m hi=>by
  rcases hi with ⟨-,rfl⟩|⟨-,rfl⟩
  ·exact ⟨q0.seq,q0.segs,q0.head,q0.pt.data⟩
  ·exact ⟨q1.seq,q1.segs,q1.head,q1.pt.data⟩
 clear h hk hp hpe hge hg hg2 hsup q0 q1 hz hbe
 go_enter Tryz.func137,Tryz.ntmps137
 go_wp2_with fail
 refine HSP.out.mono ?_
 intro e w1 hret
 obtain ⟨⟨I,ci,rfl,o1⟩,k1⟩:=HSR.out _ _ hret
 have HI:=Lib.hid (And.intro (Row.of_own o1) (own_cap o1))
 have HK1:=Lib.hid k1
 clear hret o1 k1 HSP HSR
 have kP:=(New.refl w1).alloc (.cells #[.int .i64 k,.int .i64 p,.int .i64 g] 33)
 have xP:=heap_alloc_new w1 (.cells #[.int .i64 k,.int .i64 p,.int .i64 g] 33)
 go_upto_region 6 with fail
 generalize w1.alloc (.cells #[.int .i64 k,.int .i64 p,.int .i64 g] 33)=w2 at *
 generalize w1.heap.size=gp at *
 have kC:=(New.refl w2).alloc (.cells (chkCells q.bd k p g I ci) 277)
 have xC:=heap_alloc_new w2 (.cells (chkCells q.bd k p g I ci) 277)
 obtain ⟨p0,p1,p2⟩:=cs3 xP
 have H2:=Lib.hid (And.intro kP xP)
 clear kP xP
 go_upto_region 7 with fail
 clear p0 p1 p2
 unfold chkCells at kC xC
 generalize w2.alloc (.cells #[.pointer (some ⟨q.bd,0,none⟩),.int .i64 k,.int .i64 p,.int .i64 g,.slice I 16 ci,.slice none 0 0,.slice none 0 0,.slice none 0 0] 277)=w3 at *
 have hbc:gp<w2.heap.size:=(Array.getElem?_eq_some_iff.1 H2.out.2).1
 generalize hbce:w2.heap.size=bc at *
 have kM:=(New.refl w3).alloc (.cells (zeroMark++zeroMark).toArray 278)
 have xM:=heap_alloc_new w3 (.cells (zeroMark++zeroMark).toArray 278)
 have hgm:bc<w3.heap.size:=(Array.getElem?_eq_some_iff.1 xC).1
 have zM:(w3.alloc (.cells (zeroMark++zeroMark).toArray 278)).heap.size=w3.heap.size+1:=by simp
 go_upto_region 8 with fail
 obtain ⟨w4,hw4⟩:∃ w4,w4=w3.alloc (.cells (zeroMark++zeroMark).toArray 278):=⟨_,rfl⟩
 obtain ⟨gm,hgme⟩:∃ gm,gm=w3.heap.size:=⟨_,rfl⟩
 rw [← hw4] at kM xM zM
 rw [← hgme] at xM hgm zM
 have HI3:Hid (Bs w3 (fun b=>b<gm) I 16 id):=Lib.hid (by rw [hgme];exact ((HI.out.1.new H2.out.1).new kC).imp fun b hb _=>hb)
 have kB:=(New.refl w4).alloc (.cells #[.bool false,.bool false] 279)
 have xB:=heap_alloc_new w4 (.cells #[.bool false,.bool false] 279)
 go_upto_region 9 with fail
 unfold zeroMark at hw4
 have hw4':w4=w3.alloc (.cells #[.int .u64 0,.int .u64 0,.int .i64 0,.slice none 0 0,.slice none 0 0,.int .u64 0,.int .u64 0,.int .i64 0,.slice none 0 0,.slice none 0 0] 278):=hw4
 rw [← hw4',← hgme]
 clear hw4 hw4' hgme
 obtain ⟨w5,hw5⟩:∃ w5,w5=w4.alloc (.cells #[.bool false,.bool false] 279):=⟨_,rfl⟩
 obtain ⟨gb,hgbe⟩:∃ gb,gb=gm+1:=⟨_,rfl⟩
 rw [zM] at xB
 rw [← hw5] at kB xB ⊢
 rw [← hgbe] at xB ⊢
 have hgb:gm<gb:=by omega
 have k5:New w3 w5:=kM.new kB
 have hN5:New w w5:=((HK1.out.new H2.out.1).new kC).new k5
 have HM0:Hid (Marks w5 gm gb 0 m0 m1 id):=Lib.hid ⟨none,0,none,0,none,0,none,0,kB.blockAt xM trivial,xB,fun h=>absurd rfl h,fun h=>absurd h (by decide)⟩
 have H5:=Lib.hid (And.intro hN5 (And.intro (k5.blockAt (kC.blockAt H2.out.2 trivial) trivial) (And.intro (k5.blockAt xC trivial) ((HI3.out.imp (E:=fun b=>b≠gm∧b≠gb) fun b _ (hb:b<gm)=>⟨by omega,by omega⟩).new k5))))
 have HG:=Lib.hid (And.intro hbc (And.intro hgm (And.intro hgb (show w.heap.size≤gm by have h1:=HK1.out.size;have h2:=H2.out.1.size;omega))))
 clear hw5 hgbe hbc hgm hgb zM kM xM kB xB k5 hN5 kC xC hbce H2
 go_wp2_with fail
 go_loopw [33] (fun s33 wx=>∃ n:Nat,s33=.int .i64 n∧n≤2∧Keep (fun b=>b≠gm∧b≠gb) w5 wx∧Marks wx gm gb n m0 m1 id) (fun s _=>2-(intOf s).toNat)
 case atStart=>exact ⟨0,rfl,by decide,Keep.refl _ _,HM0.out⟩
 case round =>
  obtain ⟨n,rfl,hn,hK,hM⟩:=hrel
  have HK:=Lib.hid (And.intro hK hM)
  have hP:wr.heap[gp]?=some (.cells #[.int .i64 k,.int .i64 p,.int .i64 g] 33 (0,0)):=hK.blockAt H5.out.2.1 (by have:=HG.out;exact ⟨by omega,by omega⟩)
  have hC:wr.heap[bc]?=some (.cells (chkCells q.bd k p g I ci) 277 (0,0)):=hK.blockAt H5.out.2.2.1 (by have:=HG.out;exact ⟨by omega,by omega⟩)
  have hNr:New w wr:=(((Keep.of_new (D:=fun b=>b<w.heap.size) H5.out.1).trans2 hK fun b hb _=>by have:=HG.out;exact ⟨by omega,by omega⟩)).toNew fun b hb=>hb
  have HP:=Lib.hid (And.intro hP (And.intro hC hNr))
  clear hK hM
  by_cases h2:n=2
  rotate_left
  ·obtain ⟨mm,hi⟩:∃ mm,n=0∧mm=m0∨n=1∧mm=m1:=by
    by_cases h0:n=0
    ·exact ⟨m0,.inl ⟨h0,rfl⟩⟩
    ·exact ⟨m1,.inr ⟨by omega,rfl⟩⟩
   have HPC:=Lib.hid (HPT.out _ hNr n mm hi)
   obtain ⟨e1,e2,e3,e4⟩:=HM.out n mm hi
   have HE:=Lib.hid (And.intro e1 (And.intro e2 (And.intro e3 e4)))
   have HI2:=Lib.hid hi
   obtain ⟨p0,p1,p2⟩:=cs3 hP
   clear hC hNr e1 e2 e3 e4 hP
   have hli:(n:Int)<2:=by omega
   have HLN:=Lib.hid (And.intro hn h2)
   clear hi h2 hn
   go_wp2_with fail
   refine HPC.out.mono ?_
   rintro e wa ⟨v,b,B,c1,rfl,⟨H,hc,Bd,dc,rfl,hH,hB⟩,k4,-⟩
   rw [HE.out.1,HE.out.2.1,HE.out.2.2.2]
   have hsn:stN=(stBytes stateNew).length:=rfl
   rw [← hsn]
   clear hsn
   rw [HE.out.2.2.2] at hB
   rw [HE.out.2.2.1] at hH
   have hlt:=HK.out.2.lt
   have hHa:Bs wa (fun b=>b≠gm∧b≠gb) H 32 (genesisOf id):=hH.1.imp fun b _ hb=>⟨by omega,by omega⟩
   have hBa:Bs wa (fun b=>b≠gm∧b≠gb) Bd stN (stBytes stateNew):=hB.1.imp fun b _ hb=>⟨by omega,by omega⟩
   have HA:=Lib.hid (And.intro (HK.out.2.new k4) (And.intro hHa (And.intro hBa k4)))
   clear hlt hHa hBa hH hB k4 p0 p1 p2 HPC
   rcases HI2.out with ⟨rfl,hmm⟩|⟨rfl,hmm⟩
   all_goals (have HMM:=Lib.hid hmm;clear hmm)
   ·obtain ⟨H0,h0,B0,d0',H1,h1,B1,d1',x1,x2,-,-⟩:=HA.out.1
    have z:∀ j,wa.frozen? ⟨gm,j,none⟩=false:=fun j=>frozenOf x1 j
    obtain ⟨a0,a1,a2,a3,a4,a5,a6,a7,a8,a9⟩:=cs10 x1
    obtain ⟨b0,b1⟩:=cs2 x2
    obtain ⟨y0,y1⟩:=fz2 x2
    have hne1:gm≠gb:=by have:=HG.out;omega
    have hne2:gb≠gm:=by have:=HG.out;omega
    have z0:=z 0
    have z1:=z 1
    have z2:=z 2
    have z3:=z 3
    have z4:=z 4
    clear x1 x2 z a5 a6 a7 a8 a9
    go_upto_region 13 with fail
    obtain ⟨w9,hw9⟩:∃ w9,w9=(((((wa.setCell ⟨gm,0,none⟩ (.int .u64 mm.gen)).setCell ⟨gm,1,none⟩ (.int .u64 0)).setCell ⟨gm,2,none⟩ (.int .i64 0)).setCell ⟨gm,3,none⟩ (.slice H 32 hc)).setCell ⟨gm,4,none⟩ (.slice Bd stN dc)).setCell ⟨gb,0,none⟩ (.bool true):=⟨_,rfl⟩
    rw [← hw9]
    clear a0 a1 a2 a3 a4 z0 z1 z2 z3 z4 b0 b1 y0 y1 hne1 hne2
    have HST:Hid (Marks w9 gm gb 1 m0 m1 id∧Keep (fun b=>b≠gm∧b≠gb) wa w9):=Lib.hid (by
     rw [hw9]
     exact Marks.step HA.out.1 (by first|exact .inl ⟨rfl,HMM.out⟩|exact .inr ⟨rfl,HMM.out⟩) (by have:=HG.out;omega) HA.out.2.1 HA.out.2.2.1)
    clear hw9
    obtain ⟨_,_,_,_,_,_,_,_,-,x2,-,-⟩:=HST.out.1
    obtain ⟨b0,b1⟩:=cs2 x2
    clear x2
    go_wp2_with fail
    go_roundw
    case rel=>exact ⟨1,rfl,by decide,(HK.out.1.trans2 (Keep.of_new (D:=fun b=>b≠gm∧b≠gb) HA.out.2.2.2) fun _ _ h=>h).trans HST.out.2,HST.out.1⟩
    case measure=>simp [intOf]
   ·obtain ⟨H0,h0,B0,d0',H1,h1,B1,d1',x1,x2,-,-⟩:=HA.out.1
    have z:∀ j,wa.frozen? ⟨gm,j,none⟩=false:=fun j=>frozenOf x1 j
    obtain ⟨a0,a1,a2,a3,a4,a5,a6,a7,a8,a9⟩:=cs10 x1
    obtain ⟨b0,b1⟩:=cs2 x2
    obtain ⟨y0,y1⟩:=fz2 x2
    have hne1:gm≠gb:=by have:=HG.out;omega
    have hne2:gb≠gm:=by have:=HG.out;omega
    have z0:=z 5
    have z1:=z 6
    have z2:=z 7
    have z3:=z 8
    have z4:=z 9
    clear x1 x2 z a0 a1 a2 a3 a4
    go_upto_region 13 with fail
    obtain ⟨w9,hw9⟩:∃ w9,w9=(((((wa.setCell ⟨gm,5,none⟩ (.int .u64 mm.gen)).setCell ⟨gm,6,none⟩ (.int .u64 0)).setCell ⟨gm,7,none⟩ (.int .i64 0)).setCell ⟨gm,8,none⟩ (.slice H 32 hc)).setCell ⟨gm,9,none⟩ (.slice Bd stN dc)).setCell ⟨gb,1,none⟩ (.bool true):=⟨_,rfl⟩
    rw [← hw9]
    clear a5 a6 a7 a8 a9 z0 z1 z2 z3 z4 b0 b1 y0 y1 hne1 hne2
    have HST:Hid (Marks w9 gm gb 2 m0 m1 id∧Keep (fun b=>b≠gm∧b≠gb) wa w9):=Lib.hid (by
     rw [hw9]
     exact Marks.step HA.out.1 (by first|exact .inl ⟨rfl,HMM.out⟩|exact .inr ⟨rfl,HMM.out⟩) (by have:=HG.out;omega) HA.out.2.1 HA.out.2.2.1)
    clear hw9
    obtain ⟨_,_,_,_,_,_,_,_,-,x2,-,-⟩:=HST.out.1
    obtain ⟨b0,b1⟩:=cs2 x2
    clear x2
    go_wp2_with fail
    go_roundw
    case rel=>exact ⟨2,rfl,by decide,(HK.out.1.trans2 (Keep.of_new (D:=fun b=>b≠gm∧b≠gb) HA.out.2.2.2) fun _ _ h=>h).trans HST.out.2,HST.out.1⟩
    case measure=>simp [intOf]
  ·subst h2
   have HCC:=Lib.hid (HCH.out _ hNr I ci bc hC)
   have HIr:Hid (Bs wr (fun b=>b≠gm∧b≠gb) I 16 id):=Lib.hid (H5.out.2.2.2.keep HK.out.1 fun _ _ h=>h)
   clear hP hC hNr hn
   go_wp2_with fail
   refine HCC.out.mono ?_
   rintro e w6 ⟨rfl,k6⟩
   have H6:=Lib.hid (And.intro (HP.out.2.2.new k6) (And.intro (k6.blockAt HP.out.2.1 trivial) (And.intro (HIr.out.new k6) (HK.out.2.new k6))))
   have HHD:=Lib.hid (shead_nil _ I 16 ci id w6 (HIr.out.new k6) HI.out.2 (by decide) none 0)
   have hc6:w6.heap[bc]?=some (.cells #[.pointer (some ⟨q.bd,0,none⟩),.int .i64 k,.int .i64 p,.int .i64 g,.slice I 16 ci,.slice none 0 0,.slice none 0 0,.slice none 0 0] 277 (0,0)):=H6.out.2.1
   have c5:=cellOf hc6 (k:=5) rfl
   clear hc6 k6 HCC HIr
   go_wp2_with fail
   refine HHD.out.mono ?_
   rintro e w7 ⟨⟨Ah,ch,rfl,-⟩,k7⟩
   have H7:=Lib.hid (And.intro (H6.out.1.new k7) (And.intro (k7.blockAt H6.out.2.1 trivial) (And.intro (H6.out.2.2.1.new k7) (H6.out.2.2.2.new k7))))
   clear k7 c5 HHD H6
   go_wp2_with fail
   go_loopw [64] (fun s64 wx=>∃ n:Nat,s64=.int .i64 n∧n≤2∧New w7 wx) (fun s _=>2-(intOf s).toNat)
   case atStart=>exact ⟨0,rfl,by decide,New.refl _⟩
   case round =>
    obtain ⟨n,rfl,hn,hK⟩:=hrel
    have HK7:=Lib.hid hK
    have HLN:=Lib.hid hn
    have hM7:=H7.out.2.2.2.new hK
    have hC7:=hK.blockAt H7.out.2.1 trivial
    have hI7:=H7.out.2.2.1.new hK
    obtain ⟨H0,h0,B0,d0',H1,h1,B1,d1',x1,x2,x3,x4⟩:=hM7
    have b0:wr.cell? ⟨gb,0,none⟩=some (.bool true):=cellOf x2 rfl
    have b1:wr.cell? ⟨gb,1,none⟩=some (.bool true):=cellOf x2 rfl
    have a0:wr.cell? ⟨gm,0,none⟩=some (.int .u64 m0.gen):=cellOf x1 rfl
    have a1:wr.cell? ⟨gm,1,none⟩=some (.int .u64 0):=cellOf x1 rfl
    have a2:wr.cell? ⟨gm,2,none⟩=some (.int .i64 0):=cellOf x1 rfl
    have a3:wr.cell? ⟨gm,3,none⟩=some (.slice H0 32 h0):=cellOf x1 rfl
    have a4:wr.cell? ⟨gm,4,none⟩=some (.slice B0 stN d0'):=cellOf x1 rfl
    have a5:wr.cell? ⟨gm,5,none⟩=some (.int .u64 m1.gen):=cellOf x1 rfl
    have a6:wr.cell? ⟨gm,6,none⟩=some (.int .u64 0):=cellOf x1 rfl
    have a7:wr.cell? ⟨gm,7,none⟩=some (.int .i64 0):=cellOf x1 rfl
    have a8:wr.cell? ⟨gm,8,none⟩=some (.slice H1 32 h1):=cellOf x1 rfl
    have a9:wr.cell? ⟨gm,9,none⟩=some (.slice B1 stN d1'):=cellOf x1 rfl
    clear hK x2 x1
    by_cases h2:n=2
    rotate_left
    ·have hn':n=0∨n=1:=by omega
     clear hn h2
     rcases hn' with rfl|rfl
     ·have HSE:=Lib.hid (fsealed_any (gen:=m0.gen) (hc:=h0) (B:=B0) (dn:=stN) (dc:=d0') hC7 hI7 HI.out.2 (x3 (by decide)).1)
      clear x3 x4 hC7 hI7
      go_wp2_with fail
      refine HSE.out.mono ?_
      rintro e w8 ⟨rfl,k8⟩
      go_wp2_with fail
      go_roundw
      case rel=>exact ⟨1,rfl,by decide,HK7.out.new k8⟩
      case measure=>simp [intOf]
     ·have HSE:=Lib.hid (fsealed_any (gen:=m1.gen) (hc:=h1) (B:=B1) (dn:=stN) (dc:=d1') hC7 hI7 HI.out.2 (x4 rfl).1)
      clear x3 x4 hC7 hI7
      go_wp2_with fail
      refine HSE.out.mono ?_
      rintro e w8 ⟨rfl,k8⟩
      go_wp2_with fail
      go_roundw
      case rel=>exact ⟨2,rfl,by decide,HK7.out.new k8⟩
      case measure=>simp [intOf]
    ·have hnl:¬ ((n:Int)<2):=by omega
     clear h2
     have HAG:=Lib.hid (fagain_any hC7)
     clear x3 x4 hC7 hI7 b0 b1 a0 a1 a2 a3 a4 a5 a6 a7 a8 a9 hn
     go_wp2_with fail
     clear hnl
     refine HAG.out.mono ?_
     rintro e w8 ⟨gs,As,cs,rfl,hgs,zgs,hBs,k8⟩
     have H8:Hid (New w7 w8∧w8.cell? ⟨gs,0,none⟩=some (.slice As stN cs)∧Bs w8 (fun b=>wr.heap.size≤b∧b≠gs) As stN (stBytes stateNew)):=Lib.hid (And.intro (HK7.out.new k8) (And.intro hgs hBs))
     clear hgs zgs hBs k8 HAG
     go_wp2_with fail
     go_loopw [89] (fun s89 wx=>∃ n:Nat,s89=.int .i64 n∧n≤2∧New w8 wx) (fun s _=>2-(intOf s).toNat)
     case atStart=>exact ⟨0,rfl,by decide,New.refl _⟩
     case round =>
      obtain ⟨n,rfl,hn,hK⟩:=hrel
      have HK8:=Lib.hid hK
      obtain ⟨H0,h0,B0,d0',H1,h1,B1,d1',x1,x2,x3,x4⟩:=H7.out.2.2.2.new (H8.out.1.new hK)
      clear hK
      by_cases h2:n=2
      rotate_left
      ·have hn':n=0∨n=1:=by omega
       clear hn h2
       rcases hn' with rfl|rfl
       ·have dd:New wr wr.drew:=(New.refl wr).drew
        have r0:∀ W,New wr.drew W→W.cell? ⟨gb,0,none⟩=some (.bool true):=fun W hW=>cellOf ((dd.new hW).blockAt x2 trivial) (k:=0) rfl
        have r1:∀ W,New wr.drew W→W.cell? ⟨gm,2,none⟩=some (.int .i64 0):=fun W hW=>cellOf ((dd.new hW).blockAt x1 trivial) (k:=2) rfl
        have r2:∀ W,New wr.drew W→W.cell? ⟨gs,0,none⟩=some (.slice As stN cs):=fun W hW=>(HK8.out.new (dd.new hW)).cell_some H8.out.2.1 trivial
        have r3:∀ W,New wr.drew W→W.cell? ⟨gm,4,none⟩=some (.slice B0 stN d0'):=fun W hW=>cellOf ((dd.new hW).blockAt x1 trivial) (k:=4) rfl
        have HEQ:=Lib.hid (fun W (hW:New wr.drew W)=>equal_any _ _ As B0 stN cs stN d0' _ _ W (H8.out.2.2.new (HK8.out.new (dd.new hW))) ((x3 (by decide)).2.new (dd.new hW)))
        clear x1 x2 x3 x4
        go_upto_region 29 with fail
        refine hold_beginS (New wr.drew) (by kernel_rfl) ?_
        have n0:New wr.drew wr.drew:=New.refl _
        refine take0 0 n0 ?_
        refine take0 1 n0 ?_
        refine take0 2 n0 ?_
        refine take0 3 n0 ?_
        refine take0 4 n0 ?_
        refine take0 5 n0 ?_
        refine take0 6 n0 ?_
        refine take0 7 n0 ?_
        refine take0 8 n0 ?_
        refine take0 9 n0 ?_
        refine take0 10 n0 ?_
        refine take0 11 n0 ?_
        refine take0 12 n0 ?_
        refine take0 13 n0 ?_
        refine take0 14 n0 ?_
        refine take0 15 n0 ?_
        refine take0 16 n0 ?_
        refine take0 17 n0 ?_
        refine hold_step0 (i:=18) (by kernel_rfl) rfl rfl (fun K hK=>?_)
        go_simp
        refine (HEQ.out _ n0).mono ?_
        rintro e w9 ⟨rfl,rfl⟩
        rw [beq_self_eq_true]
        go_wp2_with fail
        refine hK.out _ _ n0 ?_
        clear hK K r0 r1 r2 r3 HEQ
        try simp only [Act.put,ly1,ly2,ly3,ly4,ly5,ly6]
        refine take0 19 n0 ?_
        refine take0 20 n0 ?_
        refine wpAnyH_done (by kernel_rfl) ?_ _
        have hE:=HK8.out.new dd
        go_wp2_with fail
        go_roundw
        case rel=>exact ⟨1,rfl,by decide,hE⟩
        case measure=>simp [intOf]
       ·have dd:New wr wr.drew:=(New.refl wr).drew
        have r0:∀ W,New wr.drew W→W.cell? ⟨gb,1,none⟩=some (.bool true):=fun W hW=>cellOf ((dd.new hW).blockAt x2 trivial) (k:=1) rfl
        have r1:∀ W,New wr.drew W→W.cell? ⟨gm,7,none⟩=some (.int .i64 0):=fun W hW=>cellOf ((dd.new hW).blockAt x1 trivial) (k:=7) rfl
        have r2:∀ W,New wr.drew W→W.cell? ⟨gs,0,none⟩=some (.slice As stN cs):=fun W hW=>(HK8.out.new (dd.new hW)).cell_some H8.out.2.1 trivial
        have r3:∀ W,New wr.drew W→W.cell? ⟨gm,9,none⟩=some (.slice B1 stN d1'):=fun W hW=>cellOf ((dd.new hW).blockAt x1 trivial) (k:=9) rfl
        have HEQ:=Lib.hid (fun W (hW:New wr.drew W)=>equal_any _ _ As B1 stN cs stN d1' _ _ W (H8.out.2.2.new (HK8.out.new (dd.new hW))) ((x4 rfl).2.new (dd.new hW)))
        clear x1 x2 x3 x4
        go_upto_region 29 with fail
        refine hold_beginS (New wr.drew) (by kernel_rfl) ?_
        have n0:New wr.drew wr.drew:=New.refl _
        refine take0 0 n0 ?_
        refine take0 1 n0 ?_
        refine take0 2 n0 ?_
        refine take0 3 n0 ?_
        refine take0 4 n0 ?_
        refine take0 5 n0 ?_
        refine take0 6 n0 ?_
        refine take0 7 n0 ?_
        refine take0 8 n0 ?_
        refine take0 9 n0 ?_
        refine take0 10 n0 ?_
        refine take0 11 n0 ?_
        refine take0 12 n0 ?_
        refine take0 13 n0 ?_
        refine take0 14 n0 ?_
        refine take0 15 n0 ?_
        refine take0 16 n0 ?_
        refine take0 17 n0 ?_
        refine hold_step0 (i:=18) (by kernel_rfl) rfl rfl (fun K hK=>?_)
        go_simp
        refine (HEQ.out _ n0).mono ?_
        rintro e w9 ⟨rfl,rfl⟩
        rw [beq_self_eq_true]
        go_wp2_with fail
        refine hK.out _ _ n0 ?_
        clear hK K r0 r1 r2 r3 HEQ
        try simp only [Act.put,ly1,ly2,ly3,ly4,ly5,ly6]
        refine take0 19 n0 ?_
        refine take0 20 n0 ?_
        refine wpAnyH_done (by kernel_rfl) ?_ _
        have hE:=HK8.out.new dd
        go_wp2_with fail
        go_roundw
        case rel=>exact ⟨2,rfl,by decide,hE⟩
        case measure=>simp [intOf]
      ·have hnl:¬ ((n:Int)<2):=by omega
       clear h2
       have hc9:wr.heap[bc]?=some (.cells #[.pointer (some ⟨q.bd,0,none⟩),.int .i64 k,.int .i64 p,.int .i64 g,.slice I 16 ci,.slice none 0 0,.slice none 0 0,.slice none 0 0] 277 (0,0)):=(H8.out.1.new HK8.out).blockAt H7.out.2.1 trivial
       have c7:=cellOf hc9 (k:=7) rfl
       clear hn x1 x2 x3 x4 hc9
       go_wp2_with fail
       refine bodyPost_ret (v:=.tuple #[.slice none 0 0,.slice Ah 32 ch]) (by simp [results,Tryz.results137,go_sem]) rfl ?_
       exact ⟨⟨_,_,_,rfl⟩,(H7.out.1.new H8.out.1).new HK8.out⟩
section
variable {P:Program}{ops:Array Oper}{rest:List Oper}{a:Act}{w:World}{Q:Exit→Act→World→Prop}{dst:Option Tmp}{t ty:TypeId}{x y:Operand}{pos:String}{after:Array Edge}{g:Nat}{old cells:Array Value}
theorem setrow_keep (w:World) (g:Nat) (cs:Array Value):Keep (fun b=>b≠g) w (w.setRow g cs):=by
 refine ⟨rfl,rfl,rfl,by simp [World.setRow],fun b _ hb=>?_⟩
 simp only [World.setRow,Array.getElem?_modify]
 rw [if_neg (fun e=>hb e.symm)]
theorem setrow_block {w:World}(h:w.heap[g]?=some (.cells old t (0,0))) (cs:Array Value):(w.setRow g cs).heap[g]?=some (.cells cs t (0,0)):=by
 simp [World.setRow,Array.getElem?_modify,h]
theorem st_all (hg:w.heap[g]?=some (.cells old t (0,0))) (h:∀ w',w'.heap[g]?=some (.cells cells t (0,0))→Keep (fun b=>b≠g) w w'→wpList P ops Q rest (a.put dst undef) w')
  (hx:a.eval x=.pointer (some ⟨g,0,none⟩):=by rfl) (hy:a.eval y=.agg cells:=by rfl) (hi:(P.info? t).map (·.size)=some cells.size:=by kernel_rfl) (ho:old.size=cells.size:=by rfl) (h1:cells.all (·.oneCell')=true:=by simp [Value.oneCell']):
  wpList P ops Q ({ dst:=dst,op:=.store t x y,type:=ty,pos:=pos,after:=after,guard:=none }::rest) a w :=
 wpList_store_row rfl t x y rfl g cells hx hy t old hg hi ho h1 (h _ (setrow_block hg cells) (setrow_keep w g cells))
theorem st_wp {K:Act→World→Prop}(hg:w.heap[g]?=some (.cells old t (0,0))) (h:∀ w',w'.heap[g]?=some (.cells cells t (0,0))→Keep (fun b=>b≠g) w w'→K (a.put dst undef) w')
  (hx:a.eval x=.pointer (some ⟨g,0,none⟩):=by rfl) (hy:a.eval y=.agg cells:=by rfl) (hi:(P.info? t).map (·.size)=some cells.size:=by kernel_rfl) (ho:old.size=cells.size:=by rfl) (h1:cells.all (·.oneCell')=true:=by simp [Value.oneCell']):
  Oper.wp P { dst:=dst,op:=.store t x y,type:=ty,pos:=pos,after:=after,guard:=none } a w K Q :=
 wp_store_row t x y rfl g cells hx hy t old hg hi ho h1 (h _ (setrow_block hg cells) (setrow_keep w g cells))
def rowTy (P:Program) (t:TypeId) (n:Nat):Bool:=(match P.underlying t with|some (.struct _)=>true|some (.array _ _)=>true|_=>false)&&(P.info? t).map (·.size)==some n
theorem rowTy_says {n:Nat}(h:rowTy P t n=true):∃ d,P.underlying t=some d∧(match d with|.struct _|.array _ _=>true|_=>false)=true∧(P.info? t).map (·.size)=some n:=by
 unfold rowTy at h
 rw [Bool.and_eq_true] at h
 cases hu:P.underlying t with
 | none=>rw [hu] at h;exact absurd h.1 (by simp)
 | some d=>exact ⟨d,rfl,by rw [hu] at h;cases d <;> first|rfl|exact absurd h.1 (by simp),by simpa using h.2⟩
theorem ld_all (hg:w.heap[g]?=some (.cells cells t (0,0))) (h:wpList P ops Q rest (a.put dst (.agg cells)) w)
  (hx:a.eval x=.pointer (some ⟨g,0,none⟩):=by rfl) (hi:rowTy P t cells.size=true:=by kernel_rfl):
  wpList P ops Q ({ dst:=dst,op:=.load t x,type:=ty,pos:=pos,after:=after,guard:=none }::rest) a w:=by
 obtain ⟨d,h1,h2,h3⟩:=rowTy_says hi
 exact wpList_load_row rfl t x rfl g hx t cells (0,0) d hg h1 (by cases d <;> exact h2) h3 h
theorem ret_all {fn:Func}{p:Tmp}{R:Ending→World→Prop}(hg:w.heap[g]?=some (.cells cells t (0,0))) (h:R (.returned (.agg cells)) w) (hr:fn.results=#[.cell p t]:=by rfl)
  (hp:a.tmps.getD p undef=.pointer (some ⟨g,0,none⟩):=by rfl) (hi:rowTy P t cells.size=true:=by kernel_rfl) (hd:a.defers=[]:=by rfl):bodyPost P fn R .ret a w:=by
 obtain ⟨d,h1,h2,h3⟩:=rowTy_says hi
 exact bodyPost_ret (results_cell_row hr a.tmps w g t cells (0,0) d hp hg h1 (by cases d <;> exact h2) h3) hd h
end
abbrev outZero:Array Value:=#[.int .i64 0,.int .i64 0,.slice none 0 0,.slice none 0 0,.int .i64 0,.int .i64 0,.int .i64 0,.int .i64 0,.int .u64 0,.bool false,.slice none 0 0,.int .i64 0,.int .i64 0,.int .i64 0,.slice none 0 0,.int .u64 0,.int .u64 0,.int .i64 0,.int .i64 0,.slice none 0 0]
def MachAt (w:World) (c:Col) (bm:Nat) (q:DiskB) (v:Value):Prop:=w.heap[bm]?=some (.cells #[.pointer (some ⟨q.bd,0,none⟩),v] 109 (0,0))∧c bm=9
def MMountRet (w:World) (c:Col) (bm:Nat) (q:DiskB) (k:Nat) (id:List UInt8) (e:Ending) (w':World):Prop :=
 ∃ bv c' A cl I ci H hc bs bl I' ci' H' hc' base,e=.returned (.agg #[.int .i64 0,.int .i64 0,.slice none 0 0,.slice none 0 0,.int .i64 0,.int .i64 0,.int .i64 0,.int .i64 0,.int .u64 0,.bool false,.slice none 0 0,.int .i64 k,.int .i64 (k/4:Nat),.int .i64 ((k-1-2*(k/4))/8:Nat),.slice I' 16 ci',.int .u64 2,.int .u64 0,.int .i64 0,.int .i64 0,.slice H' 32 hc'])∧Keep (fun j=>j<w.heap.size∧DiskOf q j∧j≠bm) w w'∧Ext w c c'∧w.heap.size≤base ∧
  VaultAt w' c' base bv q stateNew ((lv28 k (k/4) ((k-1-2*(k/4))/8) id).more ⟨2,1,[]⟩) A cl (fmtBytes k id) k (k/4) ((k-1-2*(k/4))/8) I ci 2 0 0 0 H hc bs bl∧MachAt w' c' bm q (.pointer (some ⟨bv,0,none⟩))
theorem mmount28 {w:World}{q:DiskB}{k:Nat}{id:List UInt8}{bm:Nat}{v0:Value}{c:Col}(h0:64≤k) (h1:k≤1000) (hid:id.length=16) (h:Clean w q (fmtBytes k id)) (hq:c q.bd=7∧c q.bs=7∧c q.bm=7) (hm:MachAt w c bm q v0):
  Calls Tryz.prog 58 #[.pointer (some ⟨bm,0,none⟩)] w (MMountRet w c bm q k id):=by
 have k0:=(New.refl w).alloc (.cells outZero 37)
 have x0:=heap_alloc_new w (.cells outZero 37)
 unfold outZero at k0 x0
 obtain ⟨wa,hwa⟩:∃ wa,wa=w.alloc (.cells #[.int .i64 0,.int .i64 0,.slice none 0 0,.slice none 0 0,.int .i64 0,.int .i64 0,.int .i64 0,.int .i64 0,.int .u64 0,.bool false,.slice none 0 0,.int .i64 0,.int .i64 0,.int .i64 0,.slice none 0 0,.int .u64 0,.int .u64 0,.int .i64 0,.int .i64 0,.slice none 0 0] 37):=⟨_,rfl⟩
 obtain ⟨ga,hga⟩:∃ ga,ga=w.heap.size:=⟨_,rfl⟩
 rw [← hwa] at k0 x0
 rw [← hga] at x0
 have e0:=Col.on_ext c w fun _=>9
 have hga9:(c.on w.heap.size fun _=>9) ga=9:=Col.on_new c _ (by omega)
 have hlt:=h.lt
 have hbl:=(Array.getElem?_eq_some_iff.1 hm.1).1
 obtain ⟨c1,hc1⟩:∃ c1,c1=c.on w.heap.size fun _=>9:=⟨_,rfl⟩
 rw [← hc1] at e0 hga9
 have HOP:=Lib.hid (vopen_fmt h0 h1 hid (h.new k0) c1 ⟨(e0 _ (hlt _ (.inl rfl))).trans hq.1,(e0 _ (hlt _ (.inr (.inl rfl)))).trans hq.2.1,(e0 _ (hlt _ (.inr (.inr rfl)))).trans hq.2.2⟩)
 unfold VOpenRet at HOP
 unfold MMountRet
 generalize (k-1-2*(k/4))/8=g at *
 generalize k/4=p at *
 generalize fmtBytes k id=SB at *
 generalize LogV.more _ _=lvm at *
 have hdm:DiskOf q bm:=⟨fun e=>by have:=hm.2;rw [e,hq.1] at this;omega,fun e=>by have:=hm.2;rw [e,hq.2.1] at this;omega,fun e=>by have:=hm.2;rw [e,hq.2.2] at this;omega⟩
 have hda:DiskOf q ga:=⟨fun e=>by have:=hlt _ (.inl e);omega,fun e=>by have:=hlt _ (.inr (.inl e));omega,fun e=>by have:=hlt _ (.inr (.inr e));omega⟩
 have b0:wa.cell? ⟨bm,0,none⟩=some (.pointer (some ⟨q.bd,0,none⟩)):=cellOf (k0.blockAt hm.1 trivial) rfl
 have HX:=Lib.hid (And.intro x0 (And.intro (k0.blockAt hm.1 trivial) (And.intro k0 (And.intro e0 (And.intro hga9 (And.intro ((e0 _ hbl).trans hm.2) (And.intro hdm (And.intro hda (And.intro hbl hga)))))))))
 have HWA:=Lib.hid (And.intro hwa hga)
 clear h hq hm k0 x0 e0 hga9 hlt hbl hc1 hdm hda
 go_enter Tryz.func58,Tryz.ntmps58
 go_upto_region 1 with fail
 rw [← hwa,← hga]
 clear hwa hga HWA
 go_wp2_with fail
 refine HOP.out.mono ?_
 rintro e w2 ⟨bv,c2,A,cl,I,ci,H,hc,bs,bl,rfl,k2,x2,v2,hI,hH⟩
 have hla:=(Array.getElem?_eq_some_iff.1 HX.out.1).1
 have hlm:=(Array.getElem?_eq_some_iff.1 HX.out.2.1).1
 have xa2:=k2.blockAt HX.out.1 ⟨hla,HX.out.2.2.2.2.2.2.2.1⟩
 have xm2:=k2.blockAt HX.out.2.1 ⟨hlm,HX.out.2.2.2.2.2.2.1⟩
 have ca2:=(x2 _ hla).trans HX.out.2.2.2.2.1
 have cm2:=(x2 _ hlm).trans HX.out.2.2.2.2.2.1
 have m1:w2.cell? ⟨bm,1,none⟩=some v0:=cellOf xm2 rfl
 have z1:=frozenOf xm2 1
 have xm3:=setCell_block xm2 1 (.pointer (some ⟨bv,0,none⟩))
 have k3:Keep (fun j=>j≠bm) w2 (w2.setCell ⟨bm,1,none⟩ (.pointer (some ⟨bv,0,none⟩))):=(Keep.refl _ w2).setCell (p:=⟨bm,1,none⟩) (fun hd=>absurd rfl hd) _
 have H2:=Lib.hid (And.intro k2 (And.intro x2 (And.intro v2 (And.intro hI (And.intro hH (And.intro xa2 (And.intro ca2 (And.intro cm2 hla))))))))
 clear k2 x2 v2 hI hH xa2 ca2 cm2 hla hlm xm2 HOP b0
 go_upto_region 3 with fail
 obtain ⟨w3,hw3⟩:∃ w3,w3=w2.setCell ⟨bm,1,none⟩ (.pointer (some ⟨bv,0,none⟩)):=⟨_,rfl⟩
 rw [← hw3] at xm3 k3 ⊢
 have hne:ga≠bm:=by have:=HX.out.2.2.2.2.2.2.2.2;omega
 have v3:=H2.out.2.2.1.turn k3 (Ext.refl _ _) fun b _ e=>fun eb=>by rw [eb,H2.out.2.2.2.2.2.2.2.1] at e;unfold Cols.has at e;dsimp only at e;omega
 have hbw:bm<wa.heap.size:=(Array.getElem?_eq_some_iff.1 HX.out.2.1).1
 have HFO:=Lib.hid (vfound_any v3 (H2.out.2.2.2.1.keep k3 fun b _ (hb:wa.heap.size≤b)=>by show b≠bm;omega) (H2.out.2.2.2.2.1.keep k3 fun b _ (hb:wa.heap.size≤b)=>by show b≠bm;omega))
 have H3:=Lib.hid (And.intro k3 (And.intro v3 (And.intro xm3 (And.intro (k3.blockAt H2.out.2.2.2.2.2.1 hne) hne))))
 clear hw3 m1 z1 xm3 k3 v3 hbw hne
 go_wp2_with fail
 refine HFO.out.mono ?_
 rintro e w4 ⟨⟨I',ci',H',hc',rfl⟩,k4⟩
 have xa4:=k4.blockAt H3.out.2.2.2.1 trivial
 have H4:=Lib.hid (And.intro k4 xa4)
 clear k4 xa4 HFO
 go_wp2_with (refine st_all H4.out.2 (cells:=#[.int .i64 0,.int .i64 0,.slice none 0 0,.slice none 0 0,.int .i64 0,.int .i64 0,.int .i64 0,.int .i64 0,.int .u64 0,.bool false,.slice none 0 0,.int .i64 k,.int .i64 p,.int .i64 g,.slice I' 16 ci',.int .u64 2,.int .u64 0,.int .i64 0,.int .i64 0,.slice H' 32 hc']) (fun wE hE hKE=>?_))
 refine ret_all hE ?_
 obtain ⟨k2,x2,-,-,-,-,ca2,cm2,hla⟩:=H2.out
 obtain ⟨k3,v3,xm3,xa3,hne⟩:=H3.out
 obtain ⟨-,-,k0,e0,-,-,hdm,hda,hbl,hga⟩:=HX.out
 have hgs:w.heap.size≤ga:=by omega
 refine ⟨bv,c2,A,cl,I,ci,H,hc,bs,bl,I',ci',H',hc',_,rfl,?_,e0.trans x2 k0.size,k0.size,(v3.new H4.out.1 (Ext.refl _ _)).turn hKE (Ext.refl _ _) fun b _ e=>fun eb=>by rw [eb,ca2] at e;unfold Cols.has at e;dsimp only at e;omega,hKE.blockAt (H4.out.1.blockAt xm3 trivial) (Ne.symm hne),cm2⟩
 refine (((Keep.of_new k0).trans2 k2 fun j hj hh=>⟨Nat.lt_of_lt_of_le hj k0.size,hh.2.1⟩).trans2 k3 fun j _ hh=>hh.2.2).trans2 ((Keep.of_new (D:=fun j=>j<w3.heap.size∧j≠ga) H4.out.1).trans2 hKE fun j _ hh=>hh.2) fun j hj hh=>⟨Nat.lt_of_lt_of_le hj ?_,fun e=>?_⟩
 ·exact Nat.le_trans k0.size (Nat.le_trans k2.size k3.size)
 ·omega
theorem fcheck_fmt {w:World}{q:DiskB}{k:Nat}{id:List UInt8}(h0:64≤k) (h1:k≤1000) (hid:id.length=16) (h:Clean w q (fmtBytes k id)):
  Calls Tryz.prog 100 #[.pointer (some ⟨q.bd,0,none⟩)] w fun e w'=>e=.returned (.slice none 0 0)∧New w w':=by
 have hg:0<(k-1-2*(k/4))/8:=by omega
 have HR:=Lib.hid (frun_any h (fmtBytes_length h0 hid) (planRight_iff.2 (by omega)) rfl rfl hg (by omega) (fmt_super h0 (by omega) hid) (m0:=fmtMark id 2) (m1:=fmtMark id 1) ⟨fmt_ok0 h0 hid _,rfl,rfl,rfl⟩ ⟨fmt_ok1 h0 hid _,rfl,rfl,rfl⟩ (fmt_unread h0 hid hg) (fun i _ hi hr=>fmt_unread h0 hid hi hr.1))
 clear h hg
 go_enter Tryz.func100,Tryz.ntmps100
 go_wp2_with fail
 refine HR.out.mono ?_
 rintro e w1 ⟨⟨A,n,c,rfl⟩,k1⟩
 go_wp2_with fail
 go_ret
 exact ⟨rfl,k1⟩
abbrev itemCells (kind:Int) (kd:Int) (pa:ByteArray):Array Value:=#[.int .i64 kind,.int .i64 kd,.string pa,.string ⟨#[]⟩,.int .i64 0,.int .i64 0,.int .i64 0,.int .u64 0,.int .i64 0,.slice none 0 0,.slice none 0 0,.int .i64 0,.int .i64 0]
theorem mdo_check {w:World}{c:Col}{q:DiskB}{k:Nat}{id:List UInt8}{bm:Nat}{v:Value}(h0:64≤k) (h1:k≤1000) (hid:id.length=16) (h:Clean w q (fmtBytes k id)) (hm:MachAt w c bm q v):
  Calls Tryz.prog 59 #[.pointer (some ⟨bm,0,none⟩),.agg (itemCells 4 0 ⟨#[]⟩)] w fun e w'=>e=.returned (.agg outZero)∧New w w':=by
 have k0:=(New.refl w).alloc (.cells (itemCells 4 0 ⟨#[]⟩) 49)
 have x0:=heap_alloc_new w (.cells (itemCells 4 0 ⟨#[]⟩) 49)
 obtain ⟨wa,hwa⟩:∃ wa,wa=w.alloc (.cells (itemCells 4 0 ⟨#[]⟩) 49):=⟨_,rfl⟩
 rw [← hwa] at k0 x0
 have zA:wa.heap.size=w.heap.size+1:=by rw [hwa];simp
 have k1:=(New.refl wa).alloc (.cells outZero 37)
 have x1:=heap_alloc_new wa (.cells outZero 37)
 rw [zA] at x1
 obtain ⟨wb,hwb⟩:∃ wb,wb=wa.alloc (.cells outZero 37):=⟨_,rfl⟩
 rw [← hwb] at k1 x1
 obtain ⟨gi,hgi⟩:∃ g,g=w.heap.size:=⟨_,rfl⟩
 obtain ⟨go,hgo⟩:∃ g,g=gi+1:=⟨_,rfl⟩
 rw [← hgi] at x0 x1
 rw [← hgo] at x1
 have k01:=k0.new k1
 have i0:wb.cell? ⟨gi,0,none⟩=some (.int .i64 4):=cellOf (k1.blockAt x0 trivial) rfl
 have m0:wb.cell? ⟨bm,0,none⟩=some (.pointer (some ⟨q.bd,0,none⟩)):=cellOf (k01.blockAt hm.1 trivial) rfl
 have HCK:=Lib.hid (fcheck_fmt h0 h1 hid (h.new k01))
 have HX:=Lib.hid (And.intro x1 (And.intro k01 (show w.heap.size≤go by omega)))
 have HWA:=Lib.hid (And.intro hwa (And.intro hgi (And.intro hwb hgo)))
 unfold outZero at hwb
 unfold itemCells at hwa ⊢
 clear h hm k0 x0 k1 x1 k01 zA
 go_enter Tryz.func59,Tryz.ntmps59
 go_upto_region 1 with fail
 rw [← hwa,← hwb,← hgi,← hgo]
 clear hwa hwb hgi hgo HWA
 go_wp2_with fail
 refine HCK.out.mono ?_
 rintro e w1 ⟨rfl,k1⟩
 have x2:=k1.blockAt HX.out.1 trivial
 have H1:=Lib.hid (And.intro k1 x2)
 clear k1 HCK i0 m0 x2
 go_wp2_with (refine st_all H1.out.2 (cells:=#[.int .i64 0,.int .i64 0,.slice none 0 0,.slice none 0 0,.int .i64 0,.int .i64 0,.int .i64 0,.int .i64 0,.int .u64 0,.bool false,.slice none 0 0,.int .i64 0,.int .i64 0,.int .i64 0,.slice none 0 0,.int .u64 0,.int .u64 0,.int .i64 0,.int .i64 0,.slice none 0 0]) (fun wE hE hKE=>?_))
 refine ret_all hE ?_
 exact ⟨rfl,((Keep.of_new (D:=fun b=>b<w.heap.size) (HX.out.2.1.new H1.out.1)).trans2 hKE fun b hb _=>by show b≠go;have:=HX.out.2.2;omega).toNew fun b hb=>hb⟩
theorem mdo_none (w:World) (bm:Nat):
  Calls Tryz.prog 59 #[.pointer (some ⟨bm,0,none⟩),.agg (itemCells 9 0 ⟨#[]⟩)] w fun e w'=>e=.returned (.agg #[.int .i64 30,.int .i64 0,.slice none 0 0,.slice none 0 0,.int .i64 0,.int .i64 0,.int .i64 0,.int .i64 0,.int .u64 0,.bool false,.slice none 0 0,.int .i64 0,.int .i64 0,.int .i64 0,.slice none 0 0,.int .u64 0,.int .u64 0,.int .i64 0,.int .i64 0,.slice none 0 0])∧New w w':=by
 have k0:=(New.refl w).alloc (.cells (itemCells 9 0 ⟨#[]⟩) 49)
 have x0:=heap_alloc_new w (.cells (itemCells 9 0 ⟨#[]⟩) 49)
 obtain ⟨wa,hwa⟩:∃ wa,wa=w.alloc (.cells (itemCells 9 0 ⟨#[]⟩) 49):=⟨_,rfl⟩
 rw [← hwa] at k0 x0
 have zA:wa.heap.size=w.heap.size+1:=by rw [hwa];simp
 have k1:=(New.refl wa).alloc (.cells outZero 37)
 have x1:=heap_alloc_new wa (.cells outZero 37)
 rw [zA] at x1
 obtain ⟨wb,hwb⟩:∃ wb,wb=wa.alloc (.cells outZero 37):=⟨_,rfl⟩
 rw [← hwb] at k1 x1
 obtain ⟨gi,hgi⟩:∃ g,g=w.heap.size:=⟨_,rfl⟩
 obtain ⟨go,hgo⟩:∃ g,g=gi+1:=⟨_,rfl⟩
 rw [← hgi] at x0 x1
 rw [← hgo] at x1
 have k01:=k0.new k1
 have i0:wb.cell? ⟨gi,0,none⟩=some (.int .i64 9):=cellOf (k1.blockAt x0 trivial) rfl
 have HX:=Lib.hid (And.intro x1 (And.intro k01 (show w.heap.size≤go by omega)))
 have HWA:=Lib.hid (And.intro hwa (And.intro hgi (And.intro hwb hgo)))
 unfold outZero at hwb
 unfold itemCells at hwa ⊢
 clear k0 x0 k1 x1 k01 zA
 go_enter Tryz.func59,Tryz.ntmps59
 go_upto_region 1 with fail
 rw [← hwa,← hwb,← hgi,← hgo]
 clear hwa hwb hgi hgo HWA
 go_wp2_with (refine st_all HX.out.1 (cells:=#[.int .i64 30,.int .i64 0,.slice none 0 0,.slice none 0 0,.int .i64 0,.int .i64 0,.int .i64 0,.int .i64 0,.int .u64 0,.bool false,.slice none 0 0,.int .i64 0,.int .i64 0,.int .i64 0,.slice none 0 0,.int .u64 0,.int .u64 0,.int .i64 0,.int .i64 0,.slice none 0 0]) (fun wE hE hKE=>?_))
 refine ret_all hE ?_
 exact ⟨rfl,((Keep.of_new (D:=fun b=>b<w.heap.size) HX.out.2.1).trans2 hKE fun b hb _=>by show b≠go;have:=HX.out.2.2;omega).toNew fun b hb=>hb⟩
theorem mdo_mkdir {w:World}{c:Col}{bm base bv:Nat}{q:DiskB}{s:StateP}{lv:LogV}{A:Option Addr}{cl:Nat}{S:List UInt8}{k p g:Nat}{I:Option Addr}{ci:Nat}{gen sq:Int}{se nr:Nat}{H:Option Addr}{hc bs bl:Nat}(h:VaultAt w c base bv q s lv A cl S k p g I ci gen sq se nr H hc bs bl) (hm:MachAt w c bm q (.pointer (some ⟨bv,0,none⟩))) (hS:StInv s){o:OpP}{a:AskP}(ho:o=⟨2,o.path,[],0,0,0,0,0,[]⟩) (h0:splitL [o.path]=0) (hm0:(makeT s.T (splitP o.path).1 2).2.1=0) (ha:asksOf o.kind=some a) (hr:rightOf o a=0) (hlp:o.path.length≤1000) (hb9:(opBytes o a).length≤900) (hml:MaxLenAt w) (hL:LvOk lv ⟨1,lv.next+(lv.waits.length:Int),opBytes o a⟩):
  Calls Tryz.prog 59 #[.pointer (some ⟨bm,0,none⟩),.agg (itemCells 1 2 (strOf o.path))] w fun e w'=>∃ D cd N cn c' A' cl' bs',e=.returned (.agg #[.int .i64 0,.int .i64 0,.slice D 0 cd,.slice N 0 cn,.int .i64 0,.int .i64 0,.int .i64 0,.int .i64 0,.int .u64 0,.bool false,.slice none 0 0,.int .i64 0,.int .i64 0,.int .i64 0,.slice none 0 0,.int .u64 0,.int .u64 0,.int .i64 0,.int .i64 0,.slice none 0 0])∧Keep (fun j=>j<w.heap.size∧¬ (c j=7∨c j=8∨(⟨1,2,3⟩:Cols).has (c j))) w w'∧Ext w c c'∧VaultAt w' c' base bv q (mkdirT s (splitP o.path).1).2 (lv.more ⟨1,lv.next+(lv.waits.length:Int),opBytes o a⟩) A' cl' S k p g I ci gen sq se nr H hc bs' bl:=by
 have k0:=(New.refl w).alloc (.cells (itemCells 1 2 (strOf o.path)) 49)
 have x0:=heap_alloc_new w (.cells (itemCells 1 2 (strOf o.path)) 49)
 obtain ⟨wa,hwa⟩:∃ wa,wa=w.alloc (.cells (itemCells 1 2 (strOf o.path)) 49):=⟨_,rfl⟩
 rw [← hwa] at k0 x0
 have zA:wa.heap.size=w.heap.size+1:=by rw [hwa];simp
 have k1:=(New.refl wa).alloc (.cells outZero 37)
 have x1:=heap_alloc_new wa (.cells outZero 37)
 rw [zA] at x1
 obtain ⟨wb,hwb⟩:∃ wb,wb=wa.alloc (.cells outZero 37):=⟨_,rfl⟩
 rw [← hwb] at k1 x1
 obtain ⟨gi,hgi⟩:∃ g,g=w.heap.size:=⟨_,rfl⟩
 obtain ⟨go,hgo⟩:∃ g,g=gi+1:=⟨_,rfl⟩
 rw [← hgi] at x0 x1
 rw [← hgo] at x1
 have k01:=k0.new k1
 have e0:=Col.on_ext c w fun _=>9
 have hgo9:(c.on w.heap.size fun _=>9) go=9:=Col.on_new c _ (by omega)
 obtain ⟨c1,hc1⟩:∃ c1,c1=c.on w.heap.size fun _=>9:=⟨_,rfl⟩
 rw [← hc1] at e0 hgo9
 have hxi:=k1.blockAt x0 trivial
 have hxm:=k01.blockAt hm.1 trivial
 have i0:wb.cell? ⟨gi,0,none⟩=some (.int .i64 1):=cellOf hxi rfl
 have m1:wb.cell? ⟨bm,1,none⟩=some (.pointer (some ⟨bv,0,none⟩)):=cellOf hxm rfl
 have hok:o.kind=2∧o.data=[]∧o.goal=[]∧o.till=0:=by rw [ho];exact ⟨rfl,rfl,rfl,rfl⟩
 have HV:Hid (Calls Tryz.prog 98 #[.pointer (some ⟨bv,0,none⟩),.agg #[.int .i64 2,.string (strOf o.path),.string ⟨#[]⟩,.int .i64 0,.int .i64 0,.int .i64 0,.int .u64 0,.int .i64 0,.slice none 0 0]] wb.drew (VDoRet wb.drew c1 base bv q (mkdirT s (splitP o.path).1).2 (lv.more ⟨1,lv.next+(lv.waits.length:Int),opBytes o a⟩) S k p g I ci gen sq se nr H hc bl)):=Lib.hid (by
  have h2:=vdo_mkdir ((h.new k01 e0).new (New.refl wb).drew (Ext.refl _ _)) hS hok.1 hok.2.1 h0 hm0 ha hr hlp (by rw [hok.2.2.1];decide) (by rw [hok.2.2.2];decide) (by rw [hok.2.2.2];decide) hb9 ((hml.new k01).new (New.refl wb).drew) hL
  have e1:opVal o none 0=.agg #[.int .i64 2,.string (strOf o.path),.string ⟨#[]⟩,.int .i64 0,.int .i64 0,.int .i64 0,.int .u64 0,.int .i64 0,.slice none 0 0]:=by rw [ho];rfl
  rw [e1] at h2
  exact h2)
 have HX:=Lib.hid (And.intro hxi (And.intro hxm (And.intro x1 (And.intro k01 (And.intro e0 (And.intro hgo9 (show w.heap.size≤go by omega)))))))
 have HWA:=Lib.hid (And.intro hwa (And.intro hgi (And.intro hwb hgo)))
 unfold outZero at hwb
 unfold itemCells at hwa ⊢
 generalize strOf o.path=pa at *
 generalize (mkdirT s (splitP o.path).1).2=s9 at *
 generalize lv.more _=lv9 at *
 clear h hm hS ho h0 hm0 ha hr hlp hb9 hml hL k0 x0 k1 x1 k01 zA e0 hgo9 hc1 hxi hxm hok
 go_enter Tryz.func59,Tryz.ntmps59
 go_upto_region 1 with fail
 rw [← hwa,← hwb,← hgi,← hgo]
 clear hwa hwb hgi hgo HWA
 go_upto_region 5 with fail
 clear i0 m1
 have d:New wb wb.drew:=(New.refl wb).drew
 have m1:∀ W,New wb.drew W→W.cell? ⟨bm,1,none⟩=some (.pointer (some ⟨bv,0,none⟩)):=fun W hW=>cellOf ((d.new hW).blockAt HX.out.2.1 trivial) rfl
 have j1:∀ W,New wb.drew W→W.cell? ⟨gi,1,none⟩=some (.int .i64 2):=fun W hW=>cellOf ((d.new hW).blockAt HX.out.1 trivial) rfl
 have j2:∀ W,New wb.drew W→W.cell? ⟨gi,2,none⟩=some (.string pa):=fun W hW=>cellOf ((d.new hW).blockAt HX.out.1 trivial) rfl
 have j3:∀ W,New wb.drew W→W.cell? ⟨gi,3,none⟩=some (.string ⟨#[]⟩):=fun W hW=>cellOf ((d.new hW).blockAt HX.out.1 trivial) rfl
 have j4:∀ W,New wb.drew W→W.cell? ⟨gi,4,none⟩=some (.int .i64 0):=fun W hW=>cellOf ((d.new hW).blockAt HX.out.1 trivial) rfl
 have j5:∀ W,New wb.drew W→W.cell? ⟨gi,5,none⟩=some (.int .i64 0):=fun W hW=>cellOf ((d.new hW).blockAt HX.out.1 trivial) rfl
 have j6:∀ W,New wb.drew W→W.cell? ⟨gi,6,none⟩=some (.int .i64 0):=fun W hW=>cellOf ((d.new hW).blockAt HX.out.1 trivial) rfl
 have j7:∀ W,New wb.drew W→W.cell? ⟨gi,7,none⟩=some (.int .u64 0):=fun W hW=>cellOf ((d.new hW).blockAt HX.out.1 trivial) rfl
 have j8:∀ W,New wb.drew W→W.cell? ⟨gi,8,none⟩=some (.int .i64 0):=fun W hW=>cellOf ((d.new hW).blockAt HX.out.1 trivial) rfl
 have j9:∀ W,New wb.drew W→W.cell? ⟨gi,9,none⟩=some (.slice none 0 0):=fun W hW=>cellOf ((d.new hW).blockAt HX.out.1 trivial) rfl
 refine hvs_begin [6,8] (by kernel_rfl) ?_
 have n0:New wb.drew wb.drew:=New.refl _
 refine hvs_take 0 n0 ?_
 refine hvs_take 1 n0 ?_
 refine hvs_take 2 n0 ?_
 refine hvs_take 3 n0 ?_
 refine hvs_take 4 n0 ?_
 refine hvs_take 5 n0 ?_
 clear m1 j1 j2 j3 j4 j5 j6 j7 j8 j9 n0
 refine hvs_write 6 (by kernel_rfl) rfl rfl (by kernel_rfl) (fun K hK=>?_)
 go_simp
 refine HV.out.mono ?_
 rintro e w2 ⟨D,cd,N,cn,c2,A2,cl2,bs2,rfl,k2,x2,v2⟩
 unfold replyVal noR ReplyP.nodeId ReplyP.nd
 dsimp only [List.length_nil]
 go_wp2_with fail
 refine hK.out _ _ ?_
 clear hK K HV
 try simp only [Act.put,ly1,ly2,ly3,ly4,ly5,ly6]
 have hgl:=(Array.getElem?_eq_some_iff.1 HX.out.2.2.1).1
 have x3:=k2.blockAt (show wb.drew.heap[go]?=_ from HX.out.2.2.1) ⟨hgl,by rw [HX.out.2.2.2.2.2.1];rintro (e|e|e|e|e) <;> exact absurd e (by decide)⟩
 have c3:=(x2 go hgl).trans HX.out.2.2.2.2.2.1
 have H3:=Lib.hid (And.intro k2 (And.intro x2 (And.intro v2 (And.intro x3 c3))))
 clear k2 x2 v2 x3 c3 hgl
 refine hvs_pure 7 ?_
 refine hvs_write 8 (by kernel_rfl) rfl rfl (by kernel_rfl) (fun K hK=>?_)
 refine st_wp H3.out.2.2.2.1 (cells:=#[.int .i64 0,.int .i64 0,.slice D 0 cd,.slice N 0 cn,.int .i64 0,.int .i64 0,.int .i64 0,.int .i64 0,.int .u64 0,.bool false,.slice none 0 0,.int .i64 0,.int .i64 0,.int .i64 0,.slice none 0 0,.int .u64 0,.int .u64 0,.int .i64 0,.int .i64 0,.slice none 0 0]) (fun wE hE hKE=>?_)
 refine hK.out _ _ ?_
 clear hK K
 try simp only [Act.put]
 refine hvs_done (by kernel_rfl) ?_ _
 go_wp2_with fail
 refine ret_all hE ?_
 obtain ⟨k2,x2,v2,-,c3⟩:=H3.out
 obtain ⟨-,-,-,k01,e0,-,hgs⟩:=HX.out
 have kd:New w wb.drew:=k01.new d
 refine ⟨D,cd,N,cn,c2,A2,cl2,bs2,rfl,((Keep.of_new kd).trans2 k2 fun j hj hh=>⟨Nat.lt_of_lt_of_le hj kd.size,by rw [e0 j hj];exact hh.2⟩).trans2 hKE fun j hj _=>by show j≠go;omega,Ext.trans e0 (show Ext wb.drew c1 c2 from x2) kd.size,v2.turn hKE (Ext.refl _ _) fun b _ e=>fun eb=>by rw [eb,c3] at e;unfold Cols.has at e;dsimp only at e;omega⟩
theorem new_get28 {k:Int}{it:ItemP}(h:getK stateNew.T k=some it):k=0∧it=freshItem 2:=by
 unfold stateNew at h
 dsimp only at h
 unfold getK at h
 split at h
 ·rename_i e
  injection h with h
  exact ⟨e.symm,h.symm⟩
 ·cases h
theorem new_tree28:TreeInv stateNew.T where
 rising:=List.pairwise_singleton _ _
 names:=fun k it h=>by obtain ⟨-,rfl⟩:=new_get28 h;exact List.Pairwise.nil
 few:=by decide
 ids:=fun k it h=>by obtain ⟨rfl,-⟩:=new_get28 h;exact ⟨Int.le_refl _,by decide⟩
 root:=rfl
 node:=fun k it h=>by
  obtain ⟨-,rfl⟩:=new_get28 h
  exact ⟨.inr rfl,fun e=>absurd e (by decide),fun _=>⟨rfl,rfl,rfl,rfl⟩,⟨rfl,by decide⟩,by decide⟩
 leads:=fun d it nm k h hn=>by obtain ⟨-,rfl⟩:=new_get28 h;cases hn
 count:=fun k it h h0=>absurd (new_get28 h).1 h0
 alive:=fun k it h hl=>by obtain ⟨-,rfl⟩:=new_get28 h;exact absurd hl (by decide)
 depth:=⟨fun _=>0,rfl,fun d it nm k h hn=>by obtain ⟨-,rfl⟩:=new_get28 h;cases hn⟩
theorem stInv_new28:StInv stateNew where
 tree:=new_tree28
 few:=fun k it hg=>by
  obtain ⟨-,rfl⟩:=new_get28 hg
  show (1:Int)≤64
  decide
 now:=by decide
 fd:=fun k f hf=>by cases hf
 snaps:=by decide
 snap:=fun x hx=>by cases hx
 ids:=fun x hx=>by cases hx
 next:=by decide
 last:=by decide
def o28:OpP:=⟨2,[47,97],[],0,0,0,0,0,[]⟩
def a28:AskP:=⟨true,false,false,false,false,false,false⟩
def s28:StateP:=(mkdirT stateNew (splitP o28.path).1).2
theorem o28_facts:splitL [o28.path]=0∧(makeT stateNew.T (splitP o28.path).1 2).2.1=0∧asksOf o28.kind=some a28∧rightOf o28 a28=0∧(opBytes o28 a28).length=5:=⟨by decide,by decide,rfl,by decide,by decide⟩
theorem s28_tree:∃ x y:ItemP,s28.T=[(0,x),(1,y)]∧NodeOk 0 x.n∧NodeOk 1 y.n∧x.names=[([97],1)]∧y.names=[]:=⟨_,_,rfl,⟨by decide,by decide,by decide,.inr ⟨rfl,rfl,rfl,rfl⟩⟩,⟨by decide,by decide,by decide,.inr ⟨rfl,rfl,rfl,rfl⟩⟩,rfl,rfl⟩
theorem s28_ok:StateOk s28 where
 now:=by decide
 few:=by decide
 key:=by decide
 tree:=by
  rw [show committedT s28.T=s28.T from rfl]
  obtain ⟨x,y,h,h1,h2,h3,h4⟩:=s28_tree
  rw [h]
  refine ⟨(by decide:(2:Nat)≤1000),fun p hp=>?_,fun p hp=>?_,fun p hp=>?_⟩ <;> simp at hp <;> rcases hp with rfl|rfl
  ·exact h1
  ·exact h2
  ·rw [h3];decide
  ·rw [h4];decide
  ·rw [h3];decide
  ·rw [h4];decide
 size:=by decide
 snaps:=⟨by decide,fun s hs=>by simp [s28,mkdirT,stateNew,noSnaps] at hs⟩
def lva (k p g:Nat) (id:List UInt8):LogV:=(lv28 k p g id).more ⟨2,1,[]⟩
theorem seg28 (id:List UInt8):SegFine (0:Nat) 1 (genesisOf id) [⟨2,1,[]⟩]:=⟨by decide,by decide,by decide,by decide,genesisOf_length id,by decide,by decide,by decide,by decide,fun k h=>by
 have h0:k=0:=by simpa using h
 subst h0
 rfl⟩
theorem lva_ok {k p g:Nat}{id:List UInt8}(hg:0<g):LvOk (lva k p g id) ⟨1,2,opBytes o28 a28⟩ where
 right:=by decide
 s0:=by decide
 seq:=rfl
 wr:=fun x hx=>by
  obtain rfl:x=⟨2,1,[]⟩:=List.mem_singleton.1 hx
  decide
 wb:=(by decide:waitBytes [⟨2,1,[]⟩]≤942)
 fine:=fun _=>seg28 id
 fit:=(by decide:decide (waitBytes [⟨2,1,[]⟩]+recSize ⟨1,2,opBytes o28 a28⟩≤942)=true)
 room:=by show g-0≠0;omega
def id28:List UInt8:=List.replicate 16 0
def items28:List Value:=(itemCells 1 2 (strOf [47,97])).toList++(itemCells 4 0 ⟨#[]⟩).toList++(itemCells 9 0 ⟨#[]⟩).toList
def outsOf (n:Nat) (D:Option Addr) (cd:Nat) (N:Option Addr) (cn:Nat):List Value :=
 match n with
 | 0=>[]
 | 1=>[.int .i64 0,.int .i64 0,.slice D 0 cd,.slice N 0 cn,.int .i64 0,.int .i64 0,.int .i64 0,.int .i64 0,.int .u64 0,.bool false,.slice none 0 0,.int .i64 0,.int .i64 0,.int .i64 0,.slice none 0 0,.int .u64 0,.int .u64 0,.int .i64 0,.int .i64 0,.slice none 0 0]
 | 2=>[.int .i64 0,.int .i64 0,.slice D 0 cd,.slice N 0 cn,.int .i64 0,.int .i64 0,.int .i64 0,.int .i64 0,.int .u64 0,.bool false,.slice none 0 0,.int .i64 0,.int .i64 0,.int .i64 0,.slice none 0 0,.int .u64 0,.int .u64 0,.int .i64 0,.int .i64 0,.slice none 0 0]++[.int .i64 0,.int .i64 0,.slice none 0 0,.slice none 0 0,.int .i64 0,.int .i64 0,.int .i64 0,.int .i64 0,.int .u64 0,.bool false,.slice none 0 0,.int .i64 0,.int .i64 0,.int .i64 0,.slice none 0 0,.int .u64 0,.int .u64 0,.int .i64 0,.int .i64 0,.slice none 0 0]
 | _=>([.int .i64 0,.int .i64 0,.slice D 0 cd,.slice N 0 cn,.int .i64 0,.int .i64 0,.int .i64 0,.int .i64 0,.int .u64 0,.bool false,.slice none 0 0,.int .i64 0,.int .i64 0,.int .i64 0,.slice none 0 0,.int .u64 0,.int .u64 0,.int .i64 0,.int .i64 0,.slice none 0 0]++[.int .i64 0,.int .i64 0,.slice none 0 0,.slice none 0 0,.int .i64 0,.int .i64 0,.int .i64 0,.int .i64 0,.int .u64 0,.bool false,.slice none 0 0,.int .i64 0,.int .i64 0,.int .i64 0,.slice none 0 0,.int .u64 0,.int .u64 0,.int .i64 0,.int .i64 0,.slice none 0 0])++[.int .i64 30,.int .i64 0,.slice none 0 0,.slice none 0 0,.int .i64 0,.int .i64 0,.int .i64 0,.int .i64 0,.int .u64 0,.bool false,.slice none 0 0,.int .i64 0,.int .i64 0,.int .i64 0,.slice none 0 0,.int .u64 0,.int .u64 0,.int .i64 0,.int .i64 0,.slice none 0 0]
def st28 (n:Nat):StateP:=if n=0 then stateNew else s28
def lv28n (n:Nat):LogV:=if n=0 then lva 64 16 3 id28 else (lva 64 16 3 id28).more ⟨1,2,opBytes o28 a28⟩
theorem info20_out:(Tryz.prog.info? 37).map (fun i=>(i.zero.map fun z=>z.cells.size,i.size,i.bytes))=some (some 20,20,240):=by kernel_rfl
structure Sh28 (w wx:World) (cx:Col) (q:DiskB) (gM gR bv m:Nat) (O:Option Addr) (cO:Nat) (D:Option Addr) (cd:Nat) (N:Option Addr) (cn:Nat):Prop where
 new:Keep (fun b=>b<w.heap.size) w wx
 run:wx.heap[gR]?=some (.cells #[.int .i64 0,.slice O m cO,.slice none 0 0,.slice none 0 0,.slice none 0 0] 72 (0,0))
 own:Own wx w.heap.size 37 20 O m cO (outsOf m D cd N cn)
 va:∃ A cl I ci H hc bs bl base,VaultAt wx cx base bv q (st28 m) (lv28n m) A cl (fmtBytes 64 id28) 64 16 3 I ci 2 0 0 0 H hc bs bl
 mach:MachAt wx cx gM q (.pointer (some ⟨bv,0,none⟩))
 c9:cx gR=9∧(∀ k,blk O=some k→cx k=9)∧∀ b,b<w.heap.size→cx b=9
 far:w.heap.size≤gR
 lowG:5<w.heap.size
 apart:∀ k,blk O=some k→k≠gR∧k≠gM
 max:MaxLenAt wx
 max0:MaxLenAt w
section
variable {w wx w':World}{cx:Col}{q:DiskB}{gM gR bv m:Nat}{O:Option Addr}{cO:Nat}{D:Option Addr}{cd:Nat}{N:Option Addr}{cn:Nat}
theorem Sh28.new_ (h:Sh28 w wx cx q gM gR bv m O cO D cd N cn) (hk:New wx w'):Sh28 w w' cx q gM gR bv m O cO D cd N cn:=by
 obtain ⟨A,cl,I,ci,H,hc,bs,bl,base,hv⟩:=h.va
 exact ⟨h.new.trans2 (Keep.of_new (D:=fun b=>b<wx.heap.size) hk) fun b hb _=>Nat.lt_of_lt_of_le hb h.new.size,hk.blockAt h.run trivial,own_keep h.own hk fun _ _=>trivial,⟨A,cl,I,ci,H,hc,bs,bl,base,hv.new hk (Ext.refl _ _)⟩,⟨hk.blockAt h.mach.1 trivial,h.mach.2⟩,h.c9,h.far,h.lowG,h.apart,h.max.new hk,h.max0⟩
theorem Sh28.step (h:Sh28 w wx cx q gM gR bv m O cO D cd N cn){wA wB wC wE:World}{cA:Col}{A9:Option Addr}{c9:Nat}{D':Option Addr}{cd':Nat}{N':Option Addr}{cn':Nat}{v9:Value}(kA:Keep (fun b=>b<w.heap.size) w wA) (rA:wA.heap[gR]?=some (.cells #[.int .i64 0,.slice O m cO,.slice none 0 0,.slice none 0 0,.slice none 0 0] 72 (0,0)))
  (oA:∀ k,blk O=some k→w.heap.size≤k) (vA:∃ A cl I ci H hc bs bl base,VaultAt wA cA base bv q (st28 (m+1)) (lv28n (m+1)) A cl (fmtBytes 64 id28) 64 16 3 I ci 2 0 0 0 H hc bs bl) (mA:MachAt wA cA gM q (.pointer (some ⟨bv,0,none⟩))) (cA9:cA gR=9∧(∀ k,blk O=some k→cA k=9)∧∀ b,b<w.heap.size→cA b=9)
  (kB:New wA wB) (kC:Keep (fun j=>some j≠blk O) wB wC) (hbk:blk A9=blk O∨blk A9=some wB.heap.size) (o9:Own wC w.heap.size 37 20 A9 (m+1) c9 (outsOf (m+1) D' cd' N' cn')) (hv:v9=.slice A9 (m+1) c9) (hE:wE=wC.setCell ⟨gR,1,none⟩ v9):∃ c',Sh28 w wE c' q gM gR bv (m+1) A9 c9 D' cd' N' cn':=by
 obtain ⟨A,cl,I,ci,H,hc,bs,bl,base,hva⟩:=vA
 subst hv
 have lR:=(Array.getElem?_eq_some_iff.1 rA).1
 have lM:=(Array.getElem?_eq_some_iff.1 mA.1).1
 have zB:=kB.size
 have hfar:=h.far
 have ex:Ext wB cA (cA.on wB.heap.size fun _=>9):=Col.on_ext cA wB _
 have nO:some gR≠blk O:=fun e=>(h.apart _ e.symm).1 rfl
 have nM:some gM≠blk O:=fun e=>(h.apart _ e.symm).2 rfl
 have rC:=kC.blockAt (kB.blockAt rA trivial) nO
 have nRM:gM≠gR:=fun e=>by
  have h1:=mA.1
  rw [e,rA] at h1
  injection h1 with h1
  injection h1 with h1
  exact absurd (congrArg Array.size h1) (by simp)
 have q9:Keep (fun j=>j≠gR) wC wE:=by rw [hE];exact (Keep.refl _ wC).setCell (p:=⟨gR,1,none⟩) (fun hd=>absurd rfl hd) _
 have hk:Keep (fun b=>b<w.heap.size) w wE:=((kA.new kB).trans2 kC fun b hb _ e=>by have:=oA b e.symm;omega).trans2 q9 fun b hb _=>by (show b≠gR);omega
 have a9:∀ k,blk A9=some k→(k≠gR∧k≠gM)∧(cA.on wB.heap.size fun _=>9) k=9:=fun k hk=>by
  rcases hbk with e|e
  ·exact ⟨h.apart k (e▸hk),by
    unfold Col.on
    split
    ·exact cA9.2.1 k (e▸hk)
    ·rfl⟩
  ·obtain rfl:wB.heap.size=k:=by rw [e] at hk;injection hk
   exact ⟨⟨by omega,by omega⟩,Col.on_new cA _ (Nat.le_refl _)⟩
 refine ⟨_,hk,?_,own_keep o9 q9 fun k hk=>(a9 k hk).1.1,⟨A,cl,I,ci,H,hc,bs,bl,base,((hva.new kB (Ext.refl _ _)).turn kC ex fun b hb e e2=>?_).turn q9 (Ext.refl _ _) fun b hb e e2=>?_⟩,⟨q9.blockAt (kC.blockAt (kB.blockAt mA.1 trivial) nM) nRM,(ex _ (by omega)).trans mA.2⟩,⟨(ex _ (by omega)).trans cA9.1,fun k hk=>(a9 k hk).2,fun b hb=>(ex b (by have:=kA.size;omega)).trans (cA9.2.2 b hb)⟩,hfar,h.lowG,fun k hk=>(a9 k hk).1,?_,h.max0⟩
 ·rw [hE];exact setCell_block rC 1 _
 ·rw [cA9.2.1 b e2.symm] at e;rcases e with e|e|e|e|e|e <;> exact absurd e (by decide)
 ·subst e2;rw [(ex _ (by omega)).trans cA9.1] at e;rcases e with e|e|e|e|e|e <;> exact absurd e (by decide)
 ·obtain ⟨mx,hmx⟩:=h.max0
  exact ⟨mx,hk.cell_some hmx h.lowG⟩
def RoundRet (w wx:World) (_cx:Col) (q:DiskB) (gM gR bv m:Nat) (O:Option Addr) (cO:Nat) (e:Ending) (w':World):Prop :=
 ∃ u0 u1 u2 u3 u4 u5 u6 u7 u8 u9 u10 u11 u12 u13 u14 u15 u16 u17 u18 u19 D cd N cn c',e=.returned (.agg #[u0,u1,u2,u3,u4,u5,u6,u7,u8,u9,u10,u11,u12,u13,u14,u15,u16,u17,u18,u19])∧(∀ u∈[u0,u1,u2,u3,u4,u5,u6,u7,u8,u9,u10,u11,u12,u13,u14,u15,u16,u17,u18,u19],u.oneCell'=true)∧Keep (fun b=>b<w.heap.size) w w'∧w'.heap[gR]?=some (.cells #[.int .i64 0,.slice O m cO,.slice none 0 0,.slice none 0 0,.slice none 0 0] 72 (0,0)) ∧
  (∃ vs,Own w' w.heap.size 37 20 O m cO vs∧vs++[u0,u1,u2,u3,u4,u5,u6,u7,u8,u9,u10,u11,u12,u13,u14,u15,u16,u17,u18,u19]=outsOf (m+1) D cd N cn)∧(∃ A cl I ci H hc bs bl base,VaultAt w' c' base bv q (st28 (m+1)) (lv28n (m+1)) A cl (fmtBytes 64 id28) 64 16 3 I ci 2 0 0 0 H hc bs bl)∧MachAt w' c' gM q (.pointer (some ⟨bv,0,none⟩))∧(c' gR=9∧(∀ k,blk O=some k→c' k=9)∧∀ b,b<w.heap.size→c' b=9)∧MaxLenAt w'∧Keep (fun b=>b<w.heap.size∨b=gR) wx w'
theorem sh_round (h:Sh28 w wx cx q gM gR bv m O cO D cd N cn) (hm:m<3){gl:Nat}(hl:wx.heap[gl]?=some (.cells items28.toArray 49 (0,0))):
  ∃ t0 t1 t2 t3 t4 t5 t6 t7 t8 t9 t10 t11 t12:Value,(∀ W,New wx W→W.cell? ⟨gl,m*13+0,none⟩=some t0∧W.cell? ⟨gl,m*13+1,none⟩=some t1∧W.cell? ⟨gl,m*13+2,none⟩=some t2∧W.cell? ⟨gl,m*13+3,none⟩=some t3∧W.cell? ⟨gl,m*13+4,none⟩=some t4∧W.cell? ⟨gl,m*13+5,none⟩=some t5∧W.cell? ⟨gl,m*13+6,none⟩=some t6∧W.cell? ⟨gl,m*13+7,none⟩=some t7∧W.cell? ⟨gl,m*13+8,none⟩=some t8∧W.cell? ⟨gl,m*13+9,none⟩=some t9∧W.cell? ⟨gl,m*13+10,none⟩=some t10∧W.cell? ⟨gl,m*13+11,none⟩=some t11∧W.cell? ⟨gl,m*13+12,none⟩=some t12) ∧
   Calls Tryz.prog 59 #[.pointer (some ⟨gM,0,none⟩),.agg #[t0,t1,t2,t3,t4,t5,t6,t7,t8,t9,t10,t11,t12]] wx (RoundRet w wx cx q gM gR bv m O cO):=by
 obtain ⟨A,cl,I,ci,H,hc,bs,bl,base,hv⟩:=h.va
 have cell:∀ W,New wx W→∀ k v,items28[k]?=some v→W.cell? ⟨gl,k,none⟩=some v:=fun W hW k v hk=>cellOf (hW.blockAt hl trivial) (by simpa using hk)
 have hm':m=0∨m=1∨m=2:=by omega
 have keepr:∀ {w2:World},New wx w2→Keep (fun b=>b<w.heap.size) w w2∧w2.heap[gR]?=some (.cells #[.int .i64 0,.slice O m cO,.slice none 0 0,.slice none 0 0,.slice none 0 0] 72 (0,0))∧Own w2 w.heap.size 37 20 O m cO (outsOf m D cd N cn)∧VaultAt w2 cx base bv q (st28 m) (lv28n m) A cl (fmtBytes 64 id28) 64 16 3 I ci 2 0 0 0 H hc bs bl∧MachAt w2 cx gM q (.pointer (some ⟨bv,0,none⟩))∧MaxLenAt w2:=fun hk =>
  ⟨h.new.trans2 (Keep.of_new (D:=fun b=>b<wx.heap.size) hk) fun b hb _=>Nat.lt_of_lt_of_le hb h.new.size,hk.blockAt h.run trivial,own_keep h.own hk fun _ _=>trivial,hv.new hk (Ext.refl _ _),⟨hk.blockAt h.mach.1 trivial,h.mach.2⟩,h.max.new hk⟩
 rcases hm' with rfl|rfl|rfl
 ·refine ⟨_,_,_,_,_,_,_,_,_,_,_,_,_,fun W hW=>⟨cell W hW 0 _ rfl,cell W hW 1 _ rfl,cell W hW 2 _ rfl,cell W hW 3 _ rfl,cell W hW 4 _ rfl,cell W hW 5 _ rfl,cell W hW 6 _ rfl,cell W hW 7 _ rfl,cell W hW 8 _ rfl,cell W hW 9 _ rfl,cell W hW 10 _ rfl,cell W hW 11 _ rfl,cell W hW 12 _ rfl⟩,?_⟩
  refine (mdo_mkdir hv h.mach (s:=stateNew) stInv_new28 (o:=o28) (a:=a28) rfl o28_facts.1 o28_facts.2.1 o28_facts.2.2.1 o28_facts.2.2.2.1 (by decide) (by rw [o28_facts.2.2.2.2];decide) h.max (lva_ok (by decide))).mono ?_
  rintro e w2 ⟨D',cd',N',cn',c2,A2,cl2,bs2,rfl,k2,x2,v2⟩
  have f9:∀ b,b<wx.heap.size→cx b=9→b<wx.heap.size∧¬ (cx b=7∨cx b=8∨(⟨1,2,3⟩:Cols).has (cx b)):=fun b hb e=>⟨hb,by rw [e];rintro (e|e|e|e|e) <;> exact absurd e (by decide)⟩
  have lR:=(Array.getElem?_eq_some_iff.1 h.run).1
  have lM:=(Array.getElem?_eq_some_iff.1 h.mach.1).1
  have lO:∀ k,blk O=some k→k<wx.heap.size:=fun k hk=>(own_lt h.own k hk).2
  obtain ⟨mx,hmx⟩:=h.max
  refine ⟨_,_,_,_,_,_,_,_,_,_,_,_,_,_,_,_,_,_,_,_,D',cd',N',cn',c2,rfl,by simp [Value.oneCell'],h.new.trans2 k2 fun b hb _=>f9 b (Nat.lt_of_lt_of_le hb h.new.size) (h.c9.2.2 b hb),k2.blockAt h.run (f9 _ lR h.c9.1),⟨_,own_keep h.own k2 fun k hk=>f9 k (lO k hk) (h.c9.2.1 k hk),rfl⟩,⟨A2,cl2,I,ci,H,hc,bs2,bl,base,v2⟩,⟨k2.blockAt h.mach.1 (f9 _ lM h.mach.2),(x2 _ lM).trans h.mach.2⟩,⟨(x2 _ lR).trans h.c9.1,fun k hk=>(x2 _ (lO k hk)).trans (h.c9.2.1 k hk),fun b hb=>(x2 b (Nat.lt_of_lt_of_le hb h.new.size)).trans (h.c9.2.2 b hb)⟩,⟨mx,k2.cell_some hmx (f9 _ (Nat.lt_of_lt_of_le h.lowG h.new.size) (h.c9.2.2 _ h.lowG))⟩,(Keep.refl (fun b=>b<w.heap.size∨b=gR) wx).trans2 k2 fun b hb e=>f9 b hb (e.elim (h.c9.2.2 b) fun e=>e▸h.c9.1)⟩
 ·refine ⟨_,_,_,_,_,_,_,_,_,_,_,_,_,fun W hW=>⟨cell W hW 13 _ rfl,cell W hW 14 _ rfl,cell W hW 15 _ rfl,cell W hW 16 _ rfl,cell W hW 17 _ rfl,cell W hW 18 _ rfl,cell W hW 19 _ rfl,cell W hW 20 _ rfl,cell W hW 21 _ rfl,cell W hW 22 _ rfl,cell W hW 23 _ rfl,cell W hW 24 _ rfl,cell W hW 25 _ rfl⟩,?_⟩
  refine (mdo_check (k:=64) (id:=id28) (by decide) (by decide) (by decide) hv.log.on.disk h.mach).mono ?_
  rintro e w2 ⟨rfl,k2⟩
  obtain ⟨r1,r2,r3,r4,r5,r6⟩:=keepr k2
  exact ⟨_,_,_,_,_,_,_,_,_,_,_,_,_,_,_,_,_,_,_,_,D,cd,N,cn,cx,rfl,by simp [Value.oneCell'],r1,r2,⟨_,r3,rfl⟩,⟨A,cl,I,ci,H,hc,bs,bl,base,r4⟩,r5,h.c9,r6,Keep.of_new k2⟩
 ·refine ⟨_,_,_,_,_,_,_,_,_,_,_,_,_,fun W hW=>⟨cell W hW 26 _ rfl,cell W hW 27 _ rfl,cell W hW 28 _ rfl,cell W hW 29 _ rfl,cell W hW 30 _ rfl,cell W hW 31 _ rfl,cell W hW 32 _ rfl,cell W hW 33 _ rfl,cell W hW 34 _ rfl,cell W hW 35 _ rfl,cell W hW 36 _ rfl,cell W hW 37 _ rfl,cell W hW 38 _ rfl⟩,?_⟩
  refine (mdo_none wx gM).mono ?_
  rintro e w2 ⟨rfl,k2⟩
  obtain ⟨r1,r2,r3,r4,r5,r6⟩:=keepr k2
  exact ⟨_,_,_,_,_,_,_,_,_,_,_,_,_,_,_,_,_,_,_,_,D,cd,N,cn,cx,rfl,by simp [Value.oneCell'],r1,r2,⟨_,r3,rfl⟩,⟨A,cl,I,ci,H,hc,bs,bl,base,r4⟩,r5,h.c9,r6,Keep.of_new k2⟩
end
def ShDoRet (w:World) (n:Nat) (e:Ending) (w':World):Prop :=
 ∃ base O cO D cd N cn A1 n1 c1 A2 n2 c2 A3 c3,e=.returned (.agg #[.int .i64 0,.slice O n cO,.slice A1 n1 c1,.slice A2 n2 c2,.slice A3 8192 c3])∧w.heap.size≤base∧Own w' base 37 20 O n cO (outsOf n D cd N cn)∧New w w'
theorem shdo_any {w:World}{D0:Nat→Prop}{IA:Option Addr}{ic n:Nat}{L:Option Addr}(hid:Bs w D0 IA 16 id28) (hD0:∀ b,D0 b→b<w.heap.size) (hic:16≤ic) (hMx:MaxLenAt w) (hL:n=0∨n=3∧∃ gl,L=some ⟨gl,0,none⟩∧w.heap[gl]?=some (.cells items28.toArray 49 (0,0))):
  Calls Tryz.prog 25 #[.int .i64 64,.slice IA 16 ic,.slice L n n] w (ShDoRet w n):=by
 have k0:=(New.refl w).alloc (.cells #[.int .i64 0,.slice none 0 0,.slice none 0 0,.slice none 0 0,.slice none 0 0] 72)
 have x0:=heap_alloc_new w (.cells #[.int .i64 0,.slice none 0 0,.slice none 0 0,.slice none 0 0,.slice none 0 0] 72)
 obtain ⟨w1,hw1⟩:∃ w1,w1=w.alloc (.cells #[.int .i64 0,.slice none 0 0,.slice none 0 0,.slice none 0 0,.slice none 0 0] 72):=⟨_,rfl⟩
 obtain ⟨g0,hg0⟩:∃ g0,g0=w.heap.size:=⟨_,rfl⟩
 have z1:w1.heap.size=w.heap.size+1:=by rw [hw1];simp
 rw [← hw1] at k0 x0
 rw [← hg0] at x0
 have lm:5<w.heap.size:=by
  obtain ⟨mx,hmx⟩:=hMx
  exact World.block_lt_of_cell? w _ hmx
 have H0:=Lib.hid (And.intro k0 (And.intro x0 (And.intro lm (And.intro (hMx.new k0) (And.intro hg0 z1)))))
 have HI:=Lib.hid (And.intro (hid.new k0) hD0)
 have HL:=Lib.hid hL
 clear k0 x0 lm hMx hid hD0 hL z1
 have HDN:=Lib.hid (dnew_any 64 (by decide) (by decide) w1)
 have hnn:n≤3:=by rcases HL.out with h|⟨h,-⟩ <;> omega
 go_enter Tryz.func25,Tryz.ntmps25
 go_upto_region 1 with fail
 rw [← hw1,← hg0]
 have HW1:=Lib.hid (And.intro hw1 hg0)
 clear hw1 hg0
 go_wp2_with fail
 refine HDN.out.mono ?_
 rintro e w2 ⟨⟨q,rfl,hq,hd⟩,k2⟩
 have HC2:=Lib.hid (And.intro hd (And.intro hq k2))
 clear hd hq k2 HDN
 go_wp2_with fail
 have hC2:=Clean.of HC2.out.1
 obtain ⟨wr2,hd2⟩:=hC2
 refine (mformat_ok (k:=64) hd2 (by rw [List.length_replicate]) (by decide) (by decide) (Clean.beyond (Clean.of HC2.out.1)) (by decide) (fun i b h=>nomatch h) ((HI.out.1.new HC2.out.2.2)) (fun b hb=>⟨fun e=>by have:=HC2.out.2.1 b (.inl e);have:=HI.out.2 b hb;have:=H0.out.2.2.2.2.2;omega,fun e=>by have:=HC2.out.2.1 b (.inr (.inr e));have:=HI.out.2 b hb;have:=H0.out.2.2.2.2.2;omega⟩) hic).mono ?_
 rintro e w3 ⟨rfl,k3,wr3,hd3⟩
 have HC3:=Lib.hid (Clean.of hd3)
 have HK3:Hid (New w1 w3):=Lib.hid (HC2.out.2.2.trans2 k3 fun b hb _=>⟨fun e=>by have:=HC2.out.2.1 b (.inl e);omega,fun e=>by have:=HC2.out.2.1 b (.inr (.inl e));omega,fun e=>by have:=HC2.out.2.1 b (.inr (.inr e));omega⟩)
 have HQ:Hid (∀ b,b=q.bd∨b=q.bs∨b=q.bm→w1.heap.size≤b):=Lib.hid HC2.out.2.1
 clear hd2 k3 hd3 HC2 hic
 go_upto_region 8 with fail
 have kM:=(New.refl w3).alloc (.cells #[.pointer (some ⟨q.bd,0,none⟩),.pointer none] 109)
 have xM:=heap_alloc_new w3 (.cells #[.pointer (some ⟨q.bd,0,none⟩),.pointer none] 109)
 obtain ⟨w4,hw4⟩:∃ w4,w4=w3.alloc (.cells #[.pointer (some ⟨q.bd,0,none⟩),.pointer none] 109):=⟨_,rfl⟩
 obtain ⟨gM,hgM⟩:∃ gM,gM=w3.heap.size:=⟨_,rfl⟩
 obtain ⟨c4,hc4⟩:∃ c4:Col,c4=fun b=>if b=q.bd∨b=q.bs∨b=q.bm then 7 else 9:=⟨_,rfl⟩
 rw [← hw4] at kM xM ⊢
 rw [← hgM] at xM ⊢
 have f7:∀ b,b=q.bd∨b=q.bs∨b=q.bm→c4 b=7:=fun b h=>by rw [hc4];exact if_pos h
 have f9:∀ b,¬ (b=q.bd∨b=q.bs∨b=q.bm)→c4 b=9:=fun b h=>by rw [hc4];exact if_neg h
 have dM:¬ (gM=q.bd∨gM=q.bs∨gM=q.bm):=fun h=>by have:=HC3.out.lt gM h;omega
 have HMO:=Lib.hid (mmount28 (k:=64) (by decide) (by decide) (by decide) (HC3.out.new kM) (c:=c4) ⟨f7 _ (.inl rfl),f7 _ (.inr (.inl rfl)),f7 _ (.inr (.inr rfl))⟩ ⟨xM,f9 _ dM⟩)
 have H4:Hid (New w1 w4∧w1.heap.size≤gM∧∀ b,b<w1.heap.size→c4 b=9∧DiskOf q b∧b≠gM):=Lib.hid ⟨HK3.out.new kM,by rw [hgM];exact HK3.out.size,fun b hb=>by
  have e1:¬ (b=q.bd∨b=q.bs∨b=q.bm):=fun h=>by have:=HQ.out b h;omega
  exact ⟨f9 b e1,⟨fun h=>e1 (.inl h),fun h=>e1 (.inr (.inl h)),fun h=>e1 (.inr (.inr h))⟩,by have:=HK3.out.size;omega⟩⟩
 clear hw4 hgM hc4 f7 f9 dM kM xM HC3 HK3 HQ
 unfold MMountRet at HMO
 go_wp2_with fail
 refine HMO.out.mono ?_
 rintro e w5 ⟨bv,c5,A,cl,I,ci,H,hc,bs,bl,I',ci',H',hc',base,rfl,k5,x5,z5,v5,m5⟩
 have k6:=(New.refl w5).alloc (.cells outZero 37)
 have H5:=Lib.hid (And.intro k5 (And.intro x5 (And.intro v5 (And.intro m5 k6))))
 clear k5 x5 z5 v5 m5 k6 HMO
 go_upto_region 12 with (refine st_all (heap_alloc_new w5 (.cells outZero 37)) (cells:=#[.int .i64 0,.int .i64 0,.slice none 0 0,.slice none 0 0,.int .i64 0,.int .i64 0,.int .i64 0,.int .i64 0,.int .u64 0,.bool false,.slice none 0 0,.int .i64 (64:Nat),.int .i64 (64/4:Nat),.int .i64 ((64-1-2*(64/4))/8:Nat),.slice I' 16 ci',.int .u64 2,.int .u64 0,.int .i64 0,.int .i64 0,.slice H' 32 hc']) (fun w6 hE hKE=>?_);have c0:w6.cell? ⟨w5.heap.size,0,none⟩=some (.int .i64 0):=cellOf hE (k:=0) rfl)
 have n6:New w5 w6:=H5.out.2.2.2.2.trans2 hKE fun b hb _=>Nat.ne_of_lt hb
 have kR:=(New.refl w6).alloc (.cells #[.int .i64 0,.slice none 0 0,.slice none 0 0,.slice none 0 0,.slice none 0 0] 72)
 have xR:=heap_alloc_new w6 (.cells #[.int .i64 0,.slice none 0 0,.slice none 0 0,.slice none 0 0,.slice none 0 0] 72)
 obtain ⟨w7,hw7⟩:∃ w7,w7=w6.alloc (.cells #[.int .i64 0,.slice none 0 0,.slice none 0 0,.slice none 0 0,.slice none 0 0] 72):=⟨_,rfl⟩
 obtain ⟨gR,hgR⟩:∃ gR,gR=w6.heap.size:=⟨_,rfl⟩
 obtain ⟨gO,hgO⟩:∃ gO,gO=w5.heap.size:=⟨_,rfl⟩
 rw [← hw7] at kR xR ⊢
 rw [← hgR] at xR ⊢
 rw [← hgO]
 have HS0:Hid (∃ c7,Sh28 w1 w7 c7 q gM gR bv 0 none 0 none 0 none 0):=Lib.hid (by
  obtain ⟨k5,x5,v5,m5,-⟩:=H5.out
  have n7:=n6.new kR
  have e7:=Col.on_ext c5 w5 fun _=>9
  have hl7:=n6.size
  have hz4:=H4.out.1.size
  have hk:Keep (fun b=>b<w1.heap.size) w1 w7:=((Keep.of_new (D:=fun b=>b<w1.heap.size) H4.out.1).trans2 k5 fun b hb _=>⟨Nat.lt_of_lt_of_le hb hz4,(H4.out.2.2 b hb).2⟩).new n7
  have hlow:5<w1.heap.size:=by have:=H0.out.2.2.1;have:=H0.out.2.2.2.2.2;omega
  have hm5:=(Array.getElem?_eq_some_iff.1 m5.1).1
  have z5:=k5.size
  refine ⟨_,hk,xR,Own.nil _ _ _ _,⟨A,cl,I,ci,H,hc,bs,bl,base,v5.new n7 e7⟩,⟨n7.blockAt m5.1 trivial,(e7 _ hm5).trans m5.2⟩,⟨Col.on_new c5 _ (by omega),fun k hk=>(nomatch hk),fun b hb=>(e7 b (by omega)).trans ((x5 b (by omega)).trans (H4.out.2.2 b hb).1)⟩,by omega,hlow,fun k hk=>(nomatch hk),?_,H0.out.2.2.2.1⟩
  obtain ⟨mx,hmx⟩:=H0.out.2.2.2.1
  exact ⟨mx,hk.cell_some hmx hlow⟩)
 clear n6 kR xR hw7 hgR hgO hE hKE c0 H5
 go_wp2_with fail
 go_loopw [13] (fun s13 wx=>∃ (m:Nat) (O:Option Addr) (cO:Nat) (D:Option Addr) (cd:Nat) (N:Option Addr) (cn:Nat) (cx:Col),s13=.int .i64 m∧m≤n∧Sh28 w1 wx cx q gM gR bv m O cO D cd N cn) (fun s _=>n-(intOf s).toNat)
 case atStart=>exact ⟨0,none,0,none,0,none,0,HS0.out.choose,rfl,Nat.zero_le _,HS0.out.choose_spec⟩
 case round =>
  obtain ⟨m,O,cO,D,cd,N,cn,cx,rfl,hm,hS⟩:=hrel
  have HS:=Lib.hid hS
  clear hS HS0
  by_cases h2:m=n
  rotate_left
  ·rcases HL.out with h0|⟨h0,gl,hLe,hgl⟩
   ·omega
   have hm3:m<3:=by omega
   have hli:(m:Int)<n:=by omega
   have hl4:(m:Int)<1024:=by omega
   have HH:=Lib.hid (And.intro h0 (And.intro hm h2))
   subst hLe
   clear h0 h2 hm
   have kdr:New wr wr.drew:=(New.refl wr).drew
   have hg2:wr.drew.heap[gl]?=some (.cells items28.toArray 49 (0,0)):=by
    have hlt:=(Array.getElem?_eq_some_iff.1 hgl).1
    exact kdr.blockAt (HS.out.new.blockAt (H0.out.1.blockAt hgl trivial) (by have:=H0.out.1.size;show gl<w1.heap.size;omega)) trivial
   obtain ⟨t0,t1,t2,t3,t4,t5,t6,t7,t8,t9,t10,t11,t12,HT,HC⟩:=sh_round (HS.out.new_ kdr) hm3 hg2
   replace HC:=Lib.hid HC
   have hgl1:gl<w1.heap.size:=by have hlt:=(Array.getElem?_eq_some_iff.1 hgl).1;have:=H0.out.1.size;omega
   have r0:∀ W,Keep (fun b=>b<w1.heap.size) wr.drew W→W.cell? ⟨gl,m*13,none⟩=some t0:=fun W hW=>hW.cell_some (HT _ (New.refl _)).1 hgl1
   have r1:∀ W,Keep (fun b=>b<w1.heap.size) wr.drew W→W.cell? ⟨gl,m*13+1,none⟩=some t1:=fun W hW=>hW.cell_some (HT _ (New.refl _)).2.1 hgl1
   have r2:∀ W,Keep (fun b=>b<w1.heap.size) wr.drew W→W.cell? ⟨gl,m*13+2,none⟩=some t2:=fun W hW=>hW.cell_some (HT _ (New.refl _)).2.2.1 hgl1
   have r3:∀ W,Keep (fun b=>b<w1.heap.size) wr.drew W→W.cell? ⟨gl,m*13+3,none⟩=some t3:=fun W hW=>hW.cell_some (HT _ (New.refl _)).2.2.2.1 hgl1
   have r4:∀ W,Keep (fun b=>b<w1.heap.size) wr.drew W→W.cell? ⟨gl,m*13+4,none⟩=some t4:=fun W hW=>hW.cell_some (HT _ (New.refl _)).2.2.2.2.1 hgl1
   have r5:∀ W,Keep (fun b=>b<w1.heap.size) wr.drew W→W.cell? ⟨gl,m*13+5,none⟩=some t5:=fun W hW=>hW.cell_some (HT _ (New.refl _)).2.2.2.2.2.1 hgl1
   have r6:∀ W,Keep (fun b=>b<w1.heap.size) wr.drew W→W.cell? ⟨gl,m*13+6,none⟩=some t6:=fun W hW=>hW.cell_some (HT _ (New.refl _)).2.2.2.2.2.2.1 hgl1
   have r7:∀ W,Keep (fun b=>b<w1.heap.size) wr.drew W→W.cell? ⟨gl,m*13+7,none⟩=some t7:=fun W hW=>hW.cell_some (HT _ (New.refl _)).2.2.2.2.2.2.2.1 hgl1
   have r8:∀ W,Keep (fun b=>b<w1.heap.size) wr.drew W→W.cell? ⟨gl,m*13+8,none⟩=some t8:=fun W hW=>hW.cell_some (HT _ (New.refl _)).2.2.2.2.2.2.2.2.1 hgl1
   have r9:∀ W,Keep (fun b=>b<w1.heap.size) wr.drew W→W.cell? ⟨gl,m*13+9,none⟩=some t9:=fun W hW=>hW.cell_some (HT _ (New.refl _)).2.2.2.2.2.2.2.2.2.1 hgl1
   have r10:∀ W,Keep (fun b=>b<w1.heap.size) wr.drew W→W.cell? ⟨gl,m*13+10,none⟩=some t10:=fun W hW=>hW.cell_some (HT _ (New.refl _)).2.2.2.2.2.2.2.2.2.2.1 hgl1
   have r11:∀ W,Keep (fun b=>b<w1.heap.size) wr.drew W→W.cell? ⟨gl,m*13+11,none⟩=some t11:=fun W hW=>hW.cell_some (HT _ (New.refl _)).2.2.2.2.2.2.2.2.2.2.2.1 hgl1
   have r12:∀ W,Keep (fun b=>b<w1.heap.size) wr.drew W→W.cell? ⟨gl,m*13+12,none⟩=some t12:=fun W hW=>hW.cell_some (HT _ (New.refl _)).2.2.2.2.2.2.2.2.2.2.2.2 hgl1
   have rA:∀ W,Keep (fun b=>b=gR) wr.drew W→W.cell? ⟨gR,1,none⟩=some (.slice O m cO):=fun W hW=>hW.cell_some (cellOf (kdr.blockAt HS.out.run trivial) rfl) rfl
   have Hgl:=Lib.hid (And.intro hgl hgl1)
   clear HT hgl hgl1 hg2 hm3
   go_upto_region 15 with fail
   clear hl4
   refine holdW_begin [9,11] (Keep (fun b=>b<w1.heap.size) wr.drew) (Keep (fun b=>b=gR) wr.drew) (by kernel_rfl) ?_
   have s0:Keep (fun b=>b<w1.heap.size) wr.drew wr.drew:=Keep.refl _ _
   have p0:Keep (fun b=>b=gR) wr.drew wr.drew:=Keep.refl _ _
   refine hw_take 0 ⟨s0,fun _=>p0⟩ ?_
   refine hw_takeT 1 ⟨s0,fun _=>p0⟩ ?_
   refine hw_take 2 ⟨s0,fun _=>p0⟩ ?_
   refine hw_take 3 ⟨s0,fun _=>p0⟩ ?_
   refine hw_take 4 ⟨s0,fun _=>p0⟩ ?_
   refine hw_take 5 ⟨s0,fun _=>p0⟩ ?_
   refine hw_take 6 ⟨s0,fun _=>p0⟩ ?_
   clear r0 r1 r2 r3 r4 r5 r6 r7 r8 r9 r10 r11 r12 rA
   have HS1:=Lib.hid (And.intro HS.out kdr)
   refine holdW_step (i:=7) (by kernel_rfl) rfl rfl (fun C hC=>?_)
   go_simp
   refine HC.out.mono ?_
   rintro e wA ⟨u0,u1,u2,u3,u4,u5,u6,u7,u8,u9,u10,u11,u12,u13,u14,u15,u16,u17,u18,u19,D',cd',N',cn',cA,rfl,hU,kA,rA,⟨vs,oA,hvs⟩,vA,mA,cA9,lA,tA⟩
   go_wp2_with fail
   have sA:Keep (fun b=>b<w1.heap.size) wr.drew wA:=(Keep.refl (fun b=>b<w1.heap.size) _).trans2 tA fun b _ hb=>.inl hb
   have pA:Keep (fun b=>b=gR) wr.drew wA:=(Keep.refl (fun b=>b=gR) _).trans2 tA fun b _ hb=>.inr hb
   refine hC.out _ _ ⟨sA,fun _=>pA⟩ ?_
   clear hC C
   try simp only [Act.put,ly1,ly2,ly3,ly4,ly5,ly6]
   have HA:=Lib.hid (And.intro kA (And.intro rA (And.intro oA (And.intro vA (And.intro mA (And.intro cA9 lA))))))
   have HV:=Lib.hid (And.intro hvs hU)
   clear kA rA oA hvs hU vA mA cA9 lA tA HC
   refine holdW_step (i:=8) (by kernel_rfl) rfl rfl (fun C hC=>?_)
   go_simp
   try go_wp2_with fail
   have kB:=(New.refl wA).alloc (.cells #[u0,u1,u2,u3,u4,u5,u6,u7,u8,u9,u10,u11,u12,u13,u14,u15,u16,u17,u18,u19] 37)
   have hrw:=(Row.made wA 37 #[u0,u1,u2,u3,u4,u5,u6,u7,u8,u9,u10,u11,u12,u13,u14,u15,u16,u17,u18,u19] 1 20 rfl).imp (E:=fun _=>True) fun _ _ _=>trivial
   obtain ⟨wB,hwB⟩:∃ wB,wB=wA.alloc (.cells #[u0,u1,u2,u3,u4,u5,u6,u7,u8,u9,u10,u11,u12,u13,u14,u15,u16,u17,u18,u19] 37):=⟨_,rfl⟩
   rw [← hwB] at kB hrw ⊢
   have sB:=Keep.new sA kB
   have pB:=Keep.new pA kB
   refine hC.out _ _ ⟨sB,fun _=>pB⟩ ?_
   clear hC C hwB
   try simp only [Act.put,ly1,ly2,ly3,ly4,ly5,ly6]
   have oB:=own_keep HA.out.2.2.1 kB (fun _ _=>trivial)
   have HB:=Lib.hid kB
   have hm9:m<3:=by have:=HH.out;omega
   have hb9:w1.heap.size≤wB.heap.size:=Nat.le_trans (Nat.le_trans HS1.out.1.new.size HS1.out.2.size) sB.size
   clear kB
   refine holdW_step (i:=9) (by kernel_rfl) rfl rfl (fun C hC=>?_)
   refine wp_append_base (base:=w1.heap.size) rfl Tryz.underlying22 (parts2 info20_out) (by decide) rfl oB rfl hrw (fun u hu=>HV.out.2 u hu) (by unfold maxLen;omega) (by omega) hb9 ?_
   intro A9 c9 wC o9 kC hbk
   have sC:Keep (fun b=>b<w1.heap.size) wr.drew wC:=sB.trans2 kC fun b _ hb e=>by have:=(own_lt HA.out.2.2.1 b e.symm).1;omega
   refine hC.out _ _ ⟨sC,fun h=>absurd h (by decide)⟩ ?_
   clear hC C
   try simp only [Act.put,ly1,ly2,ly3,ly4,ly5,ly6]
   refine hw_take 10 ⟨sC,fun h=>absurd h (by decide)⟩ ?_
   have rC:=kC.blockAt (HB.out.blockAt HA.out.2.1 trivial) (fun e=>(HS.out.apart _ e.symm).1 rfl)
   have d1:wC.cell? ⟨gR,1,none⟩=some (.slice O m cO):=cellOf rC rfl
   have f1:=frozenOf rC 1
   obtain ⟨cE,hSE⟩:=HS.out.step HA.out.1 HA.out.2.1 (fun k hk=>(own_lt HA.out.2.2.1 k hk).1) HA.out.2.2.2.1 HA.out.2.2.2.2.1 HA.out.2.2.2.2.2.1 HB.out kC hbk (HV.out.1▸o9) rfl rfl
   have HSE:=Lib.hid hSE
   have sE:Keep (fun b=>b<w1.heap.size) wr.drew (wC.setCell ⟨gR,1,none⟩ (.slice A9 (m+1) c9)):=sC.trans2 ((Keep.refl (fun j=>j≠gR) wC).setCell (p:=⟨gR,1,none⟩) (fun hd=>absurd rfl hd) _) fun b _ hb=>by have:=HS.out.far;show b≠gR;omega
   clear hSE sA pA sB pB sC rC hrw oB o9 kC hbk s0 p0 hm9 hb9
   refine holdW_step (i:=11) (by kernel_rfl) rfl rfl (fun C hC=>?_)
   go_simp
   refine hC.out _ _ ⟨sE,fun h=>absurd h (by decide)⟩ ?_
   clear hC C d1 f1 sE
   try simp only [Act.put,ly1,ly2,ly3,ly4,ly5,ly6]
   refine wpAnyW_done (by kernel_rfl) ?_ _
   generalize wC.setCell ⟨gR,1,none⟩ (.slice A9 (m+1) c9)=wE at *
   go_wp2_with fail
   go_roundw
   case rel=>exact ⟨m+1,A9,c9,D',cd',N',cn',cE,rfl,by have:=HH.out;omega,HSE.out⟩
   case measure=>simp [intOf];have:=HH.out;omega
  ·have hnl:¬ ((m:Int)<n):=by omega
   obtain ⟨A,cl,I,ci,H,hc,bs,bl,base,hva⟩:=HS.out.va
   have m1:wr.cell? ⟨gM,1,none⟩=some (.pointer (some ⟨bv,0,none⟩)):=cellOf HS.out.mach.1 rfl
   have HVA:=Lib.hid hva
   have hOk:StateOk (st28 m):=by
    unfold st28
    split
    ·exact stateNew_ok
    ·exact s28_ok
   have kdr:New wr wr.drew:=(New.refl wr).drew
   have HSV:=Lib.hid (fun W (hW:New wr.drew W)=>vsave_any (hva.new (kdr.new hW) (Ext.refl _ _)) hOk)
   have HHD:=Lib.hid (fun W (hW:New wr.drew W)=>vhead_any (hva.new (kdr.new hW) (Ext.refl _ _)))
   clear hva hOk
   have HNM:=Lib.hid h2
   clear h2
   go_upto_region 17 with fail
   clear m1 hnl
   have r1:∀ W,New wr.drew W→W.cell? ⟨gM,1,none⟩=some (.pointer (some ⟨bv,0,none⟩)):=fun W hW=>cellOf (hW.blockAt (kdr.blockAt HS.out.mach.1 trivial) trivial) rfl
   refine hvs_begin [11,13] (by kernel_rfl) ?_
   have n0:New wr.drew wr.drew:=New.refl _
   refine hvs_take 0 n0 ?_
   refine hvs_take 1 n0 ?_
   refine hvs_take 2 n0 ?_
   refine hvs_take 3 n0 ?_
   refine hvs_take 5 n0 ?_
   refine hvs_take 6 n0 ?_
   refine hvs_take 7 n0 ?_
   refine hvs_take 8 n0 ?_
   clear r1
   refine hvs_step 4 (by kernel_rfl) rfl rfl (fun K hK=>?_)
   go_simp
   refine (HSV.out _ n0).mono ?_
   rintro e wA ⟨⟨A1,n1,c1,rfl⟩,k1⟩
   go_wp2_with fail
   refine hK.out _ _ k1 ?_
   clear hK K HSV
   try simp only [Act.put,ly1,ly2,ly3,ly4,ly5,ly6]
   refine hvs_take 10 k1 ?_
   refine hvs_step 9 (by kernel_rfl) rfl rfl (fun K hK=>?_)
   go_simp
   refine (HHD.out _ k1).mono ?_
   rintro e wB ⟨⟨A2,n2,c2,rfl⟩,k2⟩
   go_wp2_with fail
   have k3:=k1.new k2
   refine hK.out _ _ k3 ?_
   clear hK K HHD k1 k2
   try simp only [Act.put,ly1,ly2,ly3,ly4,ly5,ly6]
   have rB:=k3.blockAt (kdr.blockAt HS.out.run trivial) trivial
   have d2:wB.cell? ⟨gR,2,none⟩=some (.slice none 0 0):=cellOf rB rfl
   have f2:=frozenOf rB 2
   have rC:=setCell_block rB 2 (.slice A1 n1 c1)
   have qC:Keep (fun j=>j≠gR) wB (wB.setCell ⟨gR,2,none⟩ (.slice A1 n1 c1)):=(Keep.refl _ wB).setCell (p:=⟨gR,2,none⟩) (fun hd=>absurd rfl hd) _
   refine hvs_write 11 (by kernel_rfl) rfl rfl (by kernel_rfl) (fun K hK=>?_)
   go_simp
   refine hK.out _ _ ?_
   clear hK K d2 f2
   try simp only [Act.put,ly1,ly2,ly3,ly4,ly5,ly6]
   generalize wB.setCell ⟨gR,2,none⟩ (.slice A1 n1 c1)=wC at *
   refine hvs_pure 12 ?_
   have d3:wC.cell? ⟨gR,3,none⟩=some (.slice none 0 0):=cellOf rC rfl
   have f3:=frozenOf rC 3
   have rD:=setCell_block rC 3 (.slice A2 n2 c2)
   have qD:=qC.setCell (p:=⟨gR,3,none⟩) (fun hd=>absurd rfl hd) (.slice A2 n2 c2)
   refine hvs_write 13 (by kernel_rfl) rfl rfl (by kernel_rfl) (fun K hK=>?_)
   go_simp
   refine hK.out _ _ ?_
   clear hK K d3 f3 rC rB
   try simp only [Act.put,ly1,ly2,ly3,ly4,ly5,ly6]
   generalize wC.setCell ⟨gR,3,none⟩ (.slice A2 n2 c2)=wD at *
   refine hvs_done (by kernel_rfl) ?_ _
   have hvD:=(HVA.out.new (kdr.new k3) (Ext.refl _ _)).turn qD (Ext.refl _ _) fun b hb e e2=>by subst e2;rw [HS.out.c9.1] at e;rcases e with e|e|e|e|e|e <;> exact absurd e (by decide)
   have HIM:Hid (Calls Tryz.prog 62 #[.pointer (some ⟨q.bd,0,none⟩)] wD fun e w'=>(∃ A' c',e=.returned (.slice A' 8192 c'))∧New wD w'):=Lib.hid ((image_any hvD.log.on.disk).mono (by
    rintro e w' ⟨⟨A',c',rfl,-⟩,k⟩
    exact ⟨⟨A',c',by rw [show (fmtBytes 64 id28).length=8192 from fmtBytes_length (by decide) (by decide)]⟩,k⟩))
   have rD':wD.heap[gR]?=some (.cells #[.int .i64 0,.slice O m cO,.slice A1 n1 c1,.slice A2 n2 c2,.slice none 0 0] 72 (0,0)):=rD
   have HD:=Lib.hid (And.intro rD' (And.intro qD (kdr.new k3)))
   clear rD rD' qD k3 kdr n0 hvD HVA
   go_wp2_with fail
   refine HIM.out.mono ?_
   rintro e wE ⟨⟨A3,c3,rfl⟩,kE⟩
   have rE:=kE.blockAt HD.out.1 trivial
   have d4:wE.cell? ⟨gR,4,none⟩=some (.slice none 0 0):=cellOf rE rfl
   have f4:=frozenOf rE 4
   have rF:=setCell_block rE 4 (.slice A3 8192 c3)
   have qF:Keep (fun j=>j≠gR) wE (wE.setCell ⟨gR,4,none⟩ (.slice A3 8192 c3)):=(Keep.refl _ wE).setCell (p:=⟨gR,4,none⟩) (fun hd=>absurd rfl hd) _
   clear HIM rE
   go_upto_region 19 with fail
   clear d4 f4
   generalize wE.setCell ⟨gR,4,none⟩ (.slice A3 8192 c3)=wF at *
   have rF':wF.heap[gR]?=some (.cells #[.int .i64 0,.slice O m cO,.slice A1 n1 c1,.slice A2 n2 c2,.slice A3 8192 c3] 72 (0,0)):=rF
   have hgz:g0=w.heap.size∧w1.heap.size=w.heap.size+1:=H0.out.2.2.2.2
   have hgn:g0≠gR:=by have:=HS.out.far;omega
   have xF:=qF.blockAt (kE.blockAt (HD.out.2.1.blockAt (HD.out.2.2.blockAt (HS.out.new.blockAt H0.out.2.1 (by show g0<w1.heap.size;omega)) trivial) hgn) trivial) hgn
   have HF:=Lib.hid (And.intro qF (And.intro kE (And.intro hgz hgn)))
   clear rF qF kE hgz hgn
   go_wp2_with (first|(refine ld_all rF' ?_)|(refine st_all xF (fun wG hG hKG=>?_)))
   refine ret_all hG ?_
   obtain ⟨qF,kE,hgz,hgn⟩:=HF.out
   obtain ⟨-,qD,kD⟩:=HD.out
   have KA:Keep (fun b=>b≠gR∧b≠g0) wr wG:=((((Keep.of_new kD).trans2 qD fun b _ hb=>hb.1).new kE).trans2 qF fun b _ hb=>hb.1).trans2 hKG fun b _ hb=>hb.2
   have hmn:=HNM.out
   subst hmn
   have hfar:=HS.out.far
   refine ⟨w1.heap.size,O,cO,D,cd,N,cn,A1,n1,c1,A2,n2,c2,A3,c3,rfl,by omega,own_keep HS.out.own KA fun k hk=>⟨(HS.out.apart k hk).1,by have:=(own_lt HS.out.own k hk).1;omega⟩,((H0.out.1.trans2 HS.out.new fun b hb _=>by show b<w1.heap.size;omega).trans2 KA fun b hb _=>⟨by omega,by omega⟩)⟩
end Go.Proofs.YtdodbdednpnddaaGreatDoor
