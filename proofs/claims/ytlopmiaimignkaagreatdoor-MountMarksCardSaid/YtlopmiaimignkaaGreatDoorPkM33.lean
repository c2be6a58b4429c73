/-
  PROVED HERE: parts of a law's walk, each under the conditions that its statement names.
-/
import Derived.Lib.Split
import Derived.Test.YtlopmiaimignkaaGreatDoorPkM32
set_option maxRecDepth 100000
set_option maxHeartbeats 4000000
namespace Go.Proofs.YtlopmiaimignkaaGreatDoor
open Go.Proofs.Tryz
open Go.RowKit
variable{w:World}{D:Nat->Prop}{A:Option Addr}{cp g n:Nat}{p:eZ}{t:TypeId}{nm:List UInt8}{id:Int}{it:eI}{T:dX}
def Pss(w:World)(D:Nat->Prop)(A:Option Addr)(n:Nat)(l:List eZ):Prop :=
 ∃vs:List Value,Row w D A n 1 vs/\vs.length=l.length/\∀k (hk:k<l.length),∃A1 c1,vs[k]?=some (.slice A1 l[k].length c1)/\Ps w D A1 l[k].length l[k]
def oo:List eZ->Int
 | []=>0
 | p::r=>if el p≠0 then el p else oo r
theorem va(D:Nat->Prop)(A:Option Addr)(n c:Nat)(l:List eZ)(w:World)(hR:Pss w D A n l)(hn:n<=1000)(hs:∀p∈l,p.length<=1099511627776/\∀nm∈p,nm.length<=1099511627776):
  Calls prog 132 #[.slice A n c] w fun e w'=>e=.returned (.int .i64 (oo l))/\New w w':=by
 obtain⟨M,d,y,q⟩:=hR
 have hl:l.length=n:=by have:=d.1;omega
 have z:=zh hl
 have G:=zh d
 have B:=zh q
 have H:=zh hs
 obtain⟨r,v⟩:=zx (oo l)
 rw[<- v]
 have I:=zh v
 clear d y q hl hs v
 go_in
 go_wp2_with fail
 go_loopw [2,8] (fun J i K=>∃k:Nat,J=.int .i64 0/\k<=n/\i=.int .i64 (k:Int)/\r=oo (l.drop k)/\New w K) (fun _ i _=>n-(intOf i).toNat)
 case atStart=>exact⟨0,rfl,Nat.zero_le _,rfl,I.out,zN _⟩
 obtain⟨k,rfl,hk,rfl,s,C⟩:=hrel
 have g:=zh s
 have h:=zh C
 clear s C
 by_cases hlt:k<n
 ·have j:k<l.length:=by have:=z.out;omega
  obtain⟨A1,c1,E,t⟩:=B.out k j
  obtain⟨b,off,rfl,-,-,hc⟩:=G.2 zo
  have N:wr.cell? ⟨b,off+k,none⟩=some (.slice A1 l[k].length c1):=h.Qb (hc k _ E) trivial
  have hs:=H.out _ (List.getElem_mem j)
  have F:=zh<|vq D A1 _ c1 l[k] wr (Row.new t h.out) hs.1 hs.2
  have u:l.drop k=l[k]::l.drop (k+1):=List.drop_eq_getElem_cons j
  rw[u] at g
  have o:Hid (r=if el l[k]≠0 then el l[k] else oo (l.drop (k+1))):=zh g.out
  generalize el l[k]=f at *
  clear E t hc hs u g
  generalize l[k].length=m at *
  by_cases hf:f=0
  ·subst hf
   have a:Hid (r=oo (l.drop (k+1))):=zh (by have:=o.out;simpa using this)
   clear o
   go_wp2_with fail
   refine F.mono ?_
   rintro e L⟨rfl,x⟩
   go_wp2
   go_roundw
   case rel=>exact⟨k+1,rfl,zo,by go_num,a.out,h.new x⟩
   simp[intOf];omega
  have a:Hid (r=f):=zh (by have:=o.out;rwa[if_pos hf] at this)
  have hb:(f !=0)=true:=by simpa using hf
  clear o hf
  go_wp2_with fail
  refine F.mono ?_
  rintro e L⟨rfl,x⟩
  go_wp2
  go_ret
  exact⟨by rw[a.out];rfl,h.new x⟩
 obtain rfl:k=n:=by omega
 have a:Hid (r=0):=zh (by
  have:=g.out
  rw[List.drop_eq_nil_of_le (by have:=z.out;omega)] at this
  exact this)
 go_wp2
 go_ret
 exact⟨by rw[a.out];rfl,h.out⟩
theorem Ck{c:Nat}(h:Ps w D A n p):Pss (w.alloc (.cells #[.slice A n c] t)) (fun _=>True) (some ⟨w.heap.size,0,none⟩) 1 [p]:=by
 have hl:=h.len
 have b:=(zN w).alloc (.cells #[.slice A n c] t)
 refine⟨[.slice A n c],⟨rfl,fun _=>⟨w.heap.size,0,rfl,zt,by simp,fun k u a=>?_⟩⟩,rfl,fun k hk=>?_⟩
 ·have hk:k=0:=by have:=(List.getElem?_eq_some_iff.1 a).1;simp at this;omega
  subst hk
  obtain rfl:Value.slice A n c=u:=by simpa using a
  exact a_ (heap_alloc_new w (.cells #[.slice A n c] t)) (k:=0) rfl
 have hk:k=0:=by simp at hk;omega
 subst hk
 refine⟨A,c,by simp[hl],?_⟩
 show Ps _ _ A p.length p
 rw[hl]
 exact(Row.imp h fun _ _ _=>zt).new b
section
variable {w w':World}{c c':Col}{i j bt:Nat}{q q':fx}{T L:dX}
theorem C1(h:ea w c i bt q T)(hI:eo T)(hR:Ps w D A n p)(hn:n<=1099511627776)(hs:∀nm∈p,nm.length<=1099511627776):
  Calls prog 136 #[.pointer (some ⟨bt,0,none⟩),.slice A n cp] w fun e w'=>e=.returned (.tuple #[.int .i64 (j6 T p).1,.int .i64 (j6 T p).2])/\New w w':=by
 have hl:=hR.len
 have o:=zh<|fun W (s:New w W)=>u' (h.new s) hI (cp:=cp) (Row.new hR s) hn hs
 have u:=(zN w).alloc (.cells #[.slice A n cp] 51)
 have a:=zh<|va _ (some ⟨w.heap.size,0,none⟩) 1 1 [p] _ (Ck (c:=cp) (t:=51) hR) Zd (by simpa using ⟨zo,hs⟩)
 obtain⟨r,l⟩:=zx (j6 T p)
 rw[<- l]
 have j:oo [p]=el p:=by unfold oo oo;split <;> omega
 rw[j] at a
 have d:Hid (r=if el p≠0 then(0,el p) else fL T 0 p):=zh l
 have k:=zh u
 generalize el p=f at *
 generalize fL T 0 p=x at *
 clear hl h hI hR hs l j u
 go_in
 by_cases hf:f=0
 ·subst hf
  have m:Hid (r=x):=zh (by have:=d.out;simpa using this)
  clear d
  go_wp2_with fail
  refine a.mono ?_
  rintro e y⟨rfl,b⟩
  have g:=zh<|k.new b
  clear b
  go_wp2_with fail
  refine(o.out _ g.out).mono ?_
  rintro e z⟨rfl,rfl⟩
  go_wp2
  refine Zb (.tuple #[.int .i64 x.1,.int .i64 x.2]) (by simp[results,results136,go_sem]) ?_
  exact⟨by rw[m.out],g.out⟩
 have m:Hid (r=(0,f)):=zh (by have:=d.out;rwa[if_pos hf] at this)
 have hb:(f !=0)=true:=by simpa using hf
 clear d hf
 go_wp2_with fail
 refine a.mono ?_
 rintro e y⟨rfl,b⟩
 have g:=zh<|k.new b
 clear b
 go_wp2
 refine Zb (.tuple #[.int .i64 0,.int .i64 f]) (by simp[results,results136,go_sem]) ?_
 exact⟨by rw[m.out],g.out⟩
end
theorem FK:(prog.info? 9).map (fun i=>(i.zero.map fun z=>z.cells.size,i.size,i.bytes))=some (some 1,1,16):=zk
theorem GH(p:eZ):∀u∈p.map (fun nm=>Value.string (dR nm)),u.oneCell'=true:=by
 intro u a;obtain⟨b,_,rfl⟩:=List.mem_map.1 a;rfl
theorem Gl{ops:Array Oper}{rest:List Oper}{o:Oper}{a:Act}{Q:Exit->Act->World->Prop}(w:World)(hgd:o.guard=none)(s x:Operand)(ho:o.op=.call { callee:=.builtin .append,args:=#[s,x],argTypes:=#[51,51] })(base:Nat)(A:Option Addr)(n c:Nat)(bs:eZ)(hs:a.eval s=.slice A n c)(hown:Own w base 9 1 A n c (bs.map fun nm=>Value.string (dR nm)))(D:Nat->Prop)(A2:Option Addr)(m c2:Nat)(bs2:eZ)(hx:a.eval x=.slice A2 m c2)(hr:Ps w D A2 m bs2)(h63:n+m<=1000000)(hbase:base<=w.heap.size)(h:∀A' c' w',Own w' base 9 1 A' (n+m) c' ((bs++bs2).map fun nm=>Value.string (dR nm))->w.grownBy w' (blk A)->(blk A'=blk A\/blk A'=some w.heap.size)->wpList prog ops Q rest (a.put o.dst (.slice A' (n+m) c')) w'):wpList prog ops Q (o::rest) a w:=by
 obtain⟨i,z,hi,b,d,e,f⟩:=fY FK
 refine gW w hgd s x 51 ho base 9 i z 1 16 underlying51 hi b d e f Zd A n c _ hs hown D A2 m c2 _ hx hr (GH _) (by unfold maxLen;omega) zo hbase ?_
 intro A' c' w' h1 h2 h3
 rw[<- List.map_append] at h1
 exact h A' c' w' h1 h2 h3
theorem BR(D:Nat->Prop)(A:Option Addr)(n c:Nat)(p:eZ)(w:World)(hB:Ps w D A n p)(hn:n<=1000000):
  Calls prog 270 #[.slice A n c] w fun e w'=>(∃A' c',e=.returned (.slice A' n c')/\Own w' w.heap.size 9 1 A' n c' (p.map fun nm=>Value.string (dR nm)))/\New w w':=by
 have hq:=fun w'=>Lib.run_eql_slice_nil (P:=prog) w' 51 9 A n c 0 0 underlying51
 rcases A with _|d
 ·have h0:n=0:=by
   rcases Nat.eq_zero_or_pos n with h|h
   ·exact h
   obtain⟨_,_,e,_⟩:=hB.2 h;cases e
  subst h0
  have hb:p=[]:=List.eq_nil_of_length_eq_zero hB.len
  subst hb
  go_in
  go_wp2
  go_ret
  exact⟨⟨_,_,rfl,Own.nil _ _ _ _⟩,zN _⟩
 go_in
 go_wp2_with (at_builtin;refine Gl _ rfl _ _ rfl w.heap.size _ _ _ [] rfl (World.ownsRow_made w #[] 0 zr Zd rfl) D _ _ _ p rfl (Row.new hB ((zN w).alloc _)) zo (by simp) ?_;intro A' c' w' a hg b)
 go_ret
 refine⟨⟨A',c',rfl,by simpa using a⟩,((zN w).alloc _).grown hg ?_⟩
 intro k hk _
 simp[blk] at hk
 omega
theorem AQ(A:Option Addr)(c:Nat)(w:World):Calls prog 230 #[.slice A 0 c] w fun e w'=>e=.returned (.tuple #[.slice none 0 0,.string { data:=#[] },.int .i64 1])/\w=w':=by
 go_in
 go_wp2
 refine Zb (.tuple #[.slice none 0 0,.string { data:=#[] },.int .i64 1]) (by simp[results,results230,go_sem]) ?_
 exact⟨rfl,rfl⟩
theorem AR(D:Nat->Prop)(A:Option Addr)(n c:Nat)(up:eZ)(nm:List UInt8)(w:World)(hR:Ps w D A n (up++[nm]))(hn:n<=1000000)(hc:n<=c):
  Calls prog 230 #[.slice A n c] w fun e w'=>(∃A' c',e=.returned (.tuple #[.slice A' up.length c',.string (dR nm),.int .i64 0])/\Own w' w.heap.size 9 1 A' up.length c' (up.map fun nm=>Value.string (dR nm)))/\New w w':=by
 have hl:=hR.len
 rw[zL,List.length_singleton] at hl
 obtain⟨m,hm⟩:=zx (up.length)
 rw[<- hm] at hl ⊢
 subst hl
 obtain⟨b,off,rfl,l⟩:=Ps.at_ hR (k:=m) (by simp[hm])
 have p:(up++[nm])[m]'(by simp[hm])=nm:=by subst hm;simp
 rw[p] at l
 have q:Hid (Ps w D (some ⟨b,off,none⟩) m up):=zh (by
  obtain⟨h1,h2⟩:=hR
  refine⟨by simp[hm],fun h=>?_⟩
  obtain⟨z,o,e,hd,hlt,r⟩:=h2 zo
  refine⟨z,o,e,hd,hlt,fun k u s=>r k u ?_⟩
  rw[List.map_append,List.getElem?_append_left (List.getElem?_eq_some_iff.1 s).1]
  exact s)
 have t:=zh<|fun W (a:New w W)=>BR D (some ⟨b,off,none⟩) m c up W (Row.new q.out a) zo
 have E:IntKind.i64.wrap (m:Int)=(m:Int):=IntWalk.i64_in _ zo
 have F:((m:Int)+1==0)=false:=by simp;omega
 have G:(m:Int)<=(c:Int):=zo
 have H:m<=c:=by omega
 have I:(m:Int)<(m:Int)+1:=by omega
 have f:∀W,New w W->W.cell? ⟨b,off+m,none⟩=some (.string (dR nm)):=fun W h=>h.Qb l trivial
 clear hR p l hm
 go_in
 go_upto_region 3 with fail
 refine eL zk ?_
 have d:New w w.drew:=(zN w).drew
 replace f:=fun W (a:New w.drew W)=>f W (b_.new d a)
 refine cL 0 ?_
 refine cL 1 ?_
 refine cL 2 ?_
 refine cL 3 ?_
 refine cL 4 ?_
 refine cL 6 ?_
 refine cL 7 ?_
 refine cL 8 ?_
 refine cL 9 ?_
 refine cL 10 ?_
 refine cL 11 ?_
 refine d_ (i:=5) zk rfl rfl (fun K x=>?_)
 go_simp
 refine(t.out _ d).mono ?_
 rintro e B⟨⟨A1,j,rfl,y⟩,g⟩;have C:=J2 y g;clear y
 go_wp2_with fail
 refine x _ _ g ?_
 clear x K
 try simp only[zy]
 replace d:=b_.new d g
 replace f:=fun W (a:New B W)=>f W (b_.new g a)
 refine cL 12 ?_
 refine cL 13 ?_
 refine cL 14 ?_
 refine wpAnyH_done zk ?_ _
 go_wp2
 refine Zb (.tuple #[.slice A1 m j,.string (dR nm),.int .i64 0]) (by simp[results,results230,go_sem]) ?_
 exact⟨⟨A1,j,rfl,eQ C.1 zr⟩,d⟩
section
variable {w w':World}{c c':Col}{i j bt:Nat}{q q':fx}{T L:dX}
theorem zV(A:Option Addr)(cp:Nat)(w:World)(bt:Nat):Calls prog 133 #[.pointer (some ⟨bt,0,none⟩),.slice A 0 cp] w fun e w'=>e=.returned (.tuple #[.pointer none,.string { data:=#[] },.int .i64 1])/\w=w':=by
 have a:=zh<|AQ A cp w
 go_in
 go_wp2_with fail
 refine a.mono ?_
 rintro e b⟨rfl,rfl⟩
 clear a
 go_wp2
 refine Zb (.tuple #[.pointer none,.string { data:=#[] },.int .i64 1]) (by simp[results,results133,go_sem]) ?_
 exact⟨rfl,rfl⟩
def v_(q:fx)(T:dX)(up:eZ)(nm:List UInt8)(e:Ending):Prop :=
 ((eB T (up++[nm])).2.2=0/\e=.returned (.tuple #[.pointer (some ⟨q.β (eB T (up++[nm])).1,0,none⟩),.string (dR nm),.int .i64 0])) \/
 ((eB T (up++[nm])).2.2≠0/\e=.returned (.tuple #[.pointer none,.string { data:=#[] },.int .i64 (eB T (up++[nm])).2.2]))
theorem zW(h:ea w c i bt q T)(hI:eo T){up:eZ}(hR:Ps w D A n (up++[nm]))(hn:n<=1000000)(hc:n<=cp)(hs:∀x∈up,x.length<=1099511627776):
  Calls prog 133 #[.pointer (some ⟨bt,0,none⟩),.slice A n cp] w fun e w'=>v_ q T up nm e/\New w w':=by
 have hl:=hR.len
 rw[zL,List.length_singleton] at hl
 have y:=zh<|AR D A n cp up nm w hR hn hc
 have b:eB T (up++[nm])=if (fL T 0 up).2≠0 then(0,[],(fL T 0 up).2) else match iX T (fL T 0 up).1 with
   | none=>(0,[],23)
   | some _=>((fL T 0 up).1,nm,0):=by
  unfold eB
  rw[if_neg (by simp),List.dropLast_concat,List.getLastD_concat]
  rfl
 have z:=J2 h hI
 have f:=zh<|fun W (I:New w W) D A n c (hR:Ps W D A n up) (hn:n<=1099511627776)=>u' (h.new I) hI (cp:=c) hR hn hs
 have s:=zh (oX hI up 0 (by
  have:=hI.root
  unfold iP at this
  cases hg:dN T 0 with
  | none=>rw[hg] at this;simp at this
  | some _=>rfl))
 unfold v_
 obtain⟨r,B⟩:=zx (eB T (up++[nm]))
 rw[<- B] at b ⊢
 obtain⟨d,a,C⟩:∃d a,fL T 0 up=(d,a):=⟨_,_,rfl⟩
 rw[C] at f s b
 dsimp only at f b
 have j:=zh b
 have E:=zh hl
 clear h hI hR hs b C hl B
 go_in
 go_wp2_with fail
 refine y.mono ?_
 rintro e F⟨⟨A1,c1,rfl,G⟩,u⟩
 have p:=zh u
 have t:=zh<|f.out F u _ A1 _ c1 (Row.Qc G) (by have:=E.out;omega)
 clear y f G u
 go_wp2_with fail
 refine t.mono ?_
 rintro e O⟨rfl,rfl⟩
 clear t
 by_cases hw:a=0
 ·subst hw
  obtain⟨l,hg⟩:=Option.isSome_iff_exists.1 (s.out d rfl)
  have m:=z.1.new p.out
  obtain⟨K,L⟩:=z.2.ids d l hg
  have P:F.cell? ⟨bt,0,none⟩=some (.map (some q.bm)):=a_ m.tree (k:=0) rfl
  have g:=(m.look (id:=d) zo zo).2
  rw[hg] at g
  simp only[Option.elim_some] at g
  obtain⟨Q,M,-,J,-⟩:=gj (m.item d l hg)
  by_cases hk:l.n.kind=2
  ·have hd:iX T d=some l.names:=by simp[iX,hg,hk]
   have o:Hid (r=(d,nm,0)):=zh (by have:=j.out;rw[hd] at this;simpa using this)
   rw[hk] at J
   clear hg hd hk m
   go_wp2
   refine Zb (.tuple #[.pointer (some ⟨q.β d,0,none⟩),.string (dR nm),.int .i64 0]) (by simp[results,results133,go_sem]) ?_
   exact⟨.inl (by rw[o.out];exact⟨rfl,rfl⟩),p.out⟩
  have hd:iX T d=none:=by simp[iX,hg,hk]
  have o:Hid (r=(0,[],23)):=zh (by have:=j.out;rw[hd] at this;simpa using this)
  have N:(l.n.kind==2)=false:=beq_eq_false_iff_ne.2 hk
  clear hg hd m
  go_wp2
  refine Zb (.tuple #[.pointer none,.string { data:=#[] },.int .i64 23]) (by simp[results,results133,go_sem]) ?_
  exact⟨.inr (by rw[o.out];exact⟨Zd,rfl⟩),p.out⟩
 have hb:(a !=0)=true:=by simpa using hw
 have o:Hid (r=(0,[],a)):=zh (by have:=j.out;rwa[if_pos hw] at this)
 have H:=zh hw
 clear hw
 go_wp2
 refine Zb (.tuple #[.pointer none,.string { data:=#[] },.int .i64 a]) (by simp[results,results133,go_sem]) ?_
 exact⟨.inr (by rw[o.out];exact⟨H.out,rfl⟩),p.out⟩
end
def nR(id:Int)(n:i'):Value:=.agg #[.int .i64 id,.int .i64 n.kind,.int .i64 n.links,.int .i64 n.size,.int .u64 n.till,.bool n.shut]
section
variable {w w':World}{c c':Col}{i j bt:Nat}{q q':fx}{T L:dX}
theorem CW(h:ea w c i bt q T)(hg:dN T id=some it)(h0 : -9223372036854775808<=id)(h1:id<=9223372036854775807):
  Calls prog 137 #[.pointer (some ⟨bt,0,none⟩),.int .i64 id] w fun e w'=>e=.returned (.tuple #[nR id it.n,.bool true])/\New w w':=by
 have o:=(zN w).alloc (.cells #[.int .i64 0,.int .i64 0,.int .i64 0,.int .i64 0,.int .u64 0,.bool false] 53)
 have l:=heap_alloc_new w (.cells #[.int .i64 0,.int .i64 0,.int .i64 0,.int .i64 0,.int .u64 0,.bool false] 53)
 have m:=h.new o
 have a:=(m.look (id:=id) h0 h1).1
 rw[hg] at a
 simp only[Option.elim_some,Option.isSome_some] at a
 have I:=a_ m.tree (k:=0) rfl
 obtain⟨J,G,K,L,M,N,O,P,-⟩:=gj (m.item id it hg)
 unfold nR
 clear h m hg
 go_in
 go_upto_region 1 with fail
 generalize w.alloc (.cells #[.int .i64 0,.int .i64 0,.int .i64 0,.int .i64 0,.int .u64 0,.bool false] 53)=Q at *
 obtain⟨g,j⟩:=zx (w.heap.size)
 rw[<- j] at l ⊢
 have p:=J2 j o
 clear j o
 obtain⟨s,t,u,x,y,z⟩:=cs6 l
 obtain⟨z0,A,B,z3,z4,z5⟩:=fz6 l
 go_wp2_with fail
 clear s t u x y z z0 A B z3 z4 z5
 obtain⟨d,r⟩:=six_cells l (.int .i64 id) (.int .i64 it.n.kind) (.int .i64 it.n.links) (.int .i64 it.n.size) (.int .u64 it.n.till) (.bool it.n.shut)
 generalize H:World.setCell _ _ _=f at *
 have C:f.cell? ⟨g,0,none⟩=some (.int .i64 id):=a_ d rfl
 have D:f.cell? ⟨g,1,none⟩=some (.int .i64 it.n.kind):=a_ d rfl
 have E:f.cell? ⟨g,2,none⟩=some (.int .i64 it.n.links):=a_ d rfl
 have f3:f.cell? ⟨g,3,none⟩=some (.int .i64 it.n.size):=a_ d rfl
 have F:f.cell? ⟨g,4,none⟩=some (.int .u64 it.n.till):=a_ d rfl
 have f5:f.cell? ⟨g,5,none⟩=some (.bool it.n.shut):=a_ d rfl
 try simp only[Exit.inBlock,Exit.then]
 refine Zb (.tuple #[.agg #[.int .i64 id,.int .i64 it.n.kind,.int .i64 it.n.links,.int .i64 it.n.size,.int .u64 it.n.till,.bool it.n.shut],.bool true]) (by simp[results,results137,go_sem,C,D,E,f3,F,f5]) ?_
 exact⟨rfl,p.2.Qd r fun b hb _=>by show b≠g;have:=p.1;omega⟩
end
theorem GV(h:Ps w D A n p){m:Nat}(hm:m<=n):Ps w D A m (p.take m):=by
 have hl:=h.len
 obtain⟨h1,h2⟩:=h
 refine⟨by simp;omega,fun h=>?_⟩
 obtain⟨b,off,e,hd,hlt,hc⟩:=h2 zo
 refine⟨b,off,e,hd,hlt,fun k u a=>hc k u ?_⟩
 rw[List.map_take,List.getElem?_take] at a
 split at a
 ·exact a
 cases a
def jc(pre:List UInt8):List UInt8->List (List UInt8)
 | []=>[pre]
 | b::r=>if b=47 then pre::jc [] r else jc (pre++[b]) r
def gK(s:List UInt8):List (List UInt8):=jc [] s
theorem rR:∀ {s:List UInt8}(pre:List UInt8),47∉s->jc pre s=[pre++s]
 | [],pre,_=>by rw[List.append_nil];rfl
 | b::r,pre,h=>by
  unfold jc
  rw[if_neg (fun e=>h (by rw[e];exact List.mem_cons_self ..)),rR _ (fun e=>h (List.mem_cons_of_mem _ e)),List.append_assoc]
  rfl
theorem td:∀ {a:List UInt8}(pre r:List UInt8),47∉a->jc pre (a++47::r)=(pre++a)::jc [] r
 | [],pre,r,_=>by
  show(if (47:UInt8)=47 then pre::jc [] r else _)=_
  rw[if_pos rfl,List.append_nil]
 | b::a,pre,r,h=>by
  show(if b=47 then pre::jc [] (a++47::r) else jc (pre++[b]) (a++47::r))=_
  rw[if_neg (fun e=>h (by rw[e];exact List.mem_cons_self ..)),td _ _ (fun e=>h (List.mem_cons_of_mem _ e)),List.append_assoc]
  rfl
theorem wL(s:List UInt8)(j:Nat):Go.Lib.occAt s [47] j=true↔s[j]?=some 47:=by
 unfold Go.Lib.occAt
 have h:s[j]?=(s.drop j)[0]?:=by rw[List.getElem?_drop];rfl
 rw[h]
 cases s.drop j with
 | nil=>exact⟨fun h=>(by cases h),fun h=>(by cases h)⟩
 | cons b t =>
  show((47:UInt8)==b&&List.isPrefixOf [] t)=true↔some b=some 47
  rw[Bool.and_eq_true,beq_iff_eq,Option.some.injEq]
  exact⟨fun h=>h.1.symm,fun h=>⟨h.symm,by cases t <;> rfl⟩⟩
theorem EL:∀(n:Nat) (s:List UInt8),s.length<=n->Go.Lib.split s [47]=gK s:=by
 intro n
 induction n with
 | zero =>
  intro s hs
  obtain rfl:s=[]:=List.length_eq_zero_iff.1 zo
  rfl
 | succ n ih =>
  intro s hs
  rcases Go.Lib.index_spec s [47] with⟨h1,h2⟩|⟨i,h1,h2,h3,c⟩
  ·have hm:47∉s:=fun hm=>by
    obtain⟨j,hj,he⟩:=List.getElem_of_mem hm
    have:=h2 j zo
    rw[(wL s j).2 (by rw[List.getElem?_eq_getElem hj,he])] at this
    cases this
   unfold Go.Lib.split
   rw[Go.Lib.count_miss h1]
   unfold gK
   rw[rR _ hm];rfl
  have hi:=(wL s i).1 h3
  obtain⟨a,b⟩:=List.getElem?_eq_some_iff.1 hi
  have hs2:s=s.take i++47::s.drop (i+1):=by
   rw[<- b,<- List.drop_eq_getElem_cons a,List.take_append_drop]
  have hm:47∉s.take i:=fun hm=>by
   obtain⟨j,hj,he⟩:=List.getElem_of_mem hm
   rw[List.length_take] at hj
   have:=c j zo
   rw[(wL s j).2 (by rw[List.getElem_take] at he;rw[List.getElem?_eq_getElem zo,he])] at this
   cases this
  have hc:=Go.Lib.count_hit (sub:=[47]) (by simp) h1
  unfold Go.Lib.split
  rw[hc,Nat.add_comm]
  unfold Go.Lib.splitK
  rw[h1,if_neg (by simp)]
  have:=ih (s.drop (i+1)) (by rw[List.length_drop];omega)
  unfold Go.Lib.split at this
  show s.take ((i:Int).toNat+0)::Go.Lib.splitK [47] 0 (Go.Lib.count (s.drop (i+1)) [47]) (s.drop ((i:Int).toNat+1))=_
  rw[Int.toNat_natCast,Nat.add_zero,this]
  unfold gK
  conv=>rhs;rw[hs2]
  rw[td _ _ hm];rfl
def eH:List UInt8->eZ×Int
 | []=>([],12)
 | b::r=>if b≠47 then([],12) else if r=[] then([],0) else if el (gK r)≠0 then([],el (gK r)) else(gK r,0)
theorem nH:∀(s pre:List UInt8),∀x∈jc pre s,x.length<=pre.length+s.length
 | [],pre,x,hx=>by
  obtain rfl:x=pre:=by simpa[jc] using hx
  simp
 | b::r,pre,x,hx=>by
  unfold jc at hx
  split at hx
  ·rcases List.mem_cons.1 hx with rfl|hx
   ·omega
   have:=nH r [] x hx;simp at this ⊢;omega
  have:=nH r (pre++[b]) x hx;simp at this ⊢;omega
theorem mC:∀(s pre:List UInt8),1<=(jc pre s).length/\(jc pre s).length<=s.length+1
 | [],pre=>by simp[jc]
 | b::r,pre=>by
  unfold jc
  split
  ·have:=mC r [];simp;omega
  have:=mC r (pre++[b]);simp;omega
theorem oz{s:List UInt8}(h:(eH s).2=0):el (eH s).1=0:=by
 unfold eH at *
 cases s with
 | nil=>exact absurd h Zd
 | cons b r =>
  dsimp only at *
  by_cases h1:b=47
  ·rw[if_neg (by simpa using h1)] at *
   by_cases h2:r=[]
   ·rw[if_pos h2];decide
   rw[if_neg h2] at *
   by_cases h3:el (gK r)=0
   ·rw[if_neg (by simpa using h3)];exact h3
   rw[if_pos h3] at h;exact absurd h h3
  rw[if_pos h1] at h;exact absurd h Zd
section
variable {w w' w1:World}{c c' c1:Col}{i j bt bi nb:Nat}{q q':fx}{T L:dX}{k:Int}{it it':eI}
def fx.plus(q:fx)(k:Int)(bi nb:Nat):fx:=⟨q.bm,fun x=>if x=k then bi else q.β x,fun x=>if x=k then nb else q.γ x⟩
theorem fx.Ql{x:Int}(hx:x≠k):(q.plus k bi nb).β x=q.β x/\(q.plus k bi nb).γ x=q.γ x:=⟨if_neg hx,if_neg hx⟩
theorem fx.plus_eq:(q.plus k bi nb).β k=bi/\(q.plus k bi nb).γ k=nb:=⟨if_pos rfl,if_pos rfl⟩
theorem ea.nmap(h:ea w c i bt q T):bt≠q.bm:=by
 obtain⟨_,E,⟨b,a,hm,_⟩,_⟩:=h.own
 intro e
 have:=h.tree
 rw[e,hm] at this
 injection this with this
 cases this
theorem ea.add(h:ea w c i bt q T)(hi:i≠0)(hb:w.heap.size<=bi)(hn:w.heap.size<=nb)(hI:i_ w' c' i bi nb k it)(hk:b_ (fun b=>b≠q.bm) w w')(hx:Ext w c c')(hm:fU w' q.bm (fun(x:Int) (_:eI)=>.pointer (some ⟨(q.plus k bi nb).β x,0,none⟩)) (eN k it T)):ea w' c' i bt (q.plus k bi nb) (eN k it T):=by
 have h0:∀b,b<w.heap.size->c b=0->b≠q.bm:=fun b _ hb e=>by rw[e,h.col.2] at hb;exact hi hb
 have key:∀ {d:Int} {a:eI},dN (eN k it T) d=some a->(d=k/\a=it)\/(d≠k/\dN T d=some a):=fun {d a} hh=>by
  rw[dS] at hh
  by_cases e:d=k
  ·rw[if_pos e] at hh;injection hh with hh;exact .inl ⟨e,hh.symm⟩
  rw[if_neg e] at hh;exact .inr ⟨e,hh⟩
 have lb:∀ {d:Int} {a:eI},dN T d=some a->q.β d<w.heap.size:=fun {d a} hh=>(h.item d a hh).lt
 have l:∀ {d:Int} {a:eI},dN T d=some a->a.n.kind=2->q.γ d<w.heap.size:=fun {d a} hh hd=>((h.item d a hh).names hd).2.lt
 refine⟨(hk.block bt h.ltT h.nmap).trans h.tree,hm,fun d a g=>?_,⟨(hx _ h.ltT).trans h.col.1,(hx _ h.ltM).trans h.col.2⟩,fun p r s t g1 m j=>?_,fun d a g o=>?_⟩
 ·rcases key g with⟨rfl,rfl⟩|⟨e,f⟩
  ·rw[fx.plus_eq.1,fx.plus_eq.2];exact hI
  rw[(fx.Ql e).1,(fx.Ql e).2]
  exact(h.item d a f).keepB hk hx ((h.item d a f).notMap h.own) (fun hd=>h.far d a f hd) h0
 ·rcases key g1 with⟨rfl,rfl⟩|⟨e1,g3⟩
  ·rcases key m with⟨rfl,rfl⟩|⟨e2,g4⟩
   ·exact absurd rfl j
   rw[fx.plus_eq.1,fx.plus_eq.2,(fx.Ql e2).1,(fx.Ql e2).2]
   exact⟨by have:=lb g4;omega,fun _ hd=>by have:=l g4 hd;omega⟩
  rcases key m with⟨rfl,rfl⟩|⟨e2,g4⟩
  ·rw[fx.plus_eq.1,fx.plus_eq.2,(fx.Ql e1).1,(fx.Ql e1).2]
   exact⟨by have:=lb g3;omega,fun hd _=>by have:=l g3 hd;omega⟩
  rw[(fx.Ql e1).1,(fx.Ql e1).2,(fx.Ql e2).1,(fx.Ql e2).2]
  exact h.inj p r s t g3 g4 j
 rcases key g with⟨rfl,rfl⟩|⟨e,f⟩
 ·rw[fx.plus_eq.2]
  show nb≠q.bm
  have:=h.ltM;omega
 rw[(fx.Ql e).2];exact h.far d a f o
theorem ea.come(h:ea w c i bt q T)(hi:i≠0)(hg:dN T k=none)(h0 : -9223372036854775808<=k)(h1:k<=9223372036854775807)(hT:T.length<1000000)(hk:New w w1)(hb:w.heap.size<=bi)(hn:w.heap.size<=nb)(hx:Ext w c c1)(hI:i_ w1 c1 i bi nb k it):
  ∃w2,(Instr.mapUpdate 215 (.map (some q.bm)) (.int .i64 k) (.pointer (some ⟨bi,0,none⟩))).run prog w1=.ok () w2/\b_ (fun b=>b≠q.bm) w1 w2/\w2.heap.size=w1.heap.size/\ea w2 c1 i bt (q.plus k bi nb) (eN k it T):=by
 have j:=h.ltM
 have m:fU w1 q.bm (fun(x:Int) (_:eI)=>.pointer (some ⟨(q.plus k bi nb).β x,0,none⟩)) T:=(h.own.new hk).fn fun x y hy=>by
  have l:x≠k:=fun e=>by rw[e,hg] at hy;cases hy
  rw[(fx.Ql l).1]
 obtain⟨w2,a,n,g,o⟩:=m.store underlying215 hT (wf0 h0 h1) it
 rw[fx.plus_eq.1] at a
 have hc:c1 q.bm=i:=(hx _ j).trans h.col.2
 refine⟨w2,a,g,o,h.add hi hb hn (hI.keepB g (Ext.refl _ _) zo (fun _=>by omega) (fun b d f e=>by rw[e,hc] at f;exact hi f)) (b_.Qd (D:=fun b=>b≠q.bm) (b_.Qe hk) g fun b _ d=>d) hx n⟩
theorem ea.name(h:ea w c i bt q T)(hi:i≠0)(hg:dN T k=some it)(hd:it.n.kind=2)(hl:it.names.length<1000000)(hnm:nm.length<=9223372036854775807)(id:Int):
  ∃w2,(Instr.mapUpdate 212 (.map (some (q.γ k))) (.string (dR nm)) (.int .i64 id)).run prog w=.ok () w2/\b_ (fun b=>b≠q.γ k) w w2/\w2.heap.size=w.heap.size/\ea w2 c i bt q (eN k { it with names:=eN nm id it.names } T):=by
 obtain⟨w2,a,e,d,f⟩:=((h.item k it hg).names hd).2.store underlying212 hl (k:=nm) hnm id
 exact⟨w2,a,d,f,h.setNames hi hg hd d e⟩
theorem ea.noItem(h:ea w c i bt q T)(hi:i≠0)(h0 : -9223372036854775808<=k)(h1:k<=9223372036854775807):
  ∃w2,(∀ty,(Builtin.delete_ #[215,3] ty #[.map (some q.bm),.int .i64 k]).run prog w=.ok (.tuple #[]) w2)/\b_ (fun b=>b≠q.bm) w w2/\w2.heap.size=w.heap.size/\ea w2 c i bt q (jv k T):=by
 obtain⟨w2,a,e,d,f⟩:=h.own.drop underlying215 (wf0 h0 h1)
 exact⟨w2,a,d,f,h.del hi d e⟩
def iM(w:World)(c:Col)(i bt:Nat)(T:dX)(v:Value)(e:Ending)(w':World):Prop :=
 e=.returned v/\b_ (fun b=>b<w.heap.size/\c b≠i) w w'/\∃c' q',Ext w c c'/\ea w' c' i bt q' T
theorem iM.stay(h:ea w c i bt q T)(hk:New w w')(v:Value):iM w c i bt T v (.returned v) w':=⟨rfl,b_.Qe hk,c,q,Ext.refl _ _,h.new hk⟩
theorem CT{c2:Col}{w2:World}(k:b_ (fun b=>b<w.heap.size/\c b≠i) w w2)(x:Ext w c c2)(k':b_ (fun b=>b<w2.heap.size/\c2 b≠i) w2 w'):b_ (fun b=>b<w.heap.size/\c b≠i) w w' :=
 k.Qd k' fun b hb hh=>⟨Nat.lt_of_lt_of_le hb k.size,by rw[x b hb];exact hh.2⟩
theorem yM(k:b_ (fun b=>b≠g) w w')(hg:c g=i):b_ (fun b=>b<w.heap.size/\c b≠i) w w':=k.imp fun b _ hh e=>hh.2 (by rw[e];exact hg)
end
def gZ{α:Type}(n:Nat)(x:α)(l:List α):List α:=l.take n++x::l.drop n
def ij{α:Type}(n:Nat)(l:List α):List α:=l.take n++l.drop (n+1)
section
variable {κ α:Type} [Ord2 κ] {l:List (κ×α)}{k:κ}{v x:α}
def below(k:κ):List (κ×α)->Nat
 | []=>0
 | (a,_)::r=>if a<k then below k r+1 else 0
theorem oR:below k l<=l.length:=by
 induction l with
 | nil=>exact Nat.le_refl _
 | cons p r ih=>unfold below;split <;> simp;omega
theorem Gf{i:Nat}(h:i<below k l)(hl:i<l.length):l[i].1<k:=by
 induction l generalizing i with
 | nil=>exact absurd hl (Nat.not_lt_zero _)
 | cons p r ih =>
  unfold below at h
  split at h
  ·rename_i a
   cases i with
   | zero=>exact a
   | succ i=>exact ih zo (by simpa using hl)
  omega
theorem Ew(h:below k l<l.length):¬l[below k l].1<k:=by
 induction l with
 | nil=>exact absurd h (Nat.not_lt_zero _)
 | cons p r ih =>
  unfold below at h ⊢
  split
  ·rename_i a
   rw[if_pos a] at h
   simpa using ih (by simpa using h)
  rename_i a;simpa using a
theorem ut{i:Nat}(hi:i<=l.length)(h:∀j (hj:j<i),l[j].1<k)(hn:∀(hj:i<l.length),¬l[i].1<k):below k l=i:=by
 rcases Nat.lt_trichotomy (below k l) i with h1|h1|h1
 ·exact absurd (h _ h1) (Ew zo)
 ·exact h1
 exact absurd (Gf h1 (Nat.lt_of_lt_of_le h1 oR)) (hn (Nat.lt_of_lt_of_le h1 oR))
theorem uu(hr:ee l){i:Nat}(hi:i<l.length):below l[i].1 l=i:=by
 refine ut (Nat.le_of_lt hi) (fun j hj=>?_) (fun _=>Ord2.irr _)
 exact List.pairwise_iff_getElem.1 hr j i zo hi hj
theorem By(hr:ee l){i:Nat}(hi:i<l.length):dN l l[i].1=some l[i].2:=hr.get (List.getElem_mem hi)
theorem od(hr:ee l)(h:dN l k=some x):∃hl:below k l<l.length,l[below k l]=(k,x):=by
 obtain⟨i,hi,he⟩:=List.getElem_of_mem (fC h)
 have hb:=uu hr hi
 rw[he] at hb
 have a:below k l=i:=hb
 subst a
 exact⟨hi,he⟩
theorem sh(h:∀i (hi:i<l.length),l[i].1≠k):dN l k=none:=by
 cases hg:dN l k with
 | none=>rfl
 | some x =>
  obtain⟨i,hi,he⟩:=List.getElem_of_mem (fC hg)
  exact absurd (by rw[he]) (h i hi)
theorem GZ(h:dN l k=none){i:Nat}(hi:i<l.length)(hr:ee l):l[i].1≠k:=fun e=>by rw[<- e,By hr hi] at h;cases h
theorem wG:∀ {l:List (κ×α)},dN l k=none->eN k v l=gZ (below k l) (k,v) l
 | [],_=>rfl
 | (a,y)::r,h=>by
  unfold eN below
  by_cases h1:k<a
  ·rw[if_pos h1,if_neg (fun h2=>Ord2.irr _ (Ord2.tra h1 h2))];rfl
  have h2:a≠k:=fun e=>by unfold dN at h;rw[if_pos e] at h;cases h
  have h3:a<k:=(Ord2.tri a k).resolve_right fun q=>q.elim h2 h1
  rw[if_neg h1,if_neg h2,if_pos h3,wG (by unfold dN at h;rwa[if_neg h2] at h)]
  rfl
theorem sH:∀ {l:List (κ×α)},ee l->dN l k=some x->eN k v l=l.set (below k l) (k,v)
 | [],_,h=>by cases h
 | (a,y)::r,hr,h=>by
  have h1:=List.pairwise_cons.1 hr
  unfold eN below
  by_cases e:a=k
  ·subst e
   rw[if_neg (Ord2.irr _),if_pos rfl,if_neg (Ord2.irr _)];rfl
  have hg:dN r k=some x:=by unfold dN at h;rwa[if_neg e] at h
  have h3:a<k:=h1.1 _ (fC hg)
  rw[if_neg (fun h2=>Ord2.irr _ (Ord2.tra h2 h3)),if_neg e,if_pos h3,sH h1.2 hg]
  rfl
theorem Cu:∀ {l:List (κ×α)},ee l->dN l k=some x->jv k l=ij (below k l) l
 | [],_,h=>by cases h
 | (a,y)::r,hr,h=>by
  have h1:=List.pairwise_cons.1 hr
  by_cases e:a=k
  ·subst e
   unfold below
   rw[if_neg (Ord2.irr _)]
   show jv a ((a,y)::r)=r
   unfold jv
   rw[List.filter_cons,if_neg (by simp)]
   refine List.filter_eq_self.2 fun p b=>?_
   have:=h1.1 p b
   simp
   intro e;rw[e] at this;exact Ord2.irr _ this
  have hg:dN r k=some x:=by unfold dN at h;rwa[if_neg e] at h
  have h3:a<k:=h1.1 _ (fC hg)
  unfold below
  rw[if_pos h3]
  unfold jv at *
  rw[List.filter_cons,if_pos (by simpa using e)]
  have:=Cu h1.2 hg
  unfold jv at this
  rw[this];rfl
theorem wP{β:Type}(f:α->β)(n:Nat)(x:α)(l:List α):(gZ n x l).map f=gZ n (f x) (l.map f):=by
 unfold gZ;rw[List.map_append,List.map_cons,List.map_take,List.map_drop]
theorem Cv{β:Type}(f:α->β)(n:Nat)(l:List α):(ij n l).map f=ij n (l.map f):=by
 unfold ij;rw[List.map_append,List.map_take,List.map_drop]
theorem vX{β:Type}(f:α->β):∀l:List (κ×α),below k (l.map fun p=>(p.1,f p.2))=below k l
 | []=>rfl
 | (a,y)::r=>by
  show(if a<k then below k (r.map fun p=>(p.1,f p.2))+1 else 0)=if a<k then below k r+1 else 0
  rw[vX f r]
theorem vH{β:Type}(f:α->β):∀l:List (κ×α),dN (l.map fun p=>(p.1,f p.2)) k=(dN l k).map f
 | []=>rfl
 | (a,y)::r=>by
  show(if a=k then some (f y) else dN (r.map fun p=>(p.1,f p.2)) k)=(if a=k then some y else dN r k).map f
  rw[vH f r]
  split <;> rfl
def atK(k:κ)(l:List (κ×α)):Int:=if (dN l k).isSome then(below k l:Nat) else -1
theorem oT(h:dN l k=none):atK k l = -1:=by unfold atK;rw[h];rfl
theorem mA(h:dN l k=some x):atK k l=(below k l:Nat):=by unfold atK;rw[h];rfl
end
structure om where
 d:Int
 nm:List UInt8
theorem om.ext{a b:om}(h1:a.d=b.d)(h2:a.nm=b.nm):a=b:=by cases a;cases b;cases h1;cases h2;rfl
instance:Ord2 om where
 lt a b:=a.d<b.d\/a.d=b.d/\a.nm<b.nm
 dec a b:=inferInstanceAs (Decidable (a.d<b.d\/a.d=b.d/\a.nm<b.nm))
 deq a b:=if h:a.d=b.d/\a.nm=b.nm then .isTrue (om.ext h.1 h.2) else .isFalse fun e=>h ⟨by rw[e],by rw[e]⟩
 irr a h:=h.elim (Int.lt_irrefl _) fun h=>List.lt_irrefl _ h.2
 tra h c:=by
  rcases h with h|⟨h,h1⟩ <;> rcases c with c|⟨c,f⟩
  ·exact .inl (Int.lt_trans h c)
  ·exact .inl zo
  ·exact .inl zo
  exact .inr ⟨h.trans c,List.lt_trans h1 f⟩
 tri a b:=by
  rcases Ord2.tri a.d b.d with h|h|h
  ·exact .inl (.inl h)
  ·rcases Ord2.tri a.nm b.nm with c|c|c
   ·exact .inl (.inr ⟨h,c⟩)
   ·exact .inr (.inl (om.ext h c))
   exact .inr (.inr (.inr ⟨h.symm,c⟩))
  exact .inr (.inr (.inl h))
def gI(T:dX):List (om×Int):=T.flatMap fun p=>p.2.names.map fun x=>(⟨p.1,x.1⟩,x.2)
def lI(x:om×Int):Int×List UInt8×Int:=(x.1.d,x.1.nm,x.2)
def fA(T:dX):Prop:=∀k it,dN T k=some it->ee it.names
theorem eo.rise(h:eo T):fA T:=h.names
section
variable {T:dX}{d k id:Int}{nm:List UInt8}{it it':eI}
theorem pi(hr:ee T):((⟨d,nm⟩,k):om×Int)∈gI T↔∃it,dN T d=some it/\(nm,k)∈it.names:=by
 unfold gI
 rw[List.mem_flatMap]
 constructor
 ·rintro⟨p,a,h⟩
  obtain⟨x,b,he⟩:=List.mem_map.1 h
  injection he with h1 h2
  injection h1 with h1 h3
  exact⟨p.2,by rw[<- h1];exact hr.get a,by rw[<- h3,<- h2];exact b⟩
 rintro⟨it,hg,h⟩
 exact⟨(d,it),fC hg,List.mem_map.2 ⟨(nm,k),h,rfl⟩⟩
theorem gH:∀ {T:dX},ee T->fA T->ee (gI T)
 | [],_,_=>List.Pairwise.nil
 | (a,x)::r,hr,hn=>by
  have h1:=List.pairwise_cons.1 hr
  have d:ee x.names:=hn a x (by unfold dN;rw[if_pos rfl])
  have b:fA r:=fun k e hg=>hn k e (hr.get (List.mem_cons_of_mem _ (fC hg)))
  have ih:=gH h1.2 b
  unfold gI at ih ⊢
  rw[List.flatMap_cons]
  refine List.pairwise_append.2 ⟨List.pairwise_map.2 (d.imp fun {p q} c=>.inr ⟨rfl,c⟩),ih,fun p f q hq=>?_⟩
  obtain⟨y,-,rfl⟩:=List.mem_map.1 f
  obtain⟨z,hz,hq⟩:=List.mem_flatMap.1 hq
  obtain⟨u,-,rfl⟩:=List.mem_map.1 hq
  exact .inl (h1.1 z hz)
theorem jz(hr:ee T)(hn:fA T)(e:om):dN (gI T) e=(dN T e.d).bind fun it=>dN it.names e.nm:=by
 cases hg:dN T e.d with
 | none =>
  refine sh fun i hi he=>?_
  have hm:=List.getElem_mem hi
  obtain⟨a,b,f,j⟩:∃a b f,(gI T)[i]=(⟨a,b⟩,f):=⟨_,_,_,rfl⟩
  rw[j] at hm he
  obtain⟨it,h1,_⟩:=(pi hr).1 hm
  have g:(⟨a,b⟩:om)=e:=he
  rw[<- g] at hg
  have c:dN T a=none:=hg
  rw[c] at h1;cases h1
 | some it =>
  show dN (gI T) e=dN it.names e.nm
  cases hk:dN it.names e.nm with
  | none =>
   refine sh fun i hi he=>?_
   have hm:=List.getElem_mem hi
   obtain⟨a,b,f,j⟩:∃a b f,(gI T)[i]=(⟨a,b⟩,f):=⟨_,_,_,rfl⟩
   rw[j] at hm he
   obtain⟨l,h1,h2⟩:=(pi hr).1 hm
   have g:(⟨a,b⟩:om)=e:=he
   rw[<- g] at hg hk
   have c:dN T a=some it:=hg
   have h:dN it.names b=none:=hk
   rw[c] at h1;injection h1 with h1;subst h1
   rw[(hn _ _ c).get h2] at h
   cases h
  | some k=>exact(gH hr hn).get ((pi hr).2 ⟨it,hg,fC hk⟩)
theorem lP(hn:fA T)(hi:ee it'.names):fA (eN d it' T):=fun j x a=>by
 rw[dS] at a
 split at a
 ·injection a with a;subst a;exact hi
 exact hn j x a
theorem xX(hn:fA T):fA (jv d T):=fun j x a=>by
 rw[gi] at a
 split at a
 ·cases a
 exact hn j x a
theorem F3(hr:ee T)(hn:fA T)(hg:dN T d=some it)(nm:List UInt8)(k:Int):gI (eN d { it with names:=eN nm k it.names } T)=eN ⟨d,nm⟩ k (gI T):=by
 refine(gH hr.put (lP hn (hn d it hg).put)).ext (gH hr hn).put fun e=>?_
 rw[jz hr.put (lP hn (hn d it hg).put),dS,dS,jz hr hn]
 by_cases h1:e.d=d
 ·rw[if_pos h1]
  show dN (eN nm k it.names) e.nm=_
  rw[dS]
  by_cases h2:e.nm=nm
  ·rw[if_pos h2,if_pos (om.ext h1 h2)]
  rw[if_neg h2,if_neg (fun q=>h2 (by rw[q])),h1,hg];rfl
 rw[if_neg h1,if_neg (fun q=>h1 (by rw[q]))]
theorem Ei(hr:ee T)(hn:fA T)(hg:dN T d=some it)(hi:it'.names=it.names):gI (eN d it' T)=gI T:=by
 have a:ee it'.names:=by rw[hi];exact hn d it hg
 refine(gH hr.put (lP hn a)).ext (gH hr hn) fun e=>?_
 rw[jz hr.put (lP hn a),dS,jz hr hn]
 by_cases h1:e.d=d
 ·rw[if_pos h1,h1,hg]
  show dN it'.names e.nm=dN it.names e.nm
  rw[hi]
 rw[if_neg h1]
theorem zf(hr:ee T)(hn:fA T)(hg:dN T d=none)(hi:it'.names=[]):gI (eN d it' T)=gI T:=by
 have a:ee it'.names:=by rw[hi];exact List.Pairwise.nil
 refine(gH hr.put (lP hn a)).ext (gH hr hn) fun e=>?_
 rw[jz hr.put (lP hn a),dS,jz hr hn]
 by_cases h1:e.d=d
 ·rw[if_pos h1,h1,hg]
  show dN it'.names e.nm=none
  rw[hi];rfl
 rw[if_neg h1]
theorem Ej(hr:ee T)(hn:fA T)(hg:dN T d=some it)(hi:it.names=[]):gI (jv d T)=gI T:=by
 refine(gH hr.del (xX hn)).ext (gH hr hn) fun e=>?_
 rw[jz hr.del (xX hn),gi,jz hr hn]
 by_cases h1:e.d=d
 ·rw[if_pos h1,h1,hg]
  show none=dN it.names e.nm
  rw[hi];rfl
 rw[if_neg h1]
theorem uj(h:eo T)(d:Int)(nm:List UInt8):dN (gI T) ⟨d,nm⟩=dN (lq T d) nm:=by
 rw[jz h.rising h.names]
 show((dN T d).bind fun a=>dN a.names nm)=_
 unfold lq iX
 cases hg:dN T d with
 | none=>rfl
 | some a =>
  show dN a.names nm=_
  dsimp only
  by_cases hk:a.n.kind=2
  ·rw[if_pos hk];rfl
  rw[if_neg hk,(h.node d a hg).bare (((h.node d a hg).kind).resolve_right hk)];rfl
theorem zg(hr:ee T)(d:Int):(gI T).filter (fun x=>decide (x.1.d=d))=((dN T d).elim [] fun it=>it.names).map fun x=>(⟨d,x.1⟩,x.2):=by
 induction T with
 | nil=>rfl
 | cons p r ih =>
  obtain⟨a,x⟩:=p
  have h1:=List.pairwise_cons.1 hr
  unfold gI at ih ⊢
  rw[List.flatMap_cons,List.filter_append,ih h1.2,List.filter_map]
  have b:dN ((a,x)::r) d=if a=d then some x else dN r d:=rfl
  rw[b]
  by_cases e:a=d
  ·subst e
   have c:dN r a=none:=by
    cases hg:dN r a with
    | none=>rfl
    | some z=>exact absurd (h1.1 _ (fC hg)) (Ord2.irr _)
   rw[c,if_pos rfl]
   have:x.names.filter ((fun x:om×Int=>decide (x.1.d=a))∘fun x=>(⟨a,x.1⟩,x.2))=x.names:=List.filter_eq_self.2 fun y _=>by simp
   dsimp only at this ⊢
   rw[this]
   simp
  rw[if_neg e]
  have:x.names.filter ((fun x:om×Int=>decide (x.1.d=d))∘fun x=>(⟨a,x.1⟩,x.2))=[]:=List.filter_eq_nil_iff.2 fun y _=>by simpa using e
  dsimp only at this ⊢
  rw[this];rfl
end
def ec(T:dX):eM:=⟨T.map fun p=>(p.1,p.2.n),T.map fun p=>p.2.b,(gI T).map lI⟩
section
variable {T:dX}{d k id:Int}{nm:List UInt8}{it it':eI}
theorem GR(hr:ee T)(hn:fA T)(hg:dN T id=none)(hi:it'.names=[]):ec (eN id it' T)=⟨gZ (below id T) (id,it'.n) (ec T).nodes,gZ (below id T) it'.b (ec T).data,(ec T).e⟩:=by
 unfold ec
 rw[zf hr hn hg hi,wG hg,wP,wP]
theorem yb(hr:ee T)(hn:fA T)(hg:dN T id=some it)(hi:it.names=[]):ec (jv id T)=⟨ij (below id T) (ec T).nodes,ij (below id T) (ec T).data,(ec T).e⟩:=by
 unfold ec
 rw[Ej hr hn hg hi,Cu hr hg,Cv,Cv]
theorem xZ(hr:ee T)(hn:fA T)(hg:dN T id=some it)(hi:it'.names=it.names):ec (eN id it' T)=⟨(ec T).nodes.set (below id T) (id,it'.n),(ec T).data.set (below id T) it'.b,(ec T).e⟩:=by
 unfold ec
 rw[Ei hr hn hg hi,sH hr hg,List.map_set,List.map_set]
theorem qJ{α β:Type}(f:α->β)(l:List α)(n:Nat)(x:α)(h:∀y,l[n]?=some y->f x=f y):(l.set n x).map f=l.map f:=by
 rw[List.map_set]
 refine List.ext_getElem? fun j=>?_
 rw[List.getElem?_set]
 split
 ·rename_i e;subst e
  split
  ·rename_i hl
   rw[List.getElem?_map]
   rw[List.length_map] at hl
   rw[List.getElem?_eq_getElem hl]
   show some (f x)=some (f l[n])
   rw[h _ (List.getElem?_eq_getElem hl)]
  rename_i hl
  rw[List.getElem?_eq_none zo]
 rfl
theorem Dw(hr:ee T)(hg:dN T d=some it)(l:List (List UInt8×Int)):(ec (eN d { it with names:=l } T)).nodes=(ec T).nodes/\(ec (eN d { it with names:=l } T)).data=(ec T).data:=by
 obtain⟨hl,he⟩:=od hr hg
 unfold ec
 rw[sH hr hg]
 have hh:∀y,T[below d T]?=some y->y=(d,it):=fun y hy=>by rw[List.getElem?_eq_getElem hl,he] at hy;injection hy with hy;exact hy.symm
 exact⟨qJ _ _ _ _ fun y hy=>by rw[hh y hy],qJ _ _ _ _ fun y hy=>by rw[hh y hy]⟩
theorem GQ(hr:ee T)(hn:fA T)(hg:dN T d=some it)(hk:dN it.names nm=none):ec (eN d { it with names:=eN nm k it.names } T)=⟨(ec T).nodes,(ec T).data,gZ (below ⟨d,nm⟩ (gI T)) (d,nm,k) (ec T).e⟩:=by
 obtain⟨h1,h2⟩:=Dw hr hg (eN nm k it.names)
 have h3:(ec (eN d { it with names:=eN nm k it.names } T)).e=gZ (below ⟨d,nm⟩ (gI T)) (d,nm,k) (ec T).e:=by
  show(gI _).map lI=gZ _ _ ((gI T).map lI)
  rw[F3 hr hn hg,wG,wP]
  ·rfl
  rw[jz hr hn];show(dN T d).bind _=none;rw[hg];exact hk
 generalize ec (eN d { it with names:=eN nm k it.names } T)=R at *
 cases R
 simp only at h1 h2 h3
 rw[h1,h2,h3]
theorem fV:(ec T).nodes.length=T.length/\(ec T).data.length=T.length/\(ec T).e.length=(gI T).length:=⟨List.length_map ..,List.length_map ..,List.length_map ..⟩
end
def atL{α:Type}(p:α->Bool)(l:List α):Int:=if l.findIdx p<l.length then(l.findIdx p:Nat) else -1
theorem BX{α:Type}{p:α->Bool}{l:List α}{i:Nat}(hi:i<l.length)(h:p l[i]=true)(hb:∀j (hj:j<i),p (l[j]'(Nat.lt_trans hj hi))=false):atL p l=(i:Nat):=by
 have:l.findIdx p=i:=(List.findIdx_eq hi).2 ⟨h,fun j hj=>by simpa using hb j hj⟩
 unfold atL
 rw[this,if_pos hi]
theorem uA{α:Type}{p:α->Bool}{l:List α}(h:∀i (hi:i<l.length),p l[i]=false):atL p l = -1:=by
 have:l.findIdx p=l.length:=List.findIdx_eq_length.2 fun x a=>by
  obtain⟨i,hi,he⟩:=List.getElem_of_mem a
  rw[<- he];exact h i hi
 unfold atL
 rw[this,if_neg (Nat.lt_irrefl _)]
theorem CE{κ α:Type}[Ord2 κ]{l:List (κ×α)}(hr:ee l)(k:κ){p:κ×α->Bool}(hp:∀x,p x=true↔x.1=k):atL p l=atK k l:=by
 have hf:∀x:κ×α,x.1≠k->p x=false:=fun x a=>by cases h:p x with|false=>rfl|true=>exact absurd ((hp x).1 h) a
 cases hg:dN l k with
 | none =>
  rw[oT hg]
  exact uA fun i hi=>hf _ (GZ hg hi hr)
 | some x =>
  obtain⟨hl,he⟩:=od hr hg
  rw[mA hg]
  refine BX hl ((hp _).2 (by rw[he])) fun j hj=>hf _ fun e=>?_
  have:=uu hr (Nat.lt_trans hj hl)
  rw[e] at this
  omega
theorem CD{α β:Type}(f:α->β)(p:β->Bool)(l:List α):atL p (l.map f)=atL (fun x=>p (f x)) l:=by
 unfold atL
 rw[List.findIdx_map,List.length_map];rfl
def wO(id:Int)(x:Int×i'):Bool:=decide (x.1=id)
def nw(d:Int)(nm:List UInt8)(x:Int×List UInt8×Int):Bool:=decide (x.1=d)&&decide (x.2.1=nm)
section
variable {T:dX}
theorem oS(hr:ee T)(id:Int):atL (wO id) (ec T).nodes=atK id T:=by
 show atL (wO id) (T.map fun p=>(p.1,p.2.n))=_
 rw[CD]
 exact CE hr id fun x=>by simp[wO]
theorem CC(hr:ee T)(hn:fA T)(d:Int)(nm:List UInt8):atL (nw d nm) (ec T).e=atK ⟨d,nm⟩ (gI T):=by
 show atL (nw d nm) ((gI T).map lI)=_
 rw[CD]
 refine CE (gH hr hn) ⟨d,nm⟩ fun x=>?_
 unfold nw lI
 simp only[Bool.and_eq_true,decide_eq_true_eq]
 exact⟨fun h=>om.ext h.1 h.2,fun h=>by rw[h];exact⟨rfl,rfl⟩⟩
theorem Hl{κ α:Type}[Ord2 κ]{l:List (κ×α)}{k:κ}:(0<=atK k l)↔(dN l k).isSome=true:=by
 unfold atK
 split
 ·rename_i h;exact⟨fun _=>h,fun _=>Int.natCast_nonneg _⟩
 rename_i h;exact⟨fun a=>absurd a Zd,fun a=>absurd a h⟩
end
def eM.gone(R:eM)(k:Nat):eM:=⟨ij k R.nodes,ij k R.data,R.e⟩
def eM.cut(R:eM)(k:Nat):eM:=⟨R.nodes,R.data,ij k R.e⟩
def eM.ins(R:eM)(k:Nat)(x:Int×List UInt8×Int):eM:=⟨R.nodes,R.data,gZ k x R.e⟩
def eM.turn(R:eM)(k:Nat)(n:Int×i'):eM:=⟨R.nodes.set k n,R.data,R.e⟩
theorem x_{it':eI}(hr:ee T)(hn:fA T)(hg:dN T id=some it)(hi:it'.names=it.names)(hb:it'.b=it.b):ec (eN id it' T)=(ec T).turn (below id T) (id,it'.n):=by
 rw[xZ hr hn hg hi]
 unfold eM.turn
 obtain⟨hl,he⟩:=od hr hg
 congr 1
 refine List.ext_getElem? fun j=>?_
 rw[List.getElem?_set]
 split
 ·rename_i e;subst e
  rw[if_pos (by rw[fV.2.1];exact hl)]
  show some it'.b=(T.map fun p=>p.2.b)[below id T]?
  rw[List.getElem?_map,List.getElem?_eq_getElem hl,he,hb];rfl
 rfl
def mO(id:Int)(e:List (Int×List UInt8×Int)):List (Int×List UInt8×Int):=e.filter fun x => !decide (x.2.2=id)
theorem rG{κ α β:Type}[Ord2 κ](g:α->β):∀(l:List (κ×α)) (k:κ),dN (l.map fun p=>(p.1,g p.2)) k=(dN l k).map g:=fun l _k=>vH g l
theorem xW{κ α β:Type}[Ord2 κ]{l:List (κ×α)}(h:ee l)(g:α->β):ee (l.map fun p=>(p.1,g p.2)):=List.pairwise_map.2 h
theorem F4(T:dX)(id:Int):(gI (T.map fun p=>(p.1,gP id p.2))).map lI=mO id ((gI T).map lI):=by
 unfold gI mO
 rw[List.flatMap_map,List.map_flatMap,List.map_flatMap,List.filter_flatMap]
 congr 1
 funext p
 show((p.2.names.filter fun x => !decide (x.2=id)).map _).map _=_
 rw[List.filter_map,List.filter_map]
 rfl
theorem E4(hr:ee T)(hn:fA T)(hg:dN T id=some it)(hi:it.names=[]):ec (qV id T)=(eM.mk (ec T).nodes (ec T).data (mO id (ec T).e)).gone (below id T):=by
 unfold qV
 have b:dN (T.map fun p=>(p.1,gP id p.2)) id=some (gP id it):=by rw[rG,hg];rfl
 have c:fA (T.map fun p=>(p.1,gP id p.2)):=fun k x a=>by
  rw[rG] at a
  cases hk:dN T k with
  | none=>rw[hk] at a;cases a
  | some y=>rw[hk] at a;injection a with a;rw[<- a];exact(hn k y hk).filter _
 rw[yb (xW hr _) c b (by show List.filter _ it.names=[];rw[hi];rfl),vX]
 unfold eM.gone ec
 rw[F4,List.map_map,List.map_map]
 rfl
structure OpP where
 kind:Int
 path:List UInt8
 goal:List UInt8
 fd:Int
 at_:Int
 n:Int
 till:Int
 snap:Int
 data:List UInt8
structure ez where
 err:Int
 n:Int
 data:List UInt8
 names:eZ
 node:Option (Int×i')
def noR(e:Int):ez:=⟨e,0,[],[],none⟩
def fdT(s:d')(n:Int)(wr:Bool):Option FdP:=if 0<=n/\n<8 then(s.fd n.toNat).filter fun f=>f.writing==wr else none
def kH(s:d'):Option Nat:=(List.range 8).find? fun k=>(s.fd k).isNone
def setFd(s:d')(k:Nat)(f:Option FdP):d':={ s with fd:=fun j=>if j=k then f else s.fd j }
def gv(s:d')(p:eZ):ez×d':=match kH s with
 | none=>(noR 25,s)
 | some k=>if (g_ s.T p 1).2.1≠0 then(noR (g_ s.T p 1).2.1,s) else({ noR 0 with n:=k },setFd { s with T:=(g_ s.T p 1).2.2 } k (some ⟨true,(g_ s.T p 1).1,[]⟩))
def io(s:d')(o:OpP):ez×d':=match fdT s o.fd true with
 | none=>(noR 26,s)
 | some f=>if 600<o.data.length then(noR 3,s) else if (fE s.T f.id o.data).1≠0 then(noR (fE s.T f.id o.data).1,s) else({ noR 0 with n:=(o.data.length:Nat) },{ s with T:=(fE s.T f.id o.data).2 })
def fO(s:d')(o:OpP):ez×d':=match fdT s o.fd true with
 | some f=>if (je s.T f.id o.till).1≠0 then(noR (je s.T f.id o.till).1,s) else(noR 0,setFd { s with T:=(je s.T f.id o.till).2 } o.fd.toNat none)
 | none=>match fdT s o.fd false with
  | none=>(noR 26,s)
  | some _=>(noR 0,setFd s o.fd.toNat none)
def EG(s:d')(id:Int):Option dX:=if id=0 then some s.T else(s.S.list.find? fun x=>decide (x.id=id)).map (·.T)
def pz(s:d')(o:OpP)(p:eZ):ez:=match EG s o.snap with
 | none=>noR 29
 | some T=>if (j6 T p).2≠0 then noR (j6 T p).2 else match dN T (j6 T p).1 with
  | none=>noR 0
  | some it=>if o.kind=12 then { noR 0 with node:=some ((j6 T p).1,it.n) } else { noR (Fz T (j6 T p).1).2 with n:=(Fz T (j6 T p).1).1.length,names:=(Fz T (j6 T p).1).1 }
theorem Dr(e:List (Int×List UInt8×Int))(id:Int):gN e id=(e.filter fun x=>decide (x.1=id)).map fun x=>x.2:=by
 unfold gN
 induction e with
 | nil=>rfl
 | cons a r ih =>
  rw[List.filterMap_cons,List.filter_cons]
  by_cases h:a.1=id
  ·simp[h,ih]
  simp[h,ih]
theorem ya(hr:ee T){p:Int×eI}(hp:p∈T):gN (ec T).e p.1=p.2.names:=by
 rw[Dr]
 show((((gI T).map lI).filter fun x=>decide (x.1=p.1)).map fun x=>x.2)=_
 rw[List.filter_map,List.map_map]
 have:=zg hr p.1
 show(((gI T).filter fun x=>decide (x.1.d=p.1)).map _)=_
 rw[this,hr.get (show(p.1,p.2)∈T from hp),List.map_map]
 show p.2.names.map (fun x=>(x.1,x.2))=p.2.names
 exact List.map_id _
theorem tj(hI:eo T):B7 (ec T) T where
 nodes:=rfl
 data:=rfl
 names:=fun p b=>ya hI.rising b
 dirs:=by
  intro x c
  obtain⟨y,hy,rfl⟩:=List.mem_map.1 c
  obtain⟨⟨d,f⟩,k⟩:=y
  obtain⟨a,h1,h2⟩:=(pi hI.rising).1 hy
  refine⟨a,h1,?_⟩
  rcases(hI.node d a h1).kind with e|e
  ·rw[(hI.node d a h1).bare e] at h2;cases h2
  exact e
def mo:Option FdP->zR
 | none=>⟨0,0,[]⟩
 | some f=>if f.writing=true then⟨1,f.id,[]⟩ else⟨2,0,f.b⟩
def E5(S:j_):lw:=⟨S.list.map fun x=>⟨x.id,x.hash,ec x.T⟩,S.next,S.last⟩
def fW(s:d'):gw:=⟨ec s.T,E5 s.S,s.now,fun k=>mo (s.fd k)⟩
structure fz (s:d'):Prop where
 tree:eo s.T
 few:eV s.T
 now:0<=s.now/\s.now<=1099511627776
 fd:∀k f,s.fd k=some f->(f.writing=true->f.b=[]/\0<=f.id/\f.id<=63)/\(f.writing=false->f.id=0/\f.b.length<=4096)
 snaps:s.S.list.length<=8
 snap:∀x∈s.S.list,eo x.T/\eV x.T/\x.hash.length=32
 ids:∀x∈s.S.list,0<=x.id/\x.id<s.S.next
 next:1<=s.S.next/\s.S.next<=1000000000
 last:s.S.last.length<=32
theorem yc(s:d')(k:Nat)(f:Option FdP):fW (setFd s k f)={ fW s with fd:=fun j=>if j=k then mo f else(fW s).fd j }:=by
 unfold fW setFd
 congr 1
 funext j
 show mo (if j=k then f else s.fd j)=if j=k then mo f else mo (s.fd j)
 split <;> rfl
theorem Dx(s:d')(T:dX):fW { s with T:=T }={ fW s with T:=ec T }:=rfl
theorem tk{S:j_}(h:∀x∈S.list,eo x.T):pt (E5 S) S where
 next:=rfl
 last:=rfl
 len:=List.length_map ..
 each:=fun k h1 h2=>by
  have e:(E5 S).list[k]=⟨S.list[k].id,S.list[k].hash,ec S.list[k].T⟩:=List.getElem_map ..
  rw[e]
  exact⟨rfl,rfl,tj (h _ (List.getElem_mem h2))⟩
def Gs(q:fx)(x:Int×List UInt8×Int)(e:Ending):Prop :=
 (x.2.2=0/\e=.returned (.tuple #[.pointer (some ⟨q.β x.1,0,none⟩),.string (dR x.2.1),.int .i64 0])) \/
 (x.2.2≠0/\e=.returned (.tuple #[.pointer none,.string { data:=#[] },.int .i64 x.2.2]))
theorem Ee(p:eZ):oo [p]=el p:=by unfold oo oo;split <;> omega
section
variable {w w':World}{c c':Col}{i j bt:Nat}{q q':fx}{T L:dX}{D:Nat->Prop}{A:Option Addr}{n cp:Nat}{p:eZ}{d:Int}{it:eI}{nm:List UInt8}
theorem xw(h:ea w c i bt q T)(hI:eo T)(hR:Ps w D A n p)(hn:n<=1000)(hc:n<=cp)(hs:∀x∈p,x.length<=1099511627776):
  Calls prog 133 #[.pointer (some ⟨bt,0,none⟩),.slice A n cp] w fun e w'=>Gs q (eB T p) e/\New w w':=by
 rcases List.eq_nil_or_concat p with rfl|⟨f,d,rfl⟩
 ·obtain rfl:n=0:=hR.len.symm
  refine(zV A cp w bt).mono ?_
  rintro e w'⟨rfl,rfl⟩
  exact⟨.inr ⟨by show(1:Int)≠0;decide,rfl⟩,zN _⟩
 rw[List.concat_eq_append] at hR hs ⊢
 refine(zW h hI hR zo hc fun x g=>hs x (List.mem_append_left _ g)).mono ?_
 rintro e w'⟨h1,k⟩
 refine⟨h1.imp (fun⟨a,b⟩=>⟨a,?_⟩) id,k⟩
 obtain⟨-,-,-,h2⟩:=oI a
 rw[b]
 have:(eB T (f++[d])).2.1=d:=by
  unfold eB at a ⊢
  rw[if_neg (by simp)] at a ⊢
  split at a
  ·exact absurd a (by assumption)
  rename_i hw
  rw[if_neg hw]
  split at a
  ·exact absurd a Zd
  rename_i hd;rw[hd];exact List.getLastD_concat ..
 rw[this]
theorem ea.dirAt(h:ea w c i bt q T)(hg:dN T d=some it)(hk:it.n.kind=2)(hnm:nm.length<=9223372036854775807):
  w.cell? ⟨q.β d,1,none⟩=some (.int .i64 2)/\w.cell? ⟨q.β d,7,none⟩=some (.map (some (q.γ d))) /\
  (Instr.lookup 212 (.map (some (q.γ d))) (.string (dR nm)) true).run prog w=.ok (.tuple #[(dN it.names nm).elim (.int .i64 0) (fun k'=>.int .i64 k'),.bool (dN it.names nm).isSome]) w:=by
 have a:=h.item d it hg
 obtain⟨g,f,-,b,-,-,-,-,-,e,-⟩:=gj a
 rw[if_pos hk] at e
 rw[hk] at b
 exact⟨b,e,((a.names hk).2.look underlying212 (qt w) (k:=nm) hnm).1⟩
theorem ea.lookAt(h:ea w c i bt q T)(h0 : -9223372036854775808<=d)(h1:d<=9223372036854775807):
  w.cell? ⟨bt,0,none⟩=some (.map (some q.bm))/\(Instr.lookup 215 (.map (some q.bm)) (.int .i64 d) true).run prog w=.ok (.tuple #[(dN T d).elim (.pointer none) (fun _=>.pointer (some ⟨q.β d,0,none⟩)),.bool (dN T d).isSome]) w /\
  (Instr.lookup 215 (.map (some q.bm)) (.int .i64 d) false).run prog w=.ok ((dN T d).elim (.pointer none) (fun _=>.pointer (some ⟨q.β d,0,none⟩))) w :=
 ⟨a_ h.tree (k:=0) rfl,h.look h0 h1⟩
end
theorem Cp(h:eo T)(hl:T.length<64){k:Int}(hg:dN T k=none)(h1:1<=k)(hb:∀j,1<=j->j<k->(dN T j).isSome):k=lR T:=by
 obtain⟨a,b,c,f3⟩:=wS h hl
 rcases Int.lt_trichotomy k (lR T) with e|e|e
 ·have:=f3 k h1 e;rw[hg] at this;cases this
 ·exact e
 have:=hb _ b e;rw[a] at this;cases this
section
variable {w w':World}{c c':Col}{i j bt:Nat}{q q':fx}{T L:dX}{D:Nat->Prop}{A:Option Addr}{n cp:Nat}{p:eZ}{d:Int}{it:eI}{nm:List UInt8}
theorem CX(h:ea w c i bt q T)(hi:i≠0)(hI:eo T)(hF:eV T)(hR:Ps w D A n p)(hn:n<=1000)(hc:n<=cp)(hs:∀nm∈p,nm.length<=1099511627776){kind:Int}(hkd:kind=1\/kind=2):
  Calls prog 49 #[.pointer (some ⟨bt,0,none⟩),.slice A n cp,.int .i64 kind] w (iM w c i bt (g_ T p kind).2.2 (.tuple #[.int .i64 (g_ T p kind).1,.int .i64 (g_ T p kind).2.1])):=by
 have hl:=hR.len
 have k1:=(zN w).alloc (.cells #[.slice A n cp] 51)
 have Q:=zh<|va _ (some ⟨w.heap.size,0,none⟩) 1 1 [p] _ (Ck (c:=cp) (t:=51) hR) Zd (by simpa using ⟨zo,hs⟩)
 rw[Ee] at Q
 have R:=zh<|fun W (Y:New w W)=>xw (h.new Y) hI (cp:=cp) (Row.new hR Y) hn hc hs
 have a:=J4 h hI hi hF
 have S:=zh<|fun(e:el p=0) (e2:p≠[])=>(rF e e2)
 have M:=zh<|fun(e:(eB T p).2.2=0)=>oI e
 have an:=zh<|vI c i
 obtain⟨r,hr⟩:=zx (g_ T p kind)
 rw[<- hr]
 have aa:=zh k1
 have ab:¬(kind≠1/\kind≠2):=zo
 have l:Hid (r=if el p≠0 then(0,el p,T) else if (eB T p).2.2≠0 then(0,(eB T p).2.2,T) else if (dN (lq T (eB T p).1) (eB T p).2.1).isSome then(0,21,T) else if 64<=T.length then(0,4,T)
   else(lR T,0,setNames (eN (lR T) (eD kind) T) (eB T p).1 (eN (eB T p).2.1 (lR T) (lq T (eB T p).1)))):=zh (by rw[hr];unfold g_;rw[if_neg ab])
 generalize el p=f at *
 generalize ao:eB T p=x at *
 obtain⟨d,nm,B⟩:=x
 dsimp only at l R M S
 have az:Hid (f=0->B=0->p≠[]/\nm=p.getLastD []):=zh (fun e1 e2=>by
  have:=M.out e2
  exact⟨this.1,this.2.2.2⟩)
 clear hl h hI hi hF hR hs hr k1 ab ao hc
 rcases hkd with rfl|rfl
 all_goals
  go_in
  go_wp2_with fail
  refine Q.mono ?_
  rintro e w1⟨rfl,k2⟩
  have o:=zh<|aa.new k2
  clear k2 aa Q
  by_cases hf:f=0
  rotate_left
  ·have J:Hid (r=(0,f,T)):=zh (by have:=l.out;rwa[if_pos hf] at this)
   have hb:(f !=0)=true:=by simpa using hf
   clear l hf
   go_wp2
   refine Zb (.tuple #[.int .i64 0,.int .i64 f]) (by simp[results,results49,go_sem]) ?_
   rw[J.out]
   exact iM.stay a.1 o.out _
  subst hf
  rw[if_neg Zd] at l
  go_wp2_with fail
  refine(R.out _ o.out).mono ?_
  rintro e L⟨hp,O⟩
  replace o:=zh<|o.new O
  clear O R
  rcases hp with⟨m,rfl⟩|⟨m,rfl⟩
  rotate_left
  ·replace m:B≠0:=m
   have J:Hid (r=(0,B,T)):=zh (by have:=l.out;rwa[if_pos m] at this)
   have hb:(B !=0)=true:=by simpa using m
   clear l m
   go_wp2
   refine Zb (.tuple #[.int .i64 0,.int .i64 B]) (by simp[results,results49,go_sem]) ?_
   rw[J.out]
   exact iM.stay a.1 o.out _
  replace m:B=0:=m
  subst m
  rw[if_neg Zd] at l
  obtain⟨ap,aq,⟨it,hg,N,ac⟩,ad⟩:=M.out (by first|rfl|trivial)
  have g:=S.out (by first|rfl|trivial) ap
  have al:nm.length<=16:=by
   rw[ad]
   unfold ep at g
   simp only[Bool.and_eq_true,decide_eq_true_eq] at g
   exact g.1.1.2
  rw[ac] at l
  have E:=J3 hg N al
  have G:=a.1.new o.out
  obtain⟨x1,x7,H⟩:=G.dirAt hg N (nm:=nm) zo
  clear aq ac ad g M S
  by_cases C:(dN it.names nm).isSome=true
  ·have J:Hid (r=(0,21,T)):=zh (by have:=l.out;rwa[if_pos C] at this)
   obtain⟨k',ae⟩:=Option.isSome_iff_exists.1 C
   rw[ae] at H
   simp only[Option.elim_some,Option.isSome_some] at H
   clear l hg N G C ae
   go_wp2
   refine Zb (.tuple #[.int .i64 0,.int .i64 21]) (by simp[results,results49,go_sem]) ?_
   rw[J.out]
   exact iM.stay a.1 o.out _
  rw[if_neg C] at l
  have af:=rU C
  rw[af] at H
  simp only[Option.elim_none,Option.isSome_none] at H
  have am:=G.own.len underlying215 3
  have c0:=(G.lookAt (d:=0) Zd Zd).1
  clear hg N G C af
  by_cases u:64<=T.length
  ·have J:Hid (r=(0,4,T)):=zh (by have:=l.out;rwa[if_pos u] at this)
   have hb:((T.length:Int)≥64):=zo
   clear l
   go_wp2
   refine Zb (.tuple #[.int .i64 0,.int .i64 4]) (by simp[results,results49,go_sem]) ?_
   rw[J.out]
   exact iM.stay a.1 o.out _
  rw[if_neg u] at l
  have ag:=zh u
  have hb:¬((T.length:Int)≥64):=zo
  clear u
  go_wp2_with fail
  clear H x1 x7 am hb
  go_loopw [14] (fun ar wx=>∃id:Int,ar=.int .i64 id/\1<=id/\id<=64/\(∀j,1<=j->j<id->(dN T j).isSome=true)/\L=wx) (fun s _=>65-(intOf s).toNat)
  case atStart=>exact⟨1,rfl,Zd,Zd,fun j h1 h2=>by omega,rfl⟩
  obtain⟨id,rfl,au,aA,I,rfl⟩:=hrel
  have G:=a.1.new o.out
  have y:=(G.lookAt (d:=id) zo zo).2.2
  have HB:=zh I
  clear G I
  cases hgi:dN T id with
  | some av =>
   rw[hgi] at y
   simp only[Option.elim_some] at y
   have aB:=a.2.1.ids id av hgi
   have aw:Hid ((dN T id).isSome=true):=zh (by rw[hgi];rfl)
   have hwr:IntKind.i64.wrap (id+1)=id+1:=IntWalk.i64_in _ zo
   clear hgi
   go_wp2
   go_roundw
   case rel=>exact⟨id+1,by go_num,zo,zo,fun j h1 h2=>(Int.lt_or_eq_of_le (show j<=id by omega)).elim (HB.out j h1) (fun e=>by rw[e];exact aw.out),by first|rfl|trivial⟩
   simp[intOf];omega
  | none =>
   rw[hgi] at y
   simp only[Option.elim_none] at y
   have hfr:=Cp a.2.1 (by have:=ag.out;omega) hgi au HB.out
   have U:=J2 hgi hfr
   have cq:∀W,b_ (fun b=>b≠q.bm) L.drew W->W.cell? ⟨bt,0,none⟩=some (.map (some q.bm)):=fun W Y=>Y.Qb (a_ (w:=L.drew) ((a.1.new o.out).tree) (k:=0) rfl) a.1.nmap
   clear hgi hfr
   go_upto_region 17 with fail
   clear c0 y
   refine eu (b_ (fun b=>b≠q.bm) L.drew) zk ?_
   have F:b_ (fun b=>b≠q.bm) L.drew L.drew:=b_.refl _ _
   refine c_ 0 F ?_
   refine c_ 1 F ?_
   refine c_ 2 F ?_
   refine c_ 3 F ?_
   refine c_ 4 F ?_
   refine c_ 5 F ?_
   refine c_ 6 F ?_
   refine dQ (i:=7) zk rfl rfl (fun K V=>?_)
   go_simp
   refine(an.out id _ Zd L.drew).mono ?_
   rintro e w3⟨bi,nb,c1,rfl,O,ah,ai,aj,ak⟩
   have P:=J5 O ah ai aj ak
   clear ah ai aj ak
   go_wp2_with fail
   have n1:=b_.new F O
   refine V _ _ n1 ?_
   clear V K F O
   try simp only[zy]
   obtain⟨w4,ax,k4,z4,T4⟩:=(a.1.new (o.drew)).come a.2.2.1 U.1 zo zo (by have:=ag.out;omega) P.1 P.2.1 P.2.2.1 P.2.2.2.1 P.2.2.2.2
   have H4:=J2 k4 T4
   have n2:=n1.trans k4
   clear z4 T4 k4
   refine dQ (i:=8) zk rfl rfl (fun K V=>?_)
   go_simp
   refine V _ _ n2 ?_
   clear V K n1 ax cq
   try simp only[zy]
   refine wpAnyH_done zk ?_ _
   have N2:=zh n2
   clear n2
   have z:d≠id:=fun e=>by have h1:=U.1;have h2:=E.1;rw[e,h1] at h2;cases h2
   have g:∀x,dN (eN id x T) d=some it:=fun x=>by rw[dS,if_neg z];exact E.1
   have y7:=(H4.2.dirAt (g _) E.2.1 (nm:=nm) (by have:=E.2.2;omega)).2.1
   obtain⟨w5,ay,X,z5,Z⟩:=H4.2.name a.2.2.1 (g _) E.2.1 (by have:=tO a.2.1 a.2.2.2 (fC E.1);dsimp only at this;omega) (nm:=nm) (by have:=E.2.2;omega) id
   rw[(fx.Ql z).1,(fx.Ql z).2] at y7
   rw[(fx.Ql z).2] at ay X
   have H5:=J4 z g X Z
   clear z g X Z z5
   go_wp2
   refine Zb (.tuple #[.int .i64 id,.int .i64 0]) (by simp[results,results49,go_sem]) ?_
   obtain⟨z,g,X,Z⟩:=H5.out
   rw[l.out,<- U.2]
   refine⟨rfl,?_,c1,q.plus id bi nb,fun b hb=>P.2.2.2.1 b (Nat.lt_of_lt_of_le hb o.size),?_⟩
   ·have hd:=((a.1.item d it E.1).names E.2.1).1
    exact((b_.Qe o.drew).Qd N2.out fun b _ hh e=>hh.2 (by rw[e];exact a.1.col.2)).Qd X fun b _ hh e=>hh.2 (by rw[e];exact hd)
   dsimp only
   rw[oB _ (g _)]
   exact Z
end
section
variable {w w':World}{c c':Col}{i j bt:Nat}{q q':fx}{T L:dX}{id:Int}{it:eI}
theorem tf(hg:dN T id=some it):mD T id=if it.n.links=0/\it.n.shut=true then jv id T else T:=by unfold mD;rw[hg]
theorem xu(h:ea w c i bt q T)(hi:i≠0)(h0 : -9223372036854775808<=id)(h1:id<=9223372036854775807)(hg:dN T id=some it):
  Calls prog 232 #[.pointer (some ⟨bt,0,none⟩),.pointer (some ⟨q.β id,0,none⟩)] w (iM w c i bt (mD T id) (.tuple #[])):=by
 have hb:=(h.item id it hg).notMap h.own
 rw[tf hg]
 obtain⟨A,x,j,-,l,-,-,m,-⟩:=gj (h.item id it hg)
 have d:=zh h
 have y:∀W,b_ (fun b=>b≠q.bm) w.drew W->W.cell? ⟨bt,0,none⟩=some (.map (some q.bm)):=fun W f=>f.Qb (a_ (w:=w.drew) h.tree (k:=0) rfl) h.nmap
 have cx:∀W,b_ (fun b=>b≠q.bm) w.drew W->W.cell? ⟨q.β id,0,none⟩=some (.int .i64 id):=fun W f=>f.Qb (show w.drew.cell? _=_ from j) hb
 clear hg hb j h
 go_in
 by_cases hc:it.n.links=0/\it.n.shut=true
 ·rw[if_pos hc]
  rw[hc.1] at l
  rw[hc.2] at m
  clear hc
  go_upto_region 1 with fail
  refine eu (b_ (fun b=>b≠q.bm) w.drew) zk ?_
  have a:b_ (fun b=>b≠q.bm) w.drew w.drew:=b_.refl _ _
  refine c_ 0 a ?_
  refine c_ 1 a ?_
  refine c_ 2 a ?_
  refine c_ 3 a ?_
  refine c_ 4 a ?_
  refine c_ 5 a ?_
  refine c_ 6 a ?_
  refine c_ 7 a ?_
  refine c_ 8 a ?_
  obtain⟨z,t,g,u,o⟩:=(d.new (zN w).drew).noItem hi h0 h1
  have p:=J2 g o
  clear u o
  refine dQ (i:=9) zk rfl rfl (fun K r=>?_)
  go_simp
  have s:=a.trans g
  refine r _ _ s ?_
  clear r K a g s
  try simp only[zy]
  refine wpAnyH_done zk ?_ _
  go_wp2_with fail
  go_end0
  exact⟨rfl,(b_.drew (b_.refl _ w)).Qd p.1 fun b _ hh e=>hh.2 (by rw[e];exact d.col.2),c,q,Ext.refl _ _,p.2⟩
 rw[if_neg hc]
 by_cases hl:it.n.links=0
 ·have hs:it.n.shut=false:=by simpa[hl] using hc
  rw[hl] at l
  rw[hs] at m
  clear hc hl hs
  go_wp2_with fail
  go_end0
  exact iM.stay d.out (zN _) _
 have v:(it.n.links==0)=false:=beq_eq_false_iff_ne.2 hl
 clear hc hl
 go_wp2_with fail
 go_end0
 exact iM.stay d.out (zN _) _
theorem nZ(he:ig T id=0):∃it,dN T id=some it/\it.n.kind≠2:=by
 unfold ig at he
 cases hg:dN T id with
 | none=>rw[hg] at he;exact absurd he Zd
 | some it =>
  rw[hg] at he
  refine⟨it,rfl,fun e=>?_⟩
  dsimp only at he
  rw[if_pos e] at he
  exact absurd he Zd
def fm(till:Int)(it:eI):eI:={ it with n:={ it.n with shut:=true,till:=till } }
theorem ti(till:Int):je T id till=if ig T id≠0 then(ig T id,T) else match dN T id with
  | none=>(20,T)
  | some it=>if it.n.shut=true then(27,T) else if 1099511627776<till then(1,T) else(0,mD (eN id (fm till it) T) id):=by
 unfold je ig
 cases hg:dN T id with
 | none=>rfl
 | some it =>
  by_cases hk:it.n.kind=2
  ·simp[hk]
  simp[hk,fm]
theorem CU(h:ea w c i bt q T)(hi:i≠0)(h0 : -9223372036854775808<=id)(h1:id<=9223372036854775807){till:Int}(h2:0<=till)(h3:till<=18446744073709551615):
  Calls prog 142 #[.pointer (some ⟨bt,0,none⟩),.int .i64 id,.int .u64 till] w (iM w c i bt (je T id till).2 (.int .i64 (je T id till).1)):=by
 have u:=zh<|qU h id h0 h1
 obtain⟨r,m⟩:=zx (je T id till)
 rw[<- m]
 rw[ti] at m
 have F:=zh<|fun(e:ig T id=0)=>nZ e
 have g:=zh h
 have a:=zh m
 generalize ig T id=f at *
 clear h m
 go_in
 go_wp2_with fail
 refine u.mono ?_
 rintro e L⟨rfl,rfl⟩
 clear u
 by_cases hf:f=0
 rotate_left
 ·have j:Hid (r=(f,T)):=zh (by have:=a.out;rwa[if_pos hf] at this)
  have hb:(f !=0)=true:=by simpa using hf
  rw[if_neg hf]
  clear a hf
  go_wp2
  go_ret
  rw[j.out]
  exact iM.stay g.out (zN _) _
 subst hf
 obtain⟨d,hg,hk⟩:=F.out rfl
 rw[if_pos rfl]
 rw[if_neg Zd,hg] at a
 dsimp only at a
 obtain⟨A,M,-,-,-,-,-,v,-⟩:=gj (g.item id d hg)
 have G:=J2 hg hk
 by_cases hs:d.n.shut=true
 ·have j:Hid (r=(27,T)):=zh (by have:=a.out;rwa[if_pos hs] at this)
  rw[hs] at v
  clear a hg hk hs
  go_wp2
  go_ret
  rw[j.out]
  exact iM.stay g.out (zN _) _
 rw[if_neg hs] at a
 replace hs:d.n.shut=false:=by simpa using hs
 rw[hs] at v
 by_cases ht:1099511627776<till
 ·have j:Hid (r=(1,T)):=zh (by have:=a.out;rwa[if_pos ht] at this)
  clear a hg hk hs
  go_wp2
  go_ret
  rw[j.out]
  exact iM.stay g.out (zN _) _
 rw[if_neg ht] at a
 have hI:=g.item id d hg
 obtain⟨H,x,l,y,z,B⟩:=hI.cells
 have z4:=dP l 4
 have N:=a_ l (k:=4) rfl
 have z5:=dP l 5
 have o:ea ((w.setCell ⟨q.β id,5,none⟩ (.bool true)).setCell ⟨q.β id,4,none⟩ (.int .u64 till)) c i bt q (eN id (fm till d) T)/\b_ (fun b=>b≠q.β id) w ((w.setCell ⟨q.β id,5,none⟩ (.bool true)).setCell ⟨q.β id,4,none⟩ (.int .u64 till)):=by
  have s:b_ (fun b=>b≠q.β id) w ((w.setCell ⟨q.β id,5,none⟩ (.bool true)).setCell ⟨q.β id,4,none⟩ (.int .u64 till)):=((b_.refl _ w).setCell (p:=⟨q.β id,5,none⟩) (fun hd=>absurd rfl hd) _).setCell (p:=⟨q.β id,4,none⟩) (fun hd=>absurd rfl hd) _
  exact⟨g.setItem (it':=fm till d) hi hg rfl rfl s (Ext.refl _ _) ⟨H,x,dM (dM l 5 _) 4 _,y,z,B.keep s fun b hb hd e=>by rw[e,hI.col] at hd;exact hi hd⟩,s⟩
 have C:=zh o
 have I:=zh<|xu o.1 hi h0 h1 (it:=fm till d) (by rw[dS,if_pos rfl])
 clear hg hk hI l y z B o hs
 go_wp2_with fail
 refine I.mono ?_
 rintro e O⟨rfl,D,J,K,e3,E⟩
 have t:=J3 D e3 E
 clear D e3 E
 go_wp2
 go_ret
 rw[a.out]
 exact⟨rfl,CT (yM C.2 (g.item id d G.1).col) (Ext.refl _ _) t.1,J,K,fun b hb=>t.2.1 b (Nat.lt_of_lt_of_le hb C.2.size),t.2.2⟩
end
section
variable {w w':World}{c c':Col}{i j bt:Nat}{q q':fx}{T L:dX}{id:Int}{it:eI}{D E:Nat->Prop}{A B:Option Addr}{n cp m cb:Nat}{a b:List UInt8}
theorem Hi(hA:Bs w D A a.length a)(hB:Bs w E B b.length b)(h1:a.length<=cp)(h2:b.length<=cb)(t:TypeId):Bss (w.alloc (.cells #[.slice A a.length cp,.slice B b.length cb] t)) (fun _=>True) (some ⟨w.heap.size,0,none⟩) 2 [a,b]:=by
 have d:=(zN w).alloc (.cells #[.slice A a.length cp,.slice B b.length cb] t)
 have e:=heap_alloc_new w (.cells #[.slice A a.length cp,.slice B b.length cb] t)
 refine⟨[.slice A a.length cp,.slice B b.length cb],⟨rfl,fun _=>⟨w.heap.size,0,rfl,zt,by simp,fun k u c=>?_⟩⟩,rfl,fun k hk=>?_⟩
 ·have hk:k<2:=(List.getElem?_eq_some_iff.1 c).1
  match k,hk with
  | 0,_ =>
   obtain rfl:Value.slice A a.length cp=u:=by simpa using c
   exact a_ e (k:=0) rfl
  | 1,_ =>
   obtain rfl:Value.slice B b.length cb=u:=by simpa using c
   exact a_ e (k:=1) rfl
 have hk:k<2:=hk
 match k,hk with
 | 0,_=>exact⟨A,cp,rfl,h1,(Row.imp hA fun _ _ _=>zt).new d⟩
 | 1,_=>exact⟨B,cb,rfl,h2,(Row.imp hB fun _ _ _=>zt).new d⟩
def js(b:List UInt8)(it:eI):eI:={ it with b:=it.b++b,n:={ it.n with size:=((it.b++b).length:Nat) } }
theorem qo(b:List UInt8):fE T id b=if ig T id≠0 then(ig T id,T) else match dN T id with
  | none=>(20,T)
  | some it=>if it.n.shut=true then(27,T) else if 4096-it.n.size<(b.length:Int) then(15,T) else(0,eN id (js b it) T):=by
 unfold fE ig
 cases hg:dN T id with
 | none=>rfl
 | some it =>
  by_cases hk:it.n.kind=2
  ·simp[hk]
  simp[hk,js]
theorem xx(h:ea w c i bt q T)(hI:eo T)(hi:i≠0)(h0 : -9223372036854775808<=id)(h1:id<=9223372036854775807)(hB:Bs w D B b.length b)(h2:b.length<=cb)(h3:cb<=9223372036854775807)(hbl:b.length<=1000000):
  Calls prog 141 #[.pointer (some ⟨bt,0,none⟩),.int .i64 id,.slice B b.length cb] w (iM w c i bt (fE T id b).2 (.int .i64 (fE T id b).1)):=by
 have Y:=zh<|qU h id h0 h1
 obtain⟨r,K⟩:=zx (fE T id b)
 rw[<- K]
 rw[qo] at K
 have HZ:=zh<|fun(e:ig T id=0)=>nZ e
 have o:=J2 h hI
 have d:=zh K
 have Z:=J3 hB h2 h3
 have aa:=zh hbl
 generalize ig T id=f at *
 clear h K hI hB h2 h3
 obtain⟨n,hn⟩:=zx (b.length)
 rw[<- hn] at hbl ⊢
 have HN:=zh hn
 clear hn
 go_in
 go_wp2_with fail
 refine Y.mono ?_
 rintro e w1⟨rfl,rfl⟩
 clear Y
 by_cases hf:f=0
 rotate_left
 ·have x:Hid (r=(f,T)):=zh (by have:=d.out;rwa[if_pos hf] at this)
  have hb:(f !=0)=true:=by simpa using hf
  rw[if_neg hf]
  clear d hf
  go_wp2
  go_ret
  rw[x.out]
  exact iM.stay o.1 (zN _) _
 subst hf
 obtain⟨a,hg,hk⟩:=HZ.out rfl
 rw[if_pos rfl]
 rw[if_neg Zd,hg] at d
 dsimp only at d
 obtain⟨A,cp,-,-,-,S,-,L,M,-,s,U,N⟩:=gj (o.1.item id a hg)
 have V:=J2 hg hk
 by_cases hs:a.n.shut=true
 ·have x:Hid (r=(27,T)):=zh (by have:=d.out;rwa[if_pos hs] at this)
  rw[hs] at L
  clear d hg hk hs
  go_wp2
  go_ret
  rw[x.out]
  exact iM.stay o.1 (zN _) _
 rw[if_neg hs] at d
 replace hs:a.n.shut=false:=by simpa using hs
 rw[hs] at L
 obtain⟨y,ab⟩:=(o.2.node id a hg).size
 obtain⟨z,C⟩:=zx (a.n.size)
 rw[<- C] at S d y
 have hwr:IntKind.i64.wrap (4096-z)=4096-z:=IntWalk.i64_in _ zo
 rw[<- HN.out] at d
 by_cases ht:4096-z<(n:Int)
 ·have x:Hid (r=(15,T)):=zh (by have:=d.out;rwa[if_pos ht] at this)
  have ac:(n:Int)>4096-z:=ht
  clear d hg hk hs C
  go_wp2
  go_ret
  rw[x.out]
  exact iM.stay o.1 (zN _) _
 rw[if_neg ht] at d
 have F:=(zN w).alloc (.cells #[.slice A a.b.length cp,.slice B b.length cb] 22)
 have u:=zh<|qk _ (some ⟨w.heap.size,0,none⟩) 2 2 [a.b,b] _ (Hi (t:=22) N Z.1 s Z.2.1) (by simp;have:=aa.out;omega) Zd
 have G:[a.b,b].flatten=a.b++b:=by simp
 rw[G] at u
 obtain⟨fl,hfl⟩:=zx (a.b++b)
 rw[<- hfl] at u
 have P:=zh hfl
 obtain⟨fn,H⟩:=zx (fl.length)
 rw[<- H] at u
 have ad:=zh H
 rw[<- HN.out] at u F
 obtain⟨g,l⟩:=zx (q.β id)
 rw[<- l] at S L M ⊢
 have Q:=zh l
 obtain⟨m,hm⟩:=zx (a.b.length)
 rw[<- hm] at M u F
 have hlt:g<w.heap.size:=by rw[l];exact(o.1.item id a hg).lt
 have ae:=zh hlt
 have af:=F.Qb M trivial
 have ac:¬((n:Int)>4096-z):=ht
 have R:=zh F
 clear hg hk hs C y ab s U N l hm hlt hfl H G ht F
 go_wp2_with fail
 refine u.mono ?_
 rintro e I⟨⟨W,X,rfl,v⟩,O⟩
 have HO:=J2 v O
 have J:New w I:=R.new O
 clear u v af M L S
 obtain⟨A0,ai,s,U,N,y4⟩:=(o.1.item id a V.1).cells
 have j:=J.Qa s trivial
 rw[<- Q.out] at j
 have z6:=dP j 6
 have z3:=dP j 3
 have u6:=a_ j (k:=6) rfl
 have u3:=a_ j (k:=3) rfl
 have HY:=J2 j J
 clear s U N y4 j O J
 go_wp2
 go_ret
 rw[d.out]
 obtain⟨s,J⟩:=HY.out
 have kk:b_ (fun b=>b≠g) w ((I.setCell ⟨g,6,none⟩ (.slice W fn X)).setCell ⟨g,3,none⟩ (.int .i64 fn)):=((b_.Qe J).setCell (p:=⟨g,6,none⟩) (fun hd=>absurd rfl hd) _).setCell (p:=⟨g,3,none⟩) (fun hd=>absurd rfl hd) _
 have hx:=c.Qg w fun _=>0
 obtain⟨v,O⟩:=HO.out
 have kz:=R.size
 have k3:b_ (fun b=>b≠g) I ((I.setCell ⟨g,6,none⟩ (.slice W fn X)).setCell ⟨g,3,none⟩ (.int .i64 fn)):=((b_.refl _ I).setCell (p:=⟨g,6,none⟩) (fun hd=>absurd rfl hd) _).setCell (p:=⟨g,3,none⟩) (fun hd=>absurd rfl hd) _
 have y:w.heap.size<(w.alloc (.cells #[.slice A m cp,.slice B n cb] 22)).heap.size:=by simp
 have r2:=((Row.Qc v).keep k3 (fun b hb hd e=>by have:=ae.out;omega)).imp (E:=fun b=>c.on w.heap.size (fun _=>0) b=0) fun b _ hb=>Col.Qf _ _ zo
 have e1:fn=(js b a).b.length:=by rw[ad.out,P.out];rfl
 have ag:=ew v
 have ah:=eh v
 have e2:fl=(js b a).b:=P.out
 subst e1 e2
 have l:=Q.out
 subst l
 exact⟨rfl,yM kk (o.1.item id a V.1).col,c.on w.heap.size fun _=>0,q,hx,o.1.setItem (it':=js b a) hi V.1 rfl rfl kk hx ⟨W,X,dM (dM s 6 _) 3 _,ag,ah,r2⟩⟩
end
theorem I4(v0 v1 v2 v3 v4 v5 v6 v7:Value)(W:World):(Instr.index 87 (.agg #[v0,v1,v2,v3,v4,v5,v6,v7]) (.int .i64 0)).run prog W=.ok v0 W/\(Instr.index 87 (.agg #[v0,v1,v2,v3,v4,v5,v6,v7]) (.int .i64 1)).run prog W=.ok v1 W/\(Instr.index 87 (.agg #[v0,v1,v2,v3,v4,v5,v6,v7]) (.int .i64 2)).run prog W=.ok v2 W/\(Instr.index 87 (.agg #[v0,v1,v2,v3,v4,v5,v6,v7]) (.int .i64 3)).run prog W=.ok v3 W/\(Instr.index 87 (.agg #[v0,v1,v2,v3,v4,v5,v6,v7]) (.int .i64 4)).run prog W=.ok v4 W/\(Instr.index 87 (.agg #[v0,v1,v2,v3,v4,v5,v6,v7]) (.int .i64 5)).run prog W=.ok v5 W/\(Instr.index 87 (.agg #[v0,v1,v2,v3,v4,v5,v6,v7]) (.int .i64 6)).run prog W=.ok v6 W/\(Instr.index 87 (.agg #[v0,v1,v2,v3,v4,v5,v6,v7]) (.int .i64 7)).run prog W=.ok v7 W :=
 ⟨zk,zk,zk,zk,zk,zk,zk,zk⟩
section
variable {w w':World}{c c':Col}{i:fe}{b:Nat}{B:iu}{s:d'}
theorem xi.isNone{a:Option Nat}{f:Option FdP}(h:xi w c a f):a.isNone=f.isNone:=by
 cases a <;> cases f <;> first|rfl|exact h.elim
theorem ei.fdCell(h:ei w c i b B s){k:Nat}(hk:k<8):w.cell? ⟨b,3+k,none⟩=some (B.ptr k):=by
 refine a_ h.state ?_
 match k,hk with
 | 0,_=>rfl
 | 1,_=>rfl
 | 2,_=>rfl
 | 3,_=>rfl
 | 4,_=>rfl
 | 5,_=>rfl
 | 6,_=>rfl
 | 7,_=>rfl
theorem su{k:Nat}(hk:k<8)(h:(s.fd k).isNone=true)(hb:∀j,j<k->(s.fd j).isNone=false):kH s=some k:=by
 unfold kH
 rw[List.find?_range_eq_some]
 exact⟨h,List.mem_range.2 hk,fun j hj=>by simp[hb j hj]⟩
theorem sv(hb:∀j,j<8->(s.fd j).isNone=false):kH s=none:=by
 unfold kH
 rw[List.find?_eq_none]
 intro x a
 simp[hb x (List.mem_range.1 a)]
theorem Dg(h:ei w c i b B s):Calls prog 131 #[.pointer (some ⟨b,0,none⟩)] w fun e w'=>e=.returned (.int .i64 ((kH s).elim (-1) fun k=>(k:Int)))/\w=w':=by
 have o:=h.fdCell (k:=0) Zd
 have p:=h.fdCell (k:=1) Zd
 have q:=h.fdCell (k:=2) Zd
 have r:=h.fdCell (k:=3) Zd
 have t:=h.fdCell (k:=4) Zd
 have u:=h.fdCell (k:=5) Zd
 have v:=h.fdCell (k:=6) Zd
 have x:=h.fdCell (k:=7) Zd
 have y:=zh<|fun k (hk:k<8)=>(h.fd k hk).isNone
 unfold iu.ptr at o p q r t u v x
 have m:=I4
 clear h
 go_in
 go_wp2_with fail
 go_loopw [2,9] (fun A i C=>∃k:Nat,A=.int .i64 0/\k<=8/\i=.int .i64 (k:Int)/\(∀j,j<k->(s.fd j).isNone=false)/\w=C) (fun _ i _=>8-(intOf i).toNat)
 case atStart=>exact⟨0,rfl,Nat.zero_le _,rfl,fun j h=>absurd h (Nat.not_lt_zero _),rfl⟩
 obtain⟨k,rfl,hk,rfl,hb,rfl⟩:=hrel
 by_cases hlt:k<8
 ·have hn:=y.out k hlt
  have g:=J2 hlt hb
  have n:=zh hn
  clear hb
  obtain⟨z,hz⟩:=zx ((k:Int):Int)
  rw[<- hz]
  have m:(z=0/\k=0)\/(z=1/\k=1)\/(z=2/\k=2)\/(z=3/\k=3)\/(z=4/\k=4)\/(z=5/\k=5)\/(z=6/\k=6)\/(z=7/\k=7):=zo
  clear hz
  obtain⟨P,hP⟩:=zx (B.fd k)
  rw[<- hP] at hn n
  have d:(s.fd k).isNone=P.isNone:=hn.symm
  clear hk hn
  have f:=zh d
  clear d
  rcases m with⟨rfl,rfl⟩|⟨rfl,rfl⟩|⟨rfl,rfl⟩|⟨rfl,rfl⟩|⟨rfl,rfl⟩|⟨rfl,rfl⟩|⟨rfl,rfl⟩|⟨rfl,rfl⟩
  all_goals
   have a:Hid (P.isNone=false->∀j,j<_+1->(s.fd j).isNone=false):=zh fun D j h=>(Nat.lt_or_eq_of_le (Nat.le_of_lt_succ h)).elim (g.2 j) (fun e=>by rw[e,f.out];exact D)
   cases P with
   | none =>
    have l:=zh<|su g.1 (by rw[f.out];rfl) g.2
    have hB:=hP.symm
    clear hP
    go_wp2
    go_ret
    exact⟨by rw[l.out];rfl,rfl⟩
   | some E =>
    have hB:=hP.symm
    clear hP
    go_wp2
    go_roundw
    case rel=>first|exact⟨1,rfl,Zd,rfl,a.out rfl,by first|rfl|trivial⟩|exact⟨2,rfl,Zd,rfl,a.out rfl,by first|rfl|trivial⟩|exact⟨3,rfl,Zd,rfl,a.out rfl,by first|rfl|trivial⟩|exact⟨4,rfl,Zd,rfl,a.out rfl,by first|rfl|trivial⟩|exact⟨5,rfl,Zd,rfl,a.out rfl,by first|rfl|trivial⟩|exact⟨6,rfl,Zd,rfl,a.out rfl,by first|rfl|trivial⟩|exact⟨7,rfl,Zd,rfl,a.out rfl,by first|rfl|trivial⟩|exact⟨8,rfl,Zd,rfl,a.out rfl,by first|rfl|trivial⟩
    decide
 obtain rfl:k=8:=by omega
 have l:=zh<|sv hb
 clear hb
 go_wp2
 go_ret
 exact⟨by rw[l.out];rfl,rfl⟩
theorem ws(h:ei w c i b B s)(n:Int)(wr:Bool):Calls prog 139 #[.pointer (some ⟨b,0,none⟩),.int .i64 n,.bool wr] w fun e w' =>
  e=.returned (.tuple #[if (fdT s n wr).isSome=true then B.ptr n.toNat else .pointer none,.bool (fdT s n wr).isSome])/\w=w':=by
 by_cases hn:0<=n/\n<8
 ·obtain⟨k,rfl⟩:∃k:Nat,n=(k:Int):=⟨n.toNat,zo⟩
  have hk:k<8:=by omega
  have a:=h.fdCell hk
  have hf:=h.fd k hk
  unfold iu.ptr at a ⊢
  rw[Int.toNat_natCast]
  unfold fdT
  rw[if_pos hn,Int.toNat_natCast]
  clear h hn
  cases hB:B.fd k with
  | none =>
   cases hs:s.fd k with
   | some _=>rw[hB,hs] at hf;exact hf.elim
   | none =>
    rw[hB] at a
    clear hf hB hs
    simp only[Option.isSome_none,Option.filter_none,if_false,Bool.false_eq_true,Option.map_none] at a ⊢
    have d:(k:Int)<8:=by omega
    go_in
    go_wp2
    refine Zb (.tuple #[.pointer none,.bool false]) (by simp[results,results139,go_sem]) ?_
    exact⟨rfl,rfl⟩
  | some g =>
   cases hs:s.fd k with
   | none=>rw[hB,hs] at hf;exact hf.elim
   | some f =>
    rw[hB,hs] at hf
    obtain⟨-,A,j,hc,-⟩:=hf
    have v0:=a_ hc (k:=0) rfl
    rw[hB] at a
    clear hB hs hc
    have d:(k:Int)<8:=by omega
    by_cases he:f.writing=wr
    ·have e1:(f.writing==wr)=true:=by simp[he]
     have e2:(some f:Option FdP).filter (fun f=>f.writing==wr)=some f:=by simp[Option.filter,he]
     rw[e2]
     clear he e2
     simp only[Option.isSome_some,if_true,Option.map_some] at a ⊢
     go_in
     go_wp2
     refine Zb (.tuple #[.pointer (some ⟨g,0,none⟩),.bool true]) (by simp[results,results139,go_sem]) ?_
     exact⟨rfl,rfl⟩
    have e1:(f.writing==wr)=false:=by simp[he]
    have e2:(some f:Option FdP).filter (fun f=>f.writing==wr)=none:=by simp[Option.filter,he]
    rw[e2]
    clear he e2
    simp only[Option.isSome_none,if_false,Bool.false_eq_true,Option.map_some] at a ⊢
    go_in
    go_wp2
    refine Zb (.tuple #[.pointer none,.bool false]) (by simp[results,results139,go_sem]) ?_
    exact⟨rfl,rfl⟩
 have e:fdT s n wr=none:=by unfold fdT;rw[if_neg hn]
 rw[e]
 clear e h
 simp only[Option.isSome_none,if_false,Bool.false_eq_true]
 go_in
 by_cases h0:n<0
 ·go_wp2
  refine Zb (.tuple #[.pointer none,.bool false]) (by simp[results,results139,go_sem]) ?_
  exact⟨rfl,rfl⟩
 have l:n≥8:=by omega
 go_wp2
 refine Zb (.tuple #[.pointer none,.bool false]) (by simp[results,results139,go_sem]) ?_
 exact⟨rfl,rfl⟩
end
