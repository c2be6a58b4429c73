/-
  PROVED HERE: what the program's codec.Writer does; conditions: fewer than 2^40 bytes.
-/
import Derived.Test.YtlopmiaimignkaaGreatDoorPkM04
set_option maxRecDepth 200000
namespace Go.Proofs.YtlopmiaimignkaaGreatDoor
open Go.Proofs.Tryz
open Go.RowKit
variable{w:World}{base p:Nat}{bs:List UInt8}
structure Wr (w:World) (base p:Nat) (bs:List UInt8):Prop where
 hp:base<=p
 row:∃A c,w.cell? ⟨p,0,none⟩=some (.slice A bs.length c)/\fy w base 5 A bs.length c bs/\blk A≠some p
 free:w.frozen? ⟨p,0,none⟩=false
theorem Wr.lt(h:Wr w base p bs):p<w.heap.size:=by obtain⟨A,c,h,_⟩:=h.row;exact World.block_lt_of_cell? w _ h
theorem Wr.put{w2:World}(h:Wr w base p bs){A1 A2:Option Addr}{m c2:Nat}{more:List UInt8}(hown2:fy w2 base 5 A2 m c2 (bs++more))(hg2:w.grownBy w2 (blk A1))(hbk2:blk A2=blk A1\/blk A2=some w.heap.size)(hne:blk A1≠some p)(hcc:∃u,w2.cell? ⟨p,0,none⟩=some u):Wr (w2.setCell ⟨p,0,none⟩ (.slice A2 m c2)) base p (bs++more):=by
 have c:=h.lt
 have hk:b_ (fun b=>b=p) w w2:=(b_.refl _ w).grown hg2 (fun k hk hd=>absurd (hd▸hk) hne)
 have hm:m=(bs++more).length:=by have:=hown2.1;simpa using this.symm
 have a:blk A2≠some p:=by
  rcases hbk2 with e|e <;> rw[e]
  ·exact hne
  intro e';injection e';omega
 obtain⟨u,d⟩:=hcc
 refine⟨h.hp,⟨A2,c2,?_,?_,a⟩,?_⟩
 ·rw[<- hm];exact World.cell?_setCell_same _ _ _ d
 ·rw[<- hm];exact le hown2 a _
 rw[World.frozen?_setCell];exact(hk.frozen c rfl).trans h.free
theorem Wr.keep{w':World}{D:Nat->Prop}(h:Wr w base p bs)(hk:b_ D w w')(hD:∀b,base<=b->D b):Wr w' base p bs:=by
 obtain⟨A,c,hc,a,d⟩:=h.row
 exact⟨h.hp,⟨A,c,hk.Qb hc (hD _ h.hp),eP a hk (fun k e=>hD k (eW a k e).1),d⟩,(hk.frozen (p:=⟨p,0,none⟩) h.lt (hD _ h.hp)).trans h.free⟩
theorem gV(w:World):Calls prog 64 #[] w fun e w'=>(∃p,e=.returned (.pointer (some ⟨p,0,none⟩))/\Wr w' w.heap.size p [])/\New w w':=by
 go_in
 go_wp2
 go_ret
 refine⟨⟨_,rfl,zr,⟨none,0,?_,Own.nil _ _ _ _,by simp[blk]⟩,lQ w _ _ _⟩,(zN w).alloc _⟩
 exact cell_of_row _ _ _ _ _ (0,0) (heap_alloc_new w _)
theorem iy(base p:Nat)(D:Nat->Prop)(A:Option Addr)(n c:Nat)(bs bs2:List UInt8)(w:World)(hW:Wr w base p bs)(hB:Bs w D A n bs2)(hn:bs.length+n<=1099511627776):
  Calls prog 66 #[.pointer (some ⟨p,0,none⟩),.slice A n c] w fun e w'=>e=.returned (.tuple #[])/\Wr w' base p (bs++bs2)/\b_ (fun b=>b<base) w w':=by
 obtain⟨A1,c1,hc,f,j⟩:=hW.row
 have hf:=hW.free
 have l:=hW.hp
 have g:=hW.lt
 have h:=Ne.symm j
 have o:base<=w.heap.size:=Nat.le_trans l (Nat.le_of_lt g)
 have q:bs.length+n<=140737488355328:=by omega
 have r:=zh hW
 clear hW
 go_in
 go_wp2_with (at_builtin;refine fK _ rfl (.tmp 8) (.tmp 9) rfl base A1 bs.length c1 bs rfl f D A n c bs2 rfl hB q o ?_;intro u c2 s i d m;have t:=d.cell (a:=⟨p,0,none⟩) hc h;have v:=(d.frozen_far ⟨p,0,none⟩ g h).trans hf)
 go_end0
 exact⟨rfl,r.put i d m j ⟨_,t⟩,((b_.refl (fun b=>b<base) w).grown (w':=s) d (fun k hk hd=>absurd hd (by have:=eW f k hk;omega))).setCell (p:=⟨p,0,none⟩) (fun hb=>absurd hb (Nat.not_lt.2 l)) _⟩
theorem iI(base p:Nat)(bs:List UInt8)(w:World)(hW:Wr w base p bs)(hn:bs.length<=1099511627776):
  Calls prog 68 #[.pointer (some ⟨p,0,none⟩)] w fun e w'=>(∃A' c',e=.returned (.slice A' bs.length c')/\fy w' w.heap.size 5 A' bs.length c' bs)/\New w w':=by
 obtain⟨A1,c1,hc,c,f⟩:=hW.row
 go_in
 go_wp2_with fail
 refine(ik (fun b=>base<=b) A1 _ c1 bs w (Row.Qc c) zo).mono ?_
 rintro e g⟨⟨h,c2,rfl,a⟩,d⟩
 go_wp2
 go_ret
 exact⟨⟨_,_,rfl,a⟩,d⟩
def beI(s:Nat)(n:Int):List UInt8:=(List.range s).map fun i=>UInt8.ofNat (n/2^(8*(s-1-i))%256).toNat
theorem dL(s:Nat)(n:Int):(beI s n).length=s:=by simp[beI]
theorem uw(s k:Nat)(n:Int)(hk:k<s):(beI s n).take (s-k)=(beI s n).take (s-(k+1))++[UInt8.ofNat (n/2^(8*k)%256).toNat]:=by
 have e:s-k=(s-(k+1))+1:=by omega
 rw[e,List.take_succ_eq_append_getElem (by rw[dL];omega)]
 congr 2
 unfold beI
 rw[List.getElem_map,List.getElem_range,show s-1-(s-(k+1))=k from by omega]
theorem kU(x:Int):eE (UInt8.ofNat (x%256).toNat)=.int .u8 (x%256):=by
 unfold eE bv
 have h:=Int.emod_nonneg x (by decide:(256:Int)≠0)
 have h2:=Int.emod_lt_of_pos x (by decide:(0:Int)<256)
 rw[UInt8.toNat_ofNat_of_lt' (by show(x%256).toNat<256;omega)]
 congr 1
 omega
theorem iU(x:Int):0<=IntKind.u64.wrap x/\IntKind.u64.wrap x<=18446744073709551615:=by
 rw[IntKind.wrap_u64]
 exact⟨Int.emod_nonneg _ Zd,by have:=Int.emod_lt_of_pos x (by decide:(0:Int)<18446744073709551616);omega⟩
theorem lu(s:Nat)(x:Int)(hs:s<=8):beI s (IntKind.u64.wrap x)=beI s x:=by
 rw[IntKind.wrap_u64]
 unfold beI
 refine List.map_congr_left fun i hi=>?_
 have a:i<s:=List.mem_range.1 hi
 congr 2
 have e:(18446744073709551616:Int)=2^(8*(s-1-i))*(256*2^(8*(7-(s-1-i)))):=by
  rw[show(256:Int)=2^8 from rfl,<- Int.pow_add,<- Int.pow_add,show 8*(s-1-i)+(8+8*(7-(s-1-i)))=64 from by omega];rfl
 rw[e]
 have hA:(2:Int)^(8*(s-1-i))≠0:=Int.ne_of_gt (Int.pow_pos Zd)
 generalize (2:Int)^(8*(s-1-i))=A at *
 generalize (2:Int)^(8*(7-(s-1-i)))=B
 conv=>rhs;rw[<- Int.emod_add_mul_ediv x (A*(256*B)),Int.mul_assoc A,Int.mul_assoc 256,Int.add_mul_ediv_left _ _ hA,Int.add_mul_emod_self_left]
theorem wH(base p s:Nat)(bs:List UInt8)(x si:Int)(w:World)(hW:Wr w base p bs)(_hx0:0<=x)(_hx1:x<=18446744073709551615)(hsi:si=s)(hs:s<=8)(hn:bs.length<=1099511627776):
  Calls prog 160 #[.pointer (some ⟨p,0,none⟩),.int .u64 x,.int .i64 si] w fun e w'=>e=.returned (.tuple #[])/\Wr w' base p (bs++beI s x)/\b_ (fun b=>b<base) w w':=by
 subst hsi
 go_in
 go_wp2_with fail
 go_loopw [6] (fun i A=>∃k:Nat,k<=s/\i=.int .i64 ((k:Int)-1)/\Wr A base p (bs++(beI s x).take (s-k))/\b_ (fun b=>b<base) w A) (fun i _=>(intOf i+1).toNat)
 case atStart=>exact⟨s,zr,rfl,by simpa using hW,b_.refl _ _⟩
 clear hW
 obtain⟨k,hk,rfl,hW,y⟩:=hrel
 rcases k with _|k
 ·rw[show(((0:Nat):Int)-1) = -1 from rfl]
  rw[Nat.sub_zero,List.take_of_length_le (by rw[dL];exact Nat.le_refl _)] at hW
  go_wp2_with fail
  go_end0
  exact⟨rfl,hW,y⟩
 rw[show(((k+1:Nat):Int)-1)=(k:Int) from by omega]
 have B:=zh<|uw s k x zo
 have N:k<8:=by omega
 have C:(List.take (s-(k+1)) (beI s x)).length<=8:=Nat.le_trans (List.length_take_le _ _) zo
 generalize List.take (s-(k+1)) (beI s x)=o at hW B C
 obtain⟨A1,c1,hc,f,q⟩:=hW.row
 have hf:=hW.free
 have r:=hW.hp
 have d:=hW.lt
 have l:=Ne.symm q
 have D:base<=wr.heap.size:=Nat.le_trans r (Nat.le_of_lt d)
 have E:(bs++o).length+1<=140737488355328:=by rw[zL];omega
 have F:=zh hW
 clear hW
 generalize (bs++o).length=m at *
 have O:IntKind.i64.wrap (8*(k:Int))=8*(k:Int):=IntWalk.i64_in _ zo
 have t:=oa wr 5 _ (.int .u8 (IntKind.u8.wrap (x/2^(8*k)))) ((kU (x/2^(8*k))).trans (by rw[IntKind.wrap_u8]))
 have u:=(World.cell?_alloc_lt wr (.cells #[.int .u8 (IntKind.u8.wrap (x/2^(8*k)))] 5) ⟨p,0,none⟩ d).trans hc
 have v:=(((zN wr).alloc (.cells #[.int .u8 (IntKind.u8.wrap (x/2^(8*k)))] 5)).frozen (p:=⟨p,0,none⟩) d zt).trans hf
 have z:p<(wr.alloc (.cells #[.int .u8 (IntKind.u8.wrap (x/2^(8*k)))] 5)).heap.size:=Nat.lt_of_lt_of_le d (by simp)
 have h:=f.alloc (.cells #[.int .u8 (IntKind.u8.wrap (x/2^(8*k)))] 5)
 have P:(8*(k:Int)).toNat=8*k:=by omega
 have Q:0<=8*(k:Int):=zo
 go_wp2_with fail
 go_region_law (refine nF _ rfl (.tmp 17) (.tmp 23) rfl base A1 m c1 _ (by simp[Act.eval]) h (fun g=>wr.heap.size<=g) _ 1 1 _ (by simp[Act.eval]) t E (Nat.le_trans D (by simp)) ?_;intro J K L j c n;have G:=c.cell (a:=⟨p,0,none⟩) u l;have M:=(c.frozen_far ⟨p,0,none⟩ z l).trans v)
 all_goals
  replace c:=wk c
  have H:=(F.keep ((zN wr).alloc (.cells #[.int .u8 (IntKind.u8.wrap (x/2^(8*k)))] 5)) (fun _ _=>zt)).put j c n q ⟨_,G⟩
  have I:b_ (fun b=>b<base) w (L.setCell ⟨p,0,none⟩ (.slice J (m+1) K)):=((y.alloc (.cells #[.int .u8 (IntKind.u8.wrap (x/2^(8*k)))] 5)).grown c (fun k hk hd=>absurd hd (by have:=eW f k hk;omega))).setCell (p:=⟨p,0,none⟩) (fun hb=>absurd hb (Nat.not_lt.2 r)) _
  clear j c n G M y f h u v t hc F
  go_wp2
  go_roundw
  case rel=>exact⟨k,zo,rfl,by rw[B.out,<- List.append_assoc];exact H,I⟩
  simp[intOf]
theorem mg(base p:Nat)(bs:List UInt8)(x:Int)(w:World)(hW:Wr w base p bs)(hn:bs.length<=1099511627776):
  Calls prog 97 #[.pointer (some ⟨p,0,none⟩),.int .i64 x] w fun e w'=>e=.returned (.tuple #[])/\Wr w' base p (bs++beI 1 x)/\b_ (fun b=>b<base) w w':=by
 have c:=iU x
 have he:=zh<|lu 1 x Zd
 go_in
 go_wp2_with fail
 refine(wH base p 1 bs _ _ w hW c.1 c.2 rfl Zd hn).mono ?_
 rintro e f⟨rfl,a,d⟩
 rw[he.out] at a
 go_wp2_with fail
 go_end0
 exact⟨rfl,a,d⟩
theorem fR(base p:Nat)(bs:List UInt8)(x:Int)(w:World)(hW:Wr w base p bs)(hn:bs.length<=1099511627776):
  Calls prog 99 #[.pointer (some ⟨p,0,none⟩),.int .i64 x] w fun e w'=>e=.returned (.tuple #[])/\Wr w' base p (bs++beI 2 x)/\b_ (fun b=>b<base) w w':=by
 have c:=iU x
 have he:=zh<|lu 2 x Zd
 go_in
 go_wp2_with fail
 refine(wH base p 2 bs _ _ w hW c.1 c.2 rfl Zd hn).mono ?_
 rintro e f⟨rfl,a,d⟩
 rw[he.out] at a
 go_wp2_with fail
 go_end0
 exact⟨rfl,a,d⟩
theorem jw(base p:Nat)(bs:List UInt8)(x:Int)(w:World)(hW:Wr w base p bs)(hx0:0<=x)(hx1:x<=18446744073709551615)(hn:bs.length<=1099511627776):
  Calls prog 65 #[.pointer (some ⟨p,0,none⟩),.int .u64 x] w fun e w'=>e=.returned (.tuple #[])/\Wr w' base p (bs++beI 8 x)/\b_ (fun b=>b<base) w w':=by
 go_in
 go_wp2_with fail
 refine(wH base p 8 bs _ _ w hW hx0 hx1 rfl Zd hn).mono ?_
 rintro e d⟨rfl,a,c⟩
 go_wp2_with fail
 go_end0
 exact⟨rfl,a,c⟩
def dU(bs:List UInt8):List UInt8:=beI 2 (min bs.length 65535:Nat)++bs.take 65535
theorem mW(bs:List UInt8)(h:65535<bs.length):dU bs=beI 2 65535++bs.take 65535:=by
 unfold dU
 have e:((min bs.length 65535:Nat):Int)=65535:=by omega
 rw[e]
theorem sW(base p:Nat)(D:Nat->Prop)(A:Option Addr)(n c:Nat)(bs bs2:List UInt8)(w:World)(hW:Wr w base p bs)(hB:Bs w D A n bs2)(hD:∀b,D b->b<base)(hnc:n<=c)(hc:n<=9223372036854775807)(hn:bs.length+65537<=1099511627776):
  Calls prog 98 #[.pointer (some ⟨p,0,none⟩),.slice A n c] w fun e w'=>e=.returned (.tuple #[])/\Wr w' base p (bs++dU bs2)/\b_ (fun b=>b<base) w w':=by
 have hl:=hB.len
 have j:bs.length<=1099511627776:=by omega
 by_cases q:65535<n
 ·have k:(65535:Int)<n:=by omega
  have hm:=Bs.Qk hB (hi:=65535) zo
  have l:Hid (dU bs2=beI 2 65535++bs2.take 65535):=zh (mW bs2 zo)
  have d:(bs++beI 2 65535).length+65535<=1099511627776:=by rw[zL,dL];omega
  clear hl hB
  go_in
  go_wp2_with fail
  refine(fR base p bs 65535 w hW j).mono ?_
  rintro e m⟨rfl,f,a⟩
  go_wp2_with fail
  refine(iy base p D A 65535 c _ _ m f (hm.keep a (fun b _ h=>hD b h)) d).mono ?_
  rintro e o⟨rfl,g,i⟩
  go_wp2_with fail
  go_end0
  exact⟨rfl,by rw[l.out,<- List.append_assoc];exact g,a.trans i⟩
 have k:¬(65535:Int)<n:=by omega
 have l:Hid (dU bs2=beI 2 (n:Int)++bs2):=zh (by unfold dU;rw[hl,Nat.min_eq_left zo,List.take_of_length_le zo])
 have d:(bs++beI 2 (n:Int)).length+n<=1099511627776:=by rw[zL,dL];omega
 clear hl
 go_in
 go_wp2_with fail
 refine(fR base p bs n w hW j).mono ?_
 rintro e m⟨rfl,f,a⟩
 go_wp2_with fail
 refine(iy base p D A n c _ _ m f (hB.keep a (fun b _ h=>hD b h)) d).mono ?_
 rintro e o⟨rfl,g,i⟩
 go_wp2_with fail
 go_end0
 exact⟨rfl,by rw[l.out,<- List.append_assoc];exact g,a.trans i⟩
