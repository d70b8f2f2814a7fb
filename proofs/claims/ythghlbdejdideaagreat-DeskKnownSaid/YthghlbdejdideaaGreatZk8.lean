/-
  Texts of mine, put together by program (wip/slim.py), for law_deskKnown: part 8.
-/
import Derived.Test.YthghlbdejdideaaGreatZk7
import Derived.Test.YthghlbdejdideaaGreatProg
set_option linter.unusedVariables false
set_option linter.unusedSimpArgs false
set_option linter.defProp false
set_option maxRecDepth 100000
/- FnK0 -/
namespace Go.Ax
open Go.Proofs
def zgp:TypeId:=3
def zaw:TypeId:=5
def zqz:TypeId:=22
def zbO:TypeId:=31
def zbA:TypeId:=33
def zbp:TypeId:=36
def zzk:TypeId:=44
def zfn:TypeId:=49
def zfo:TypeId:=57
def zev:TypeId:=69
def zaG:TypeId:=71
def zag:TypeId:=126
def ziV:TypeId:=128
def zAU:TypeId:=140
def zzl:TypeId:=202
def zxS:TypeId:=211
def zok:TypeId:=213
def zxT:TypeId:=214
def zbc:TypeId:=221
def zbP:TypeId:=223
def zlg:TypeId:=225
def zbU:TypeId:=229
def zwa:TypeId:=249
def zdO:TypeId:=264
def ziW:TypeId:=265
def zAT:TypeId:=268
def zaF:TypeId:=305
def zmy:TypeId:=308
def zv9:TypeId:=322
def zd6:TypeId:=389
def zvb:TypeId:=394
def zam:TypeId:=398
def zqk:TypeId:=417
def zxR:TypeId:=470
def zxU:TypeId:=484
def zj0:TypeId:=506
def zAS:TypeId:=508
def zhg:TypeId:=523
def zk5:TypeId:=524
def zaR:FuncId:=10
def zgH:FuncId:=15
def zc7:FuncId:=48
def zcf:FuncId:=49
def zbG:FuncId:=16
def zau:FuncId:=19
def zfD:FuncId:=50
def zbW:FuncId:=51
def zaE:FuncId:=85
def zbu:FuncId:=130
def zb7:FuncId:=86
def zeH:FuncId:=131
def zb4:FuncId:=82
def zdQ:FuncId:=128
def zeF:FuncId:=129
def zb9:FuncId:=87
def zfU:FuncId:=132
def zdR:FuncId:=200
def zer:FuncId:=46
def zcA:FuncId:=83
def zcZ:FuncId:=84
def ziu:FuncId:=88
def zcg:FuncId:=89
def zfR:FuncId:=133
def zeX:FuncId:=201
def zfz:FuncId:=278
def zaN:FuncId:=150
def zaj:FuncId:=279
def zay:FuncId:=280
def zbx:FuncId:=281
def zce:FuncId:=282
def zcM:FuncId:=134
def zbI:FuncId:=202
def zbH:FuncId:=68
def zda:FuncId:=203
def zgX:FuncId:=283
def zdE:FuncId:=284
def zdo:FuncId:=318
def zc6:FuncId:=354
def zat:FuncId:=353
def zbJ:FuncId:=147
def zbk:FuncId:=236
def zcr:FuncId:=135
def zca:FuncId:=204
def zb6:FuncId:=285
def zfZ:FuncId:=335
def zes:FuncId:=336
def zc5:FuncId:=337
def zbX:FuncId:=348
def zc9:FuncId:=286
def zby:FuncId:=148
def zfS:FuncId:=237
def zak:FuncId:=320
def zan:FuncId:=355
def zee:FuncId:=321
def zgY:FuncId:=322
def zgV:FuncId:=357
def zfQ:FuncId:=356
def zal:FuncId:=358
def zas:FuncId:=364
def zeY:FuncId:=359
def zgU:FuncId:=323
def zbn:FuncId:=324
def zdX:FuncId:=360
def zgW:FuncId:=137
def zb5:FuncId:=208
def zdf:FuncId:=136
def ze0:FuncId:=206
def zdH:FuncId:=205
def ziy:FuncId:=287
def zb8:FuncId:=207
def zcq:FuncId:=90
def zgT:FuncId:=138
def zec:FuncId:=209
def zdD:FuncId:=210
def zir:FuncId:=288
def zeW:FuncId:=338
def zbR:FuncId:=139
def zeh:FuncId:=140
def zdY:FuncId:=211
def zcR:FuncId:=212
def zg5:FuncId:=141
def zgF:FuncId:=142
def zkp:FuncId:=213
def zis:FuncId:=290
def zav:FuncId:=289
def zei:FuncId:=143
def zg7:FuncId:=214
def zaq:FuncId:=215
def zaf:FuncId:=216
def zbz:FuncId:=291
def zbT:FuncId:=224
def zbb:FuncId:=217
def zba:FuncId:=292
def zaM:FuncId:=221
def za1:FuncId:=222
def zbN:FuncId:=293
def zbS:FuncId:=294
def zbY:FuncId:=339
def zf0:FuncId:=362
def zcv:FuncId:=295
def zcB:FuncId:=218
def za4:FuncId:=296
def zcN:FuncId:=341
def zaT:FuncId:=340
def za5:FuncId:=363
def zdJ:FuncId:=297
def ze2:FuncId:=342
def zdN:FuncId:=299
def zbw:FuncId:=300
def zdr:FuncId:=310
def zae:FuncId:=298
def zah:FuncId:=343
def zcE:FuncId:=219
def zcc:FuncId:=220
def zdK:FuncId:=301
def zaZ:FuncId:=344
def zch:FuncId:=223
def zfA:FuncId:=144
def zaA:FuncId:=225
def zaV:FuncId:=302
def zcL:FuncId:=91
def zgG:FuncId:=145
def zaX:FuncId:=226
def zaO:FuncId:=227
def zcI:FuncId:=146
def zfy:FuncId:=228
def zit:FuncId:=303
def zfP:FuncId:=346
def zeV:FuncId:=347
def zax:FuncId:=345
def zgS:FuncId:=305
def zeb:FuncId:=304
def zed:FuncId:=306
def ze3:FuncId:=229
def zg6:FuncId:=307
def ze1:FuncId:=308
def zaY:FuncId:=309
def zcp:FuncId:=230
def zj9:FuncId:=311
def zcH:FuncId:=312
def zfL:FuncId:=313
def zfK:FuncId:=349
def zdG:FuncId:=231
def zg4:FuncId:=314
def zdM:FuncId:=350
def zj7:FuncId:=315
def ziw:FuncId:=316
def ziq:FuncId:=232
def zdL:FuncId:=234
def zj6:FuncId:=233
def zfO:FuncId:=317
def zaW:FuncId:=351
def zaP:FuncId:=352
def zdF:FuncId:=235
def zao:FuncId:=319
def zdg:FuncId:=52
def zfX:FuncId:=92
def zeg:FuncId:=149
def zfB:FuncId:=151
def zj8:FuncId:=238
def zb1:FuncId:=239
def zef:FuncId:=240
def zdq:FuncId:=93
def zbg:FuncId:=152
def zfY:FuncId:=241
def zdh:FuncId:=94
def zg1:FuncId:=153
def zfN:FuncId:=242
def za2:FuncId:=325
def zfW:FuncId:=243
def zeI:FuncId:=326
def zc4:FuncId:=154
def zdp:FuncId:=244
def zci:FuncId:=155
def zde:FuncId:=95
def zfT:FuncId:=156
def zc3:FuncId:=163
def zeG:FuncId:=246
def zfM:FuncId:=327
def zeZ:FuncId:=251
def zbV:FuncId:=97
def za6:FuncId:=164
def zg0:FuncId:=157
def zeU:FuncId:=245
def zdb:FuncId:=158
def zdc:FuncId:=159
def zdi:FuncId:=247
def zcs:FuncId:=329
def zaD:FuncId:=328
def zaS:FuncId:=330
def zix:FuncId:=248
def ziv:FuncId:=331
def zcJ:FuncId:=249
def zdI:FuncId:=160
def zg2:FuncId:=161
def zg3:FuncId:=250
def zdd:FuncId:=53
def zgZ:FuncId:=96
def zfV:FuncId:=162
def zcK:FuncId:=54
def za9:FuncId:=98
def zbM:FuncId:=24
def zc8:FuncId:=58
def zbi:FuncId:=101
def zaH:FuncId:=27
def zbF:FuncId:=62
def zbo:FuncId:=61
def zbv:FuncId:=102
def zaJ:FuncId:=103
def zaC:FuncId:=104
def zbE:FuncId:=105
def zbq:FuncId:=66
def zct:FuncId:=18
def zcb:FuncId:=25
def zbj:FuncId:=59
def zaK:FuncId:=26
def za0:FuncId:=60
def zbe:FuncId:=17
def zcu:FuncId:=32
def zfC:FuncId:=67
def hintRows:List (Nat × List (List Nat)):=[
 (zaR,[[],[12],[]]),
 (zgH,[[],[6],[],[0,1,3,4,2,5,6]]),
 (zc7,[]),
 (zcf,[]),
 (zbG,[]),
 (zau,[[],[],[],[],[0,1,2,3,4,5,6,7,8,9,10,11,12]]),
 (zfD,[]),
 (zbW,[]),
 (zaE,[[]]),
 (zbu,[]),
 (zb7,[[],[10],[]]),
 (zeH,[]),
 (zb4,[[],[9],[]]),
 (zdQ,[[],[10],[]]),
 (zeF,[]),
 (zb9,[[0,1,2,3,4,5,6,7,8,9,10,11,12,14,15,16,13]]),
 (zfU,[]),
 (zdR,[]),
 (zer,[[],[19],[],[0,1,2,3,4,5,6,7,8,9,10,11,12,13,14,15,16,17,18,19,20,21,22,23,24,25,26,27,28,29,30,31,32]]),
 (zcA,[]),
 (zcZ,[[3],[3,11],[3],[3]]),
 (ziu,[]),
 (zcg,[[],[30],[],[],[],[],[],[],[56],[],[],[],[72],[]]),
 (zfR,[[4],[0,4],[0,4],[0,1,2,3,4,5,6,7,8,9,10,11,12,13,14,16,17,15,18],[0,1,2,3,4,5,6,7,8,9,10,11,12],[]]),
 (zeX,[[0,1,2,3,4,5,6,7,8,9,10,11,12,13,14,15],[],[],[]]),
 (zfz,[[]]),
 (zaN,[]),
 (zaj,[]),
 (zay,[[5],[5,28],[5]]),
 (zbx,[[5],[5,8],[5]]),
 (zce,[[],[],[],[4],[],[0,1,2,3,4,5,8,6,9,7,10,11,12,13,14,15,16],[],[],[5],[],[],[0,1,2,3,4,5,7,6,8,9,10,11,12,13,14,15],[],[],[94],[],[0,1,2,3,4,5,6,7,8,9,10,11]]),
 (zcM,[[],[39],[],[0,1,2,3,4,5,6,7,8,9,12,10,11]]),
 (zbI,[[],[16],[]]),
 (zbH,[]),
 (zda,[[5],[5,13],[5],[5]]),
 (zgX,[[3],[3,9],[3],[3],[3,18],[3],[3]]),
 (zdE,[]),
 (zdo,[]),
 (zc6,[]),
 (zat,[[],[8],[]]),
 (zbJ,[[],[0,1,2,3,4,5,6,7,8,9,10,11,12]]),
 (zbk,[[0,1,2,3,4,5,6,7,8,9,10],[0,1,2,3,4,5,6,7,8,9]]),
 (zcr,[]),
 (zca,[[],[9,10]]),
 (zb6,[]),
 (zfZ,[]),
 (zes,[]),
 (zc5,[]),
 (zbX,[]),
 (zc9,[[0,1,2,3,4,5,6,7,8,9,10,11]]),
 (zby,[]),
 (zfS,[[4],[4,19],[4]]),
 (zak,[]),
 (zan,[[],[8],[]]),
 (zee,[]),
 (zgY,[[],[20],[0,1,2,3,4,5,6,7,8,9,10,11,12,13,14]]),
 (zgV,[[],[],[0,1,2,3,4,5,6,7,8,9,10,11,12,13,14,15,16,17,18,19],[],[],[0,1,2,3,4,5,6,7],[],[],[0,1,2,3,4,5,6,7],[],[0,1,2,3,4,5,6,7,8,9,10,11,12,13,14,15],[0,1,2,3,4,5,6,7,8,9,10,11]]),
 (zfQ,[]),
 (zal,[]),
 (zas,[[],[8],[]]),
 (zeY,[]),
 (zgU,[[2],[2],[2,78],[2],[0,1,2,3,5,6,7,4,8,9],[2],[2,98],[2],[0,1,2,3,5,6,4,7,8,9],[2],[2,136],[2],[0,2,3,4,5,1,6,7,8],[2],[0,1,2,4,5,6,3,7,8,9],[2],[2,33],[2],[0,1,2,4,5,6,3,7,8,9],[0,1,2,3,4,5,6,7,8]]),
 (zbn,[[0],[0,7],[0]]),
 (zdX,[[0],[0,11],[0],[0],[0,40],[0]]),
 (zgW,[[],[0,1,2,3,4,5,6,7,8]]),
 (zb5,[[0,2],[0,2],[0,2]]),
 (zdf,[[0,1,2,3,4,5,6,7,8,9,10,11],[12],[12,35],[12],[]]),
 (ze0,[[5,6],[5,6,11],[5,6],[5],[6]]),
 (zdH,[]),
 (ziy,[]),
 (zb8,[[]]),
 (zcq,[]),
 (zgT,[[],[5],[],[6],[],[0,1,2,3,4,5,6,7,8,9,10,11],[0,1,2,3,4,5,6,7,8,9,10,11,14,15,17,18,12,16,19,13,20,21,22],[]]),
 (zec,[[3],[3,8],[3]]),
 (zdD,[[0,1,2,3,4,5,6,7,8,9,10,11,12]]),
 (zir,[[6],[1,6],[1,6]]),
 (zeW,[[8,9],[9]]),
 (zbR,[[],[16],[]]),
 (zeh,[[0,1,2,3,4,5,6,7,8,9]]),
 (zdY,[]),
 (zcR,[[6],[6,16],[6]]),
 (zg5,[]),
 (zgF,[]),
 (zkp,[]),
 (zis,[]),
 (zav,[[],[8],[]]),
 (zei,[[0,1,2,3,4,5,6],[],[],[],[],[],[],[],[0,1,2,3,4,5,6,7,8,9,10,11],[],[],[],[0,1,2,3,4,5,6],[],[]]),
 (zg7,[]),
 (zaq,[]),
 (zaf,[]),
 (zbz,[[6],[6,20],[6],[0,1,2,3,4,5,6,7,8,9,10,11,12,13,14,15,16,17,18,19,20,21,22,23],[]]),
 (zbT,[[0,1,2,3,4,5,6,7,8,9,10,11]]),
 (zbb,[[],[],[89],[],[0,1,2,5,3,6,4,7,8,9,10,11,12],[],[],[72],[],[0,1,2,3,4,5,6,7,8,9],[],[57],[],[0,1,2,3,4,5,6,7,8,9],[],[35],[],[0,1,2,3,4,5,6,7],[],[19],[],[0,1,2,3,4,5,6,7,8,9]]),
 (zba,[[3],[3],[3],[],[],[],[],[0,1,2,3,4,5,6,7,8,9,10,11,12,13,14,15,16]]),
 (zaM,[[]]),
 (za1,[[7],[7,9],[7]]),
 (zbN,[[3],[3],[3]]),
 (zbS,[]),
 (zbY,[]),
 (zf0,[[0,1,2,3,4,5,6]]),
 (zcv,[[3],[3,9],[3]]),
 (zcB,[[],[71],[],[3]]),
 (za4,[]),
 (zcN,[]),
 (zaT,[]),
 (za5,[[],[8],[]]),
 (zdJ,[[],[12],[]]),
 (ze2,[[]]),
 (zdN,[]),
 (zbw,[]),
 (zdr,[]),
 (zae,[]),
 (zah,[[],[8],[]]),
 (zcE,[]),
 (zcc,[]),
 (zdK,[[0,1,3,4,6,7,2,5,8,9,10,11,12,13,14]]),
 (zaZ,[]),
 (zch,[[3],[3,4],[3]]),
 (zfA,[]),
 (zaA,[]),
 (zaV,[[],[8],[]]),
 (zcL,[[],[61],[],[],[],[],[0,1,2,3,4,5,6,7,8,9,10,11],[],[0,1,2,3,4,5,6,7],[0,1,2,3,4,5,6,7,8,9,10,11,12,13,14,15,16,17,18,19,20,21,23,24,22,25],[0,1,2,3,4,5,6,7,8,9,10,11,12,13],[],[],[0,1,2,3,4,5,6,7,8,9,10,11],[0,1,2,3,4,5,6,7,8]]),
 (zgG,[[6],[6,7],[6],[6]]),
 (zaX,[]),
 (zaO,[[],[2,3],[],[0,1,2,3,4,5,6,7,8,9,10,11,12,13,14,15]]),
 (zcI,[[0,1,2,3,4,5,6,7,8,9,10,11],[0,1,2,3,4,5,6,8,7],[0,1,2,3,4,5,6,7,8,9,10,11,15,16,12,13,14,17,18,19],[],[0,1,2,3,4,5,6,7,8,9,10]]),
 (zfy,[[4],[4],[4],[4,27],[4],[0,1,2,4,5,3,6,7],[0,2,3,4,1,5,6]]),
 (zit,[[]]),
 (zfP,[]),
 (zeV,[]),
 (zax,[]),
 (zgS,[[4],[3],[3],[0,1,2,3,4,5,6,7,8,9]]),
 (zeb,[[0],[0,7],[0]]),
 (zed,[[3],[3],[3],[3],[3,9],[3],[3]]),
 (ze3,[[]]),
 (zg6,[]),
 (ze1,[]),
 (zaY,[[],[13],[],[0,1,2,3,4,5,6,7,8]]),
 (zcp,[[],[0,1,2,3,4,5,6,7,8,9,10,11,12,13],[]]),
 (zj9,[[0,1,2,3,4,5,6],[]]),
 (zcH,[]),
 (zfL,[[],[0,1,2,3,4,8,5,6,7,9,10,11]]),
 (zfK,[]),
 (zdG,[[],[0,1,2,3,4,5,6,7,8,9,10,11,12,13],[0,1,2,3,4,5,6,7,8,9,10,11,12,13,14],[0,1,2,3,4,5,6,7,8,9,10,11,12,13,14,15]]),
 (zg4,[[10,13],[10,11,12,13,23],[10,11,12,13],[10,11,12,13]]),
 (zdM,[[4,5,6],[4,5,6,25],[4,5,6],[4,5,6],[0,1,2,3,4,5,6,7,8,9,10]]),
 (zj7,[]),
 (ziw,[[],[11],[]]),
 (ziq,[[],[],[0,1,2,3,4,5,6,7,8,9],[9]]),
 (zdL,[[]]),
 (zj6,[[0,1,2,3,4,5,6,7]]),
 (zfO,[[],[19],[],[0,1,2,3,4,5,6,7,8,9,10,11,12],[0,1,3,4,6,7,2,5,8,9,10,11,12,13,14]]),
 (zaW,[]),
 (zaP,[]),
 (zdF,[[],[0,1,2,3,4,5,6,7,8,9,10,11,12,13],[]]),
 (zao,[[0,1,2,3,4,5,6,7]]),
 (zdg,[[],[7],[7],[7],[7],[],[7]]),
 (zfX,[[],[0,2,3,1,4,5],[0,1,2,3,4,5,6,7,8,9,10,11,12,14,16,13,15,17,18,19,20]]),
 (zeg,[[0,1,2,3,4,5,6,7,8,9,10,11,12,13]]),
 (zfB,[[]]),
 (zj8,[[],[27],[23],[13],[8],[8]]),
 (zb1,[]),
 (zef,[[],[9],[]]),
 (zdq,[]),
 (zbg,[[]]),
 (zfY,[[4],[4,31],[4]]),
 (zdh,[[0,1,2,3,4,5,6,7,8,9,11,10,12,13],[12],[12,48],[12],[12],[0,1,2,3,4,5,6,7,8,9,10,11,14,15,12,13,16,17],[0,1,2,3,4,5,6]]),
 (zg1,[[0,1,2,3,4,5,6,8,7,9,10],[0,1,2,3,4,5],[]]),
 (zfN,[]),
 (za2,[[],[8],[]]),
 (zfW,[[0,1,2,3,4,5,6],[]]),
 (zeI,[]),
 (zc4,[]),
 (zdp,[]),
 (zci,[[],[16],[],[],[0,1,2,3,4,5,6,7,8,9,10]]),
 (zde,[[11],[11],[0,1,2,3,4,5,6,7,8,9,10,11,12,14,15,16,13,17],[11],[0,1,2,3,4,5,6,7,8,9,10,11,12,13,14,16,17,18,15,19],[11],[0,1,2,3,4,5,6,7,8],[0,1,2,3,4,5,6,7,8,9],[11],[],[0,1,2,3,4,5,6,7,8,9,10,13,14,15,11,12,16,17],[0,1,2,3,4,5,6,7,8,9,10,11,12,13,14,15]]),
 (zfT,[]),
 (zc3,[[0,1,2,3,5,4,6,7,8,10,11,9,12]]),
 (zeG,[[]]),
 (zfM,[]),
 (zeZ,[[]]),
 (zbV,[[],[88],[],[0,1,2,3,4,6,7,8,9,10,5,11,12,13],[],[41],[],[],[45],[],[0,1,2,3,4,5,6,7,8,9,11,12,13,10,14,15],[6],[6,18],[6],[6]]),
 (za6,[]),
 (zg0,[]),
 (zeU,[]),
 (zdb,[[],[0,1,2,3,4,5,6,7,8],[0,1,2,3,4,5,6,7,8,9,10,11,12,13,14,15,16,17,18,19,20,21,22,23,24,25,26]]),
 (zdc,[[9],[0,1,2,3,4,5,6,7,8,9,10,11,12,13,14,15,16,17,18,19,20,21,22,23,24],[0,1,2,3,4,5,6,7,8,9],[0,1,2,3,4,5,6,7,8,9],[],[0,1,2,3,4,5,6,7,8,9,10]]),
 (zdi,[]),
 (zcs,[]),
 (zaD,[[],[8],[]]),
 (zaS,[[0,1,2,3,4,5,6,7]]),
 (zix,[]),
 (ziv,[]),
 (zcJ,[]),
 (zdI,[[0,1,2,3,4,5,6,7,8,9,10,11,12,13,14,15,16,17,18],[],[0,1,2,3,4,5,6,7,8,9,10,11,12,13,14,15,16],[0,1,2,3,4,5,6,7,8,9,10]]),
 (zg2,[]),
 (zg3,[[0,1,2,3,4,5,6],[]]),
 (zdd,[[],[15],[],[0,1,2,3,4,5,6,7,8,9,10,11,13,14,15,12]]),
 (zgZ,[[11],[11,71],[11],[11],[],[26],[],[],[0,1,2,3,4,5,6,7]]),
 (zfV,[]),
 (zcK,[[7],[7,11],[7]]),
 (za9,[]),
 (zbM,[]),
 (zc8,[]),
 (zbi,[]),
 (zaH,[]),
 (zbF,[[0,1,2,3,4,6,7,5,8,9,10]]),
 (zbo,[[],[139],[4]]),
 (zbv,[[],[20],[17],[10],[6],[6]]),
 (zaJ,[]),
 (zaC,[[],[5],[]]),
 (zbE,[[],[3],[]]),
 (zbq,[[7],[7,8],[7]]),
 (zct,[]),
 (zcb,[]),
 (zbj,[]),
 (zaK,[[],[0,1,2,3,4,5,6,7,8,9,10,11,12,14,16,13,15,17,18,19,20]]),
 (za0,[[0,1,2,3,4,5,6,7,8,9,10,11,12,13]]),
 (zbe,[[0,1,2,3,4,5,6,7,8,9,10,11,12,13,14,15,16]]),
 (zcu,[]),
 (zfC,[])]
def hintOf:List (Nat × List (List Nat)) → FuncId → List (List Nat)
 | [],_=>[]
 | (g,h) :: l,f=>if g = f then h else hintOf l f
noncomputable def T:FuncId → Option Fn':=table Tryz.prog (hintOf hintRows)
noncomputable def irOf (f:FuncId):Fn':=(T f).getD ⟨0,[], .bad⟩
theorem sound:zqj Tryz.prog (sem T):=sem_ok _ _
end Go.Ax
/- CiK1 -/
namespace Go.Ax.Cc
open Go.Proofs
def zj5 (G:Sem') (t1:V) (L:List V):M Res :=
 (M.lift (Ax.bin .lss (L.getD 0 .undef) (V.int .i64 16))).bind fun t73 =>
 M.ite t73
 (M.blk 1 (
 (M.lift (Ax.build [(V.int .i64 0),(V.int .i64 0),(V.int .i64 0),V.nils] [(0,1,(V.int .i64 4)),(2,1,(L.getD 0 .undef))])).bind fun t79 =>
 (G zau [t1,t79]).bind fun t80 =>
 (M.lift (Ax.ext 0 t80)).bind fun t81 =>
 (M.lift (Ax.ext 1 t80)).bind fun t82 =>
 (M.lift (Ax.bin .neq t82 (V.int .i64 0))).bind fun t84 =>
 M.ite t84
 (M.pure (.ret [(V.bool false)]))
 (M.pure (.nrm []))) fun _ =>
 (M.lift (Ax.bin .add (L.getD 0 .undef) (V.int .i64 1))).bind fun t75 =>
 M.pure (.nrm [t75]))
 (M.pure (.ex 0 []))
def zf6 (G:Sem'):M Res :=
 (G zgH []).bind fun t35 =>
 (G zbG []).bind fun t36 =>
 (M.lift (Ax.un .not t36)).bind fun t37 =>
 (guarded [(0,t37)] (some (0,false)) (M.pure t35)).bind fun t39 =>
 (guarded [(0,t37)] (some (0,false)) (M.lift (eqr .ptr false t39 V.nilp))).bind fun t40 =>
 (M.lift (Ax.pick t37 (V.bool true) t40)).bind fun t41 =>
 M.ite t41
 (M.pure (.ret [(V.bool false)]))
 ((M.lift (Ax.build [(V.int .i64 0),(V.int .i64 0),(V.int .i64 0),V.nils] [])).bind fun t44 =>
 (G zau [t35,t44]).bind fun t45 =>
 (M.lift (Ax.ext 0 t45)).bind fun t46 =>
 (M.lift (Ax.ext 1 t45)).bind fun t47 =>
 (M.lift (Ax.build [(V.int .i64 0),(V.int .i64 0),(V.int .i64 0),V.nils] [(0,1,(V.int .i64 1)),(1,1,(V.int .i64 64))])).bind fun t50 =>
 (G zau [t35,t50]).bind fun t51 =>
 (M.lift (Ax.ext 0 t51)).bind fun t52 =>
 (M.lift (Ax.ext 1 t51)).bind fun t53 =>
 (M.lift (Ax.build [(V.int .i64 0),(V.int .i64 0),(V.int .i64 0),V.nils] [(0,1,(V.int .i64 3)),(2,1,(V.int .i64 100001))])).bind fun t56 =>
 (G zau [t35,t56]).bind fun t57 =>
 (M.lift (Ax.ext 0 t57)).bind fun t58 =>
 (M.lift (Ax.ext 1 t57)).bind fun t59 =>
 (M.lift (Ax.build [(V.int .i64 0),(V.int .i64 0),(V.int .i64 0),V.nils] [(0,1,(V.int .i64 4)),(2,1,(V.int .i64 (-1)))])).bind fun t62 =>
 (G zau [t35,t62]).bind fun t63 =>
 (M.lift (Ax.ext 0 t63)).bind fun t64 =>
 (M.lift (Ax.ext 1 t63)).bind fun t65 =>
 (M.lift (Ax.build [(V.int .i64 0),(V.int .i64 0),(V.int .i64 0),V.nils] [(0,1,(V.int .i64 5)),(2,1,(V.int .i64 33))])).bind fun t68 =>
 (G zau [t35,t68]).bind fun t69 =>
 (M.lift (Ax.ext 0 t69)).bind fun t70 =>
 (M.lift (Ax.ext 1 t69)).bind fun t71 =>
 M.blk 0 (
 M.iter (zj5 G t35) [(V.int .i64 0)]) fun _ =>
 (M.lift (Ax.build [(V.int .i64 0),(V.int .i64 0),(V.int .i64 0),V.nils] [(0,1,(V.int .i64 4)),(2,1,(V.int .i64 99))])).bind fun t87 =>
 (G zau [t35,t87]).bind fun t88 =>
 (M.lift (Ax.ext 0 t88)).bind fun t89 =>
 (M.lift (Ax.ext 1 t88)).bind fun t90 =>
 (mslit zaw 1 [(V.int .u8 0)] [(0,1,(V.int .u8 9))]).bind fun t92 =>
 (M.lift (Ax.build [(V.int .i64 0),(V.int .i64 0),(V.int .i64 0),V.nils] [(0,1,(V.int .i64 2)),(1,1,(V.int .i64 7)),(3,1,t92)])).bind fun t93 =>
 (G zau [t35,t93]).bind fun t94 =>
 (M.lift (Ax.build [(V.int .i64 0),(V.int .i64 0),(V.int .i64 0),(V.int .i64 0),(V.int .i64 0),(V.int .i64 0),V.nils] [(0,1,(V.int .i64 9))])).bind fun t96 =>
 (G zaH [t96]).bind fun t97 =>
 (M.lift (Ax.build [(V.int .i64 0),(V.int .i64 0),(V.int .i64 0),V.nils] [(0,1,(V.int .i64 2)),(1,1,(V.int .i64 7)),(3,1,t97)])).bind fun t98 =>
 (G zau [t35,t98]).bind fun t99 =>
 (M.lift (Ax.build [(V.int .i64 0),(V.int .i64 0),(V.int .i64 0),(V.int .i64 0),(V.int .i64 0),(V.int .i64 0),V.nils] [(0,1,(V.int .i64 23))])).bind fun t101 =>
 (G zaH [t101]).bind fun t102 =>
 (M.lift (Ax.build [(V.int .i64 0),(V.int .i64 0),(V.int .i64 0),V.nils] [(0,1,(V.int .i64 2)),(1,1,(V.int .i64 7)),(3,1,t102)])).bind fun t103 =>
 (G zau [t35,t103]).bind fun t104 =>
 (M.lift (Ax.build [(V.int .i64 0),(V.int .i64 0),(V.int .i64 0),V.nils] [(0,1,(V.int .i64 5)),(1,1,(V.int .i64 7)),(2,1,(V.int .i64 32))])).bind fun t107 =>
 (G zau [t35,t107]).bind fun t108 =>
 (M.lift (Ax.ext 0 t108)).bind fun t109 =>
 (M.lift (Ax.ext 1 t108)).bind fun t110 =>
 (M.lift (vlen t109)).bind fun t112 =>
 (M.lift (Ax.bin .neq t112 (V.int .i64 3))).bind fun t113 =>
 M.ite t113
 (M.pure (.ret [(V.bool false)]))
 ((M.lift (Ax.iaddr none 3 t109 (V.int .i64 0))).bind fun t116 =>
 (M.lift (Ax.faddr 2 t116)).bind fun t117 =>
 (mload none t117).bind fun t118 =>
 (G zaK [t118]).bind fun t119 =>
 (M.lift (Ax.ext 0 t119)).bind fun t120 =>
 (M.lift (Ax.ext 1 t119)).bind fun t121 =>
 (mbox zaG (V.agg [(V.int .i64 0),(V.int .i64 0),(V.int .i64 0),(V.int .i64 0),(V.int .i64 0),(V.int .i64 0),V.nils])).bind fun t19 =>
 (mstore 7 t19 t120).bind fun _ =>
 (M.lift (Ax.iaddr none 3 t109 (V.int .i64 1))).bind fun t124 =>
 (M.lift (Ax.faddr 2 t124)).bind fun t125 =>
 (mload none t125).bind fun t126 =>
 (G zaK [t126]).bind fun t127 =>
 (M.lift (Ax.ext 0 t127)).bind fun t128 =>
 (M.lift (Ax.ext 1 t127)).bind fun t129 =>
 (mbox zaG (V.agg [(V.int .i64 0),(V.int .i64 0),(V.int .i64 0),(V.int .i64 0),(V.int .i64 0),(V.int .i64 0),V.nils])).bind fun t21 =>
 (mstore 7 t21 t128).bind fun _ =>
 (M.lift (Ax.iaddr none 3 t109 (V.int .i64 2))).bind fun t132 =>
 (M.lift (Ax.faddr 2 t132)).bind fun t133 =>
 (mload none t133).bind fun t134 =>
 (G zaK [t134]).bind fun t135 =>
 (M.lift (Ax.ext 0 t135)).bind fun t136 =>
 (M.lift (Ax.ext 1 t135)).bind fun t137 =>
 (mbox zaG (V.agg [(V.int .i64 0),(V.int .i64 0),(V.int .i64 0),(V.int .i64 0),(V.int .i64 0),(V.int .i64 0),V.nils])).bind fun t23 =>
 (mstore 7 t23 t136).bind fun _ =>
 (G zbe [t35,(V.int .i64 7),(V.int .i64 2)]).bind fun t140 =>
 (M.lift (Ax.ext 0 t140)).bind fun t141 =>
 (M.lift (Ax.ext 1 t140)).bind fun t142 =>
 (G zbe [t35,(V.int .i64 8),(V.int .i64 2)]).bind fun t145 =>
 (M.lift (Ax.ext 0 t145)).bind fun t146 =>
 (M.lift (Ax.ext 1 t145)).bind fun t147 =>
 (M.lift (Ax.build [(V.int .i64 0),(V.int .i64 0),(V.int .i64 0),(V.int .i64 0),(V.int .i64 0),(V.int .i64 0),V.nils] [(0,1,(V.int .i64 5)),(2,1,(V.int .i64 1)),(4,1,(V.int .i64 3)),(5,1,(V.int .i64 7))])).bind fun t149 =>
 (G zaH [t149]).bind fun t150 =>
 (M.lift (Ax.build [(V.int .i64 0),(V.int .i64 0),(V.int .i64 0),V.nils] [(0,1,(V.int .i64 2)),(1,1,(V.int .i64 7)),(3,1,t150)])).bind fun t151 =>
 (G zau [t35,t151]).bind fun t152 =>
 (G zcu [t35,(V.int .i64 2),(V.int .i64 0),(V.int .i64 1)]).bind fun t155 =>
 (M.lift (Ax.ext 0 t155)).bind fun t156 =>
 (M.lift (Ax.ext 1 t155)).bind fun t157 =>
 (G zcu [t35,(V.int .i64 2),(V.int .i64 1),(V.int .i64 0)]).bind fun t160 =>
 (M.lift (Ax.ext 0 t160)).bind fun t161 =>
 (M.lift (Ax.ext 1 t160)).bind fun t162 =>
 (G zct [t35,(V.int .i64 4)]).bind fun t165 =>
 (M.lift (Ax.ext 0 t165)).bind fun t166 =>
 (M.lift (Ax.ext 1 t165)).bind fun t167 =>
 (mbox zbp (V.agg [(V.bool false),(V.bool false),(V.bool false),(V.bool false),(V.bool false),(V.bool false),(V.bool false),(V.bool false),(V.int .i64 0),(V.int .i64 0),(V.int .i64 0),(V.int .i64 0),(V.int .i64 0),(V.int .i64 0),(V.int .i64 0),(V.int .i64 0),(V.int .i64 0),(V.bool false),(V.int .i64 0),(V.int .i64 0),(V.int .i64 0),(V.int .i64 0),(V.int .i64 0),(V.int .i64 0),(V.int .i64 0),(V.int .i64 0),(V.int .i64 0),(V.int .i64 0),(V.int .i64 0),(V.int .i64 0),(V.int .i64 0),(V.int .i64 0),(V.int .i64 0),(V.int .i64 0),(V.int .i64 0),(V.int .i64 0),(V.int .i64 0),(V.int .i64 0),(V.bool false)])).bind fun t33 =>
 (mstore 39 t33 t166).bind fun _ =>
 (M.lift (Ax.bin .eql t47 (V.int .i64 1))).bind fun t169 =>
 (guarded [(0,t169)] (some (0,true)) (M.pure t53)).bind fun t171 =>
 (guarded [(0,t169)] (some (0,true)) (M.lift (Ax.bin .eql t171 (V.int .i64 1)))).bind fun t172 =>
 (M.lift (Ax.pick t169 t172 (V.bool false))).bind fun t173 =>
 (guarded [(0,t173)] (some (0,true)) (M.pure t59)).bind fun t175 =>
 (guarded [(0,t173)] (some (0,true)) (M.lift (Ax.bin .eql t175 (V.int .i64 1)))).bind fun t176 =>
 (M.lift (Ax.pick t173 t176 (V.bool false))).bind fun t177 =>
 (guarded [(0,t177)] (some (0,true)) (M.pure t65)).bind fun t179 =>
 (guarded [(0,t177)] (some (0,true)) (M.lift (Ax.bin .eql t179 (V.int .i64 1)))).bind fun t180 =>
 (M.lift (Ax.pick t177 t180 (V.bool false))).bind fun t181 =>
 (guarded [(0,t181)] (some (0,true)) (M.pure t71)).bind fun t183 =>
 (guarded [(0,t181)] (some (0,true)) (M.lift (Ax.bin .eql t183 (V.int .i64 1)))).bind fun t184 =>
 (M.lift (Ax.pick t181 t184 (V.bool false))).bind fun t185 =>
 (guarded [(0,t185)] (some (0,true)) (M.pure t90)).bind fun t187 =>
 (guarded [(0,t185)] (some (0,true)) (M.lift (Ax.bin .eql t187 (V.int .i64 5)))).bind fun t188 =>
 (M.lift (Ax.pick t185 t188 (V.bool false))).bind fun t189 =>
 (guarded [(0,t189)] (some (0,true)) (M.lift (Ax.faddr 0 t19))).bind fun t191 =>
 (guarded [(0,t189)] (some (0,true)) (mload none t191)).bind fun t192 =>
 (guarded [(0,t189)] (some (0,true)) (M.lift (Ax.bin .eql t192 (V.int .i64 18)))).bind fun t193 =>
 (M.lift (Ax.pick t189 t193 (V.bool false))).bind fun t194 =>
 (guarded [(0,t194)] (some (0,true)) (M.lift (Ax.faddr 4 t19))).bind fun t196 =>
 (guarded [(0,t194)] (some (0,true)) (mload none t196)).bind fun t197 =>
 (guarded [(0,t194)] (some (0,true)) (M.lift (Ax.bin .eql t197 (V.int .i64 3)))).bind fun t198 =>
 (M.lift (Ax.pick t194 t198 (V.bool false))).bind fun t199 =>
 (guarded [(0,t199)] (some (0,true)) (M.lift (Ax.faddr 5 t19))).bind fun t201 =>
 (guarded [(0,t199)] (some (0,true)) (mload none t201)).bind fun t202 =>
 (guarded [(0,t199)] (some (0,true)) (M.lift (Ax.bin .eql t202 (V.int .i64 0)))).bind fun t203 =>
 (M.lift (Ax.pick t199 t203 (V.bool false))).bind fun t204 =>
 (guarded [(0,t204)] (some (0,true)) (M.lift (Ax.faddr 4 t21))).bind fun t206 =>
 (guarded [(0,t204)] (some (0,true)) (mload none t206)).bind fun t207 =>
 (guarded [(0,t204)] (some (0,true)) (M.lift (Ax.bin .eql t207 (V.int .i64 6)))).bind fun t208 =>
 (M.lift (Ax.pick t204 t208 (V.bool false))).bind fun t209 =>
 (guarded [(0,t209)] (some (0,true)) (M.lift (Ax.faddr 5 t21))).bind fun t211 =>
 (guarded [(0,t209)] (some (0,true)) (mload none t211)).bind fun t212 =>
 (guarded [(0,t209)] (some (0,true)) (M.lift (Ax.bin .eql t212 (V.int .i64 9)))).bind fun t213 =>
 (M.lift (Ax.pick t209 t213 (V.bool false))).bind fun t214 =>
 (guarded [(0,t214)] (some (0,true)) (M.lift (Ax.faddr 4 t23))).bind fun t216 =>
 (guarded [(0,t214)] (some (0,true)) (mload none t216)).bind fun t217 =>
 (guarded [(0,t214)] (some (0,true)) (M.lift (Ax.bin .eql t217 (V.int .i64 1)))).bind fun t218 =>
 (M.lift (Ax.pick t214 t218 (V.bool false))).bind fun t219 =>
 (guarded [(0,t219)] (some (0,true)) (M.lift (Ax.faddr 5 t23))).bind fun t221 =>
 (guarded [(0,t219)] (some (0,true)) (mload none t221)).bind fun t222 =>
 (guarded [(0,t219)] (some (0,true)) (M.lift (Ax.bin .eql t222 (V.int .i64 0)))).bind fun t223 =>
 (M.lift (Ax.pick t219 t223 (V.bool false))).bind fun t224 =>
 (guarded [(0,t224)] (some (0,true)) (M.pure t109)).bind fun t226 =>
 (guarded [(0,t224)] (some (0,true)) (M.lift (Ax.iaddr none 3 t226 (V.int .i64 0)))).bind fun t227 =>
 (guarded [(0,t224)] (some (0,true)) (M.lift (Ax.faddr 0 t227))).bind fun t228 =>
 (guarded [(0,t224)] (some (0,true)) (mload none t228)).bind fun t229 =>
 (guarded [(0,t224)] (some (0,true)) (M.lift (Ax.bin .eql t229 (V.int .i64 7)))).bind fun t230 =>
 (M.lift (Ax.pick t224 t230 (V.bool false))).bind fun t231 =>
 (guarded [(0,t231)] (some (0,true)) (M.pure t109)).bind fun t233 =>
 (guarded [(0,t231)] (some (0,true)) (M.lift (Ax.iaddr none 3 t233 (V.int .i64 0)))).bind fun t234 =>
 (guarded [(0,t231)] (some (0,true)) (M.lift (Ax.faddr 1 t234))).bind fun t235 =>
 (guarded [(0,t231)] (some (0,true)) (mload none t235)).bind fun t236 =>
 (guarded [(0,t231)] (some (0,true)) (M.lift (Ax.bin .eql t236 (V.int .i64 2)))).bind fun t237 =>
 (M.lift (Ax.pick t231 t237 (V.bool false))).bind fun t238 =>
 (guarded [(0,t238)] (some (0,true)) (M.pure t142)).bind fun t240 =>
 (M.lift (Ax.pick t238 t240 (V.bool false))).bind fun t241 =>
 (guarded [(0,t241)] (some (0,true)) (M.pure t141)).bind fun t243 =>
 (guarded [(0,t241)] (some (0,true)) (M.lift (Ax.bin .eql t243 (V.int .i64 0)))).bind fun t244 =>
 (M.lift (Ax.pick t241 t244 (V.bool false))).bind fun t245 =>
 (guarded [(0,t245)] (some (0,true)) (M.pure t147)).bind fun t247 =>
 (M.lift (Ax.pick t245 t247 (V.bool false))).bind fun t248 =>
 (guarded [(0,t248)] (some (0,true)) (M.pure t146)).bind fun t250 =>
 (guarded [(0,t248)] (some (0,true)) (M.lift (Ax.bin .eql t250 (V.int .i64 1)))).bind fun t251 =>
 (M.lift (Ax.pick t248 t251 (V.bool false))).bind fun t252 =>
 (guarded [(0,t252)] (some (0,true)) (M.pure t157)).bind fun t254 =>
 (M.lift (Ax.pick t252 t254 (V.bool false))).bind fun t255 =>
 (guarded [(0,t255)] (some (0,true)) (M.pure t156)).bind fun t257 =>
 (guarded [(0,t255)] (some (0,true)) (M.lift (Ax.bin .eql t257 (V.int .u32 0)))).bind fun t258 =>
 (M.lift (Ax.pick t255 t258 (V.bool false))).bind fun t259 =>
 (guarded [(0,t259)] (some (0,true)) (M.pure t162)).bind fun t261 =>
 (guarded [(0,t259)] (some (0,true)) (M.lift (Ax.un .not t261))).bind fun t262 =>
 (M.lift (Ax.pick t259 t262 (V.bool false))).bind fun t263 =>
 (guarded [(0,t263)] (some (0,true)) (M.pure t167)).bind fun t265 =>
 (guarded [(0,t263)] (some (0,true)) (M.lift (Ax.un .not t265))).bind fun t266 =>
 (M.lift (Ax.pick t263 t266 (V.bool false))).bind fun t267 =>
 (guarded [(0,t267)] (some (0,true)) (M.pure t35)).bind fun t269 =>
 (guarded [(0,t267)] (some (0,true)) (G zcb [t269,(V.int .i64 64)])).bind fun t270 =>
 (guarded [(0,t267)] (some (0,true)) (M.lift (Ax.bin .eql t270 (V.int .i64 0)))).bind fun t271 =>
 (M.lift (Ax.pick t267 t271 (V.bool false))).bind fun t272 =>
 (guarded [(0,t272)] (some (0,true)) (M.pure t35)).bind fun t274 =>
 (guarded [(0,t272)] (some (0,true)) (G zbM [t274,(V.int .i64 11)])).bind fun t275 =>
 (guarded [(0,t272)] (some (0,true)) (M.lift (Ax.bin .eql t275 (V.int .i64 0)))).bind fun t276 =>
 (M.lift (Ax.pick t272 t276 (V.bool false))).bind fun t277 =>
 (guarded [(0,t277)] (some (0,true)) (M.pure t35)).bind fun t279 =>
 (guarded [(0,t277)] (some (0,true)) (G zbM [t279,(V.int .i64 0)])).bind fun t280 =>
 (guarded [(0,t277)] (some (0,true)) (M.lift (Ax.bin .eql t280 (V.int .i64 0)))).bind fun t281 =>
 (M.lift (Ax.pick t277 t281 (V.bool false))).bind fun t282 =>
 M.pure (.ret [t282])))
noncomputable def zdn:Fn':=(T zaR).getD noF
theorem zkc:T zaR = some zdn:=by kernel_rfl
theorem zkF (G:Sem'):execK G zdn.rv zdn.body [] [] (params 0 []) = zf6 G:=by kernel_rfl
def zdC (G:Sem'):List V → M V
 | []=>fin (zf6 G)
 | _=>M.fail
theorem zk0 {g:Sem'} (hg:Sims g (sem T)) (args:List V):Sim (zdC g args) (sem T zaR args):=by
 unfold zdC
 split
 ·exact zad zkc (Nat.le_of_ble_eq_true (by kernel_rfl)) hg (zkF g)
 ·exact zaa
def zCa (G:Sem') (t1 t0:V) (L:List V):M Res :=
 (M.lift (Ax.bin .lss (L.getD 0 .undef) (V.int .i64 64))).bind fun t7 =>
 M.ite t7
 (M.blk 1 (
 (M.lift (Ax.nilck t1)).bind fun t12 =>
 (M.lift (Ax.faddr 1470 t12)).bind fun t13 =>
 (G zcf [(V.int .i64 32)]).bind fun t11 =>
 (M.lift (Ax.iaddr (some 64) 1 t13 (L.getD 0 .undef))).bind fun t14 =>
 (mstore 1 t14 t11).bind fun _ =>
 M.pure (.nrm [])) fun _ =>
 (M.lift (Ax.bin .add (L.getD 0 .undef) (V.int .i64 1))).bind fun t15 =>
 M.pure (.nrm [t15]))
 (M.pure (.ex 0 []))
def zzd (G:Sem'):M Res :=
 (G zc7 [(V.int .i64 11)]).bind fun t3 =>
 (M.lift (Ax.build [(V.bool false),(V.bool false),(V.bool false),(V.bool false),(V.bool false),(V.bool false),(V.bool false),(V.bool false),(V.int .i64 0),(V.int .i64 0),(V.int .i64 0),(V.int .i64 0),(V.int .i64 0),(V.int .i64 0),(V.int .i64 0),(V.int .i64 0),(V.int .i64 0),(V.bool false),(V.int .i64 0),(V.int .i64 0),(V.int .i64 0),(V.int .i64 0),(V.int .i64 0),(V.int .i64 0),(V.int .i64 0),(V.int .i64 0),(V.int .i64 0),(V.int .i64 0),(V.int .i64 0),(V.int .i64 0),(V.int .i64 0),(V.int .i64 0),(V.int .i64 0),(V.int .i64 0),(V.int .i64 0),(V.int .i64 0),(V.int .i64 0),(V.int .i64 0),(V.bool false),(V.bool false),(V.int .u32 0),(V.int .i64 0),(V.int .i64 0),(V.int .i64 0),V.nils,(V.int .i64 0),V.nils,V.nils,(V.int .u32 0),V.nils,(V.bool false),(V.int .u32 0),(V.int .i64 0),(V.int .i64 0),(V.int .i64 0),V.nils,(V.int .i64 0),V.nils,V.nils,(V.int .u32 0),V.nils,(V.bool false),(V.int .u32 0),(V.int .i64 0),(V.int .i64 0),(V.int .i64 0),V.nils,(V.int .i64 0),V.nils,V.nils,(V.int .u32 0),V.nils,(V.bool false),(V.int .u32 0),(V.int .i64 0),(V.int .i64 0),(V.int .i64 0),V.nils,(V.int .i64 0),V.nils,V.nils,(V.int .u32 0),V.nils,(V.bool false),(V.int .u32 0),(V.int .i64 0),(V.int .i64 0),(V.int .i64 0),V.nils,(V.int .i64 0),V.nils,V.nils,(V.int .u32 0),V.nils,(V.bool false),(V.int .u32 0),(V.int .i64 0),(V.int .i64 0),(V.int .i64 0),V.nils,(V.int .i64 0),V.nils,V.nils,(V.int .u32 0),V.nils,(V.bool false),(V.int .u32 0),(V.int .i64 0),(V.int .i64 0),(V.int .i64 0),V.nils,(V.int .i64 0),V.nils,V.nils,(V.int .u32 0),V.nils,(V.bool false),(V.int .u32 0),(V.int .i64 0),(V.int .i64 0),(V.int .i64 0),V.nils,(V.int .i64 0),V.nils,V.nils,(V.int .u32 0),V.nils,(V.bool false),(V.int .u32 0),(V.int .i64 0),(V.int .i64 0),(V.int .i64 0),V.nils,(V.int .i64 0),V.nils,V.nils,(V.int .u32 0),V.nils,(V.bool false),(V.int .u32 0),(V.int .i64 0),(V.int .i64 0),(V.int .i64 0),V.nils,(V.int .i64 0),V.nils,V.nils,(V.int .u32 0),V.nils,(V.bool false),(V.int .u32 0),(V.int .i64 0),(V.int .i64 0),(V.int .i64 0),V.nils,(V.int .i64 0),V.nils,V.nils,(V.int .u32 0),V.nils,(V.bool false),(V.int .u32 0),(V.int .i64 0),(V.int .i64 0),(V.int .i64 0),V.nils,(V.int .i64 0),V.nils,V.nils,(V.int .u32 0),V.nils,(V.bool false),(V.int .u32 0),(V.int .i64 0),(V.int .i64 0),(V.int .i64 0),V.nils,(V.int .i64 0),V.nils,V.nils,(V.int .u32 0),V.nils,(V.bool false),(V.int .u32 0),(V.int .i64 0),(V.int .i64 0),(V.int .i64 0),V.nils,(V.int .i64 0),V.nils,V.nils,(V.int .u32 0),V.nils,(V.bool false),(V.int .u32 0),(V.int .i64 0),(V.int .i64 0),(V.int .i64 0),V.nils,(V.int .i64 0),V.nils,V.nils,(V.int .u32 0),V.nils,(V.bool false),(V.int .u32 0),(V.int .i64 0),(V.int .i64 0),(V.int .i64 0),V.nils,(V.int .i64 0),V.nils,V.nils,(V.int .u32 0),V.nils,(V.bool false),(V.int .u32 0),(V.int .i64 0),(V.int .i64 0),(V.int .i64 0),V.nils,(V.int .i64 0),V.nils,V.nils,(V.int .u32 0),V.nils,(V.bool false),(V.int .u32 0),(V.int .i64 0),(V.int .i64 0),(V.int .i64 0),V.nils,(V.int .i64 0),V.nils,V.nils,(V.int .u32 0),V.nils,(V.bool false),(V.int .u32 0),(V.int .i64 0),(V.int .i64 0),(V.int .i64 0),V.nils,(V.int .i64 0),V.nils,V.nils,(V.int .u32 0),V.nils,(V.bool false),(V.int .u32 0),(V.int .i64 0),(V.int .i64 0),(V.int .i64 0),V.nils,(V.int .i64 0),V.nils,V.nils,(V.int .u32 0),V.nils,(V.bool false),(V.int .u32 0),(V.int .i64 0),(V.int .i64 0),(V.int .i64 0),V.nils,(V.int .i64 0),V.nils,V.nils,(V.int .u32 0),V.nils,(V.bool false),(V.int .u32 0),(V.int .i64 0),(V.int .i64 0),(V.int .i64 0),V.nils,(V.int .i64 0),V.nils,V.nils,(V.int .u32 0),V.nils,(V.bool false),(V.int .u32 0),(V.int .i64 0),(V.int .i64 0),(V.int .i64 0),V.nils,(V.int .i64 0),V.nils,V.nils,(V.int .u32 0),V.nils,(V.bool false),(V.int .u32 0),(V.int .i64 0),(V.int .i64 0),(V.int .i64 0),V.nils,(V.int .i64 0),V.nils,V.nils,(V.int .u32 0),V.nils,V.nilp,V.nilp,V.nilp,V.nilp,V.nilp,V.nilp,V.nilp,V.nilp,V.nilp,V.nilp,V.nilp,V.nilp,V.nilp,V.nilp,V.nilp,V.nilp,V.nilp,V.nilp,V.nilp,V.nilp,V.nilp,V.nilp,V.nilp,V.nilp,V.nilp,V.nilp,V.nilp,V.nilp,V.nilp,V.nilp,V.nilp,V.nilp,V.nilp,V.nilp,V.nilp,V.nilp,V.nilp,V.nilp,V.nilp,V.nilp,V.nilp,V.nilp,V.nilp,V.nilp,V.nilp,V.nilp,V.nilp,V.nilp,V.nilp,V.nilp,V.nilp,V.nilp,V.nilp,V.nilp,V.nilp,V.nilp,V.nilp,V.nilp,V.nilp,V.nilp,V.nilp,V.nilp,V.nilp,V.nilp,(V.bool false),(V.bool false),(V.bool false),(V.bool false),(V.bool false),(V.bool false),(V.bool false),(V.bool false),(V.int .i64 0),(V.int .i64 0),(V.int .i64 0),(V.int .i64 0),(V.int .i64 0),(V.int .i64 0),(V.int .i64 0),(V.int .i64 0),(V.int .i64 0),(V.bool false),(V.int .i64 0),(V.int .i64 0),(V.int .i64 0),(V.int .i64 0),(V.int .i64 0),(V.int .i64 0),(V.int .i64 0),(V.int .i64 0),(V.int .i64 0),(V.int .i64 0),(V.int .i64 0),(V.int .i64 0),(V.int .i64 0),(V.int .i64 0),(V.int .i64 0),(V.int .i64 0),(V.int .i64 0),(V.int .i64 0),(V.int .i64 0),(V.int .i64 0),(V.bool false),(V.bool false),(V.int .u32 0),(V.int .i64 0),(V.int .i64 0),(V.int .i64 0),V.nils,(V.int .i64 0),V.nils,V.nils,(V.int .u32 0),V.nils,(V.bool false),(V.int .u32 0),(V.int .i64 0),(V.int .i64 0),(V.int .i64 0),V.nils,(V.int .i64 0),V.nils,V.nils,(V.int .u32 0),V.nils,(V.bool false),(V.int .u32 0),(V.int .i64 0),(V.int .i64 0),(V.int .i64 0),V.nils,(V.int .i64 0),V.nils,V.nils,(V.int .u32 0),V.nils,(V.bool false),(V.int .u32 0),(V.int .i64 0),(V.int .i64 0),(V.int .i64 0),V.nils,(V.int .i64 0),V.nils,V.nils,(V.int .u32 0),V.nils,(V.bool false),(V.int .u32 0),(V.int .i64 0),(V.int .i64 0),(V.int .i64 0),V.nils,(V.int .i64 0),V.nils,V.nils,(V.int .u32 0),V.nils,(V.bool false),(V.int .u32 0),(V.int .i64 0),(V.int .i64 0),(V.int .i64 0),V.nils,(V.int .i64 0),V.nils,V.nils,(V.int .u32 0),V.nils,(V.bool false),(V.int .u32 0),(V.int .i64 0),(V.int .i64 0),(V.int .i64 0),V.nils,(V.int .i64 0),V.nils,V.nils,(V.int .u32 0),V.nils,(V.bool false),(V.int .u32 0),(V.int .i64 0),(V.int .i64 0),(V.int .i64 0),V.nils,(V.int .i64 0),V.nils,V.nils,(V.int .u32 0),V.nils,(V.bool false),(V.int .u32 0),(V.int .i64 0),(V.int .i64 0),(V.int .i64 0),V.nils,(V.int .i64 0),V.nils,V.nils,(V.int .u32 0),V.nils,(V.bool false),(V.int .u32 0),(V.int .i64 0),(V.int .i64 0),(V.int .i64 0),V.nils,(V.int .i64 0),V.nils,V.nils,(V.int .u32 0),V.nils,(V.bool false),(V.int .u32 0),(V.int .i64 0),(V.int .i64 0),(V.int .i64 0),V.nils,(V.int .i64 0),V.nils,V.nils,(V.int .u32 0),V.nils,(V.bool false),(V.int .u32 0),(V.int .i64 0),(V.int .i64 0),(V.int .i64 0),V.nils,(V.int .i64 0),V.nils,V.nils,(V.int .u32 0),V.nils,(V.bool false),(V.int .u32 0),(V.int .i64 0),(V.int .i64 0),(V.int .i64 0),V.nils,(V.int .i64 0),V.nils,V.nils,(V.int .u32 0),V.nils,(V.bool false),(V.int .u32 0),(V.int .i64 0),(V.int .i64 0),(V.int .i64 0),V.nils,(V.int .i64 0),V.nils,V.nils,(V.int .u32 0),V.nils,(V.bool false),(V.int .u32 0),(V.int .i64 0),(V.int .i64 0),(V.int .i64 0),V.nils,(V.int .i64 0),V.nils,V.nils,(V.int .u32 0),V.nils,(V.bool false),(V.int .u32 0),(V.int .i64 0),(V.int .i64 0),(V.int .i64 0),V.nils,(V.int .i64 0),V.nils,V.nils,(V.int .u32 0),V.nils,(V.bool false),(V.int .u32 0),(V.int .i64 0),(V.int .i64 0),(V.int .i64 0),V.nils,(V.int .i64 0),V.nils,V.nils,(V.int .u32 0),V.nils,(V.bool false),(V.int .u32 0),(V.int .i64 0),(V.int .i64 0),(V.int .i64 0),V.nils,(V.int .i64 0),V.nils,V.nils,(V.int .u32 0),V.nils,(V.bool false),(V.int .u32 0),(V.int .i64 0),(V.int .i64 0),(V.int .i64 0),V.nils,(V.int .i64 0),V.nils,V.nils,(V.int .u32 0),V.nils,(V.bool false),(V.int .u32 0),(V.int .i64 0),(V.int .i64 0),(V.int .i64 0),V.nils,(V.int .i64 0),V.nils,V.nils,(V.int .u32 0),V.nils,(V.bool false),(V.int .u32 0),(V.int .i64 0),(V.int .i64 0),(V.int .i64 0),V.nils,(V.int .i64 0),V.nils,V.nils,(V.int .u32 0),V.nils,(V.bool false),(V.int .u32 0),(V.int .i64 0),(V.int .i64 0),(V.int .i64 0),V.nils,(V.int .i64 0),V.nils,V.nils,(V.int .u32 0),V.nils,(V.bool false),(V.int .u32 0),(V.int .i64 0),(V.int .i64 0),(V.int .i64 0),V.nils,(V.int .i64 0),V.nils,V.nils,(V.int .u32 0),V.nils,(V.bool false),(V.int .u32 0),(V.int .i64 0),(V.int .i64 0),(V.int .i64 0),V.nils,(V.int .i64 0),V.nils,V.nils,(V.int .u32 0),V.nils,V.nilp,V.nilp,V.nilp,V.nilp,V.nilp,V.nilp,V.nilp,V.nilp,V.nilp,V.nilp,V.nilp,V.nilp,V.nilp,V.nilp,V.nilp,V.nilp,V.nilp,V.nilp,V.nilp,V.nilp,V.nilp,V.nilp,V.nilp,V.nilp,V.nilp,V.nilp,V.nilp,V.nilp,V.nilp,V.nilp,V.nilp,V.nilp,V.nilp,V.nilp,V.nilp,V.nilp,V.nilp,V.nilp,V.nilp,V.nilp,V.nilp,V.nilp,V.nilp,V.nilp,V.nilp,V.nilp,V.nilp,V.nilp,V.nilp,V.nilp,V.nilp,V.nilp,V.nilp,V.nilp,V.nilp,V.nilp,V.nilp,V.nilp,V.nilp,V.nilp,V.nilp,V.nilp,V.nilp,V.nilp,(V.bool false),(V.bool false),(V.bool false),(V.bool false),(V.bool false),(V.bool false),(V.bool false),(V.bool false),(V.int .i64 0),(V.int .i64 0),(V.int .i64 0),(V.int .i64 0),(V.int .i64 0),(V.int .i64 0),(V.int .i64 0),(V.int .i64 0),(V.int .i64 0),(V.bool false),(V.int .i64 0),(V.int .i64 0),(V.int .i64 0),(V.int .i64 0),(V.int .i64 0),(V.int .i64 0),(V.int .i64 0),(V.int .i64 0),(V.int .i64 0),(V.int .i64 0),(V.int .i64 0),(V.int .i64 0),(V.int .i64 0),(V.int .i64 0),(V.int .i64 0),(V.int .i64 0),(V.int .i64 0),(V.int .i64 0),(V.int .i64 0),(V.int .i64 0),(V.bool false),(V.bool false),(V.int .u32 0),(V.int .i64 0),(V.int .i64 0),(V.int .i64 0),V.nils,(V.int .i64 0),V.nils,V.nils,(V.int .u32 0),V.nils,(V.bool false),(V.int .u32 0),(V.int .i64 0),(V.int .i64 0),(V.int .i64 0),V.nils,(V.int .i64 0),V.nils,V.nils,(V.int .u32 0),V.nils,(V.bool false),(V.int .u32 0),(V.int .i64 0),(V.int .i64 0),(V.int .i64 0),V.nils,(V.int .i64 0),V.nils,V.nils,(V.int .u32 0),V.nils,(V.bool false),(V.int .u32 0),(V.int .i64 0),(V.int .i64 0),(V.int .i64 0),V.nils,(V.int .i64 0),V.nils,V.nils,(V.int .u32 0),V.nils,(V.bool false),(V.int .u32 0),(V.int .i64 0),(V.int .i64 0),(V.int .i64 0),V.nils,(V.int .i64 0),V.nils,V.nils,(V.int .u32 0),V.nils,(V.bool false),(V.int .u32 0),(V.int .i64 0),(V.int .i64 0),(V.int .i64 0),V.nils,(V.int .i64 0),V.nils,V.nils,(V.int .u32 0),V.nils,(V.bool false),(V.int .u32 0),(V.int .i64 0),(V.int .i64 0),(V.int .i64 0),V.nils,(V.int .i64 0),V.nils,V.nils,(V.int .u32 0),V.nils,(V.bool false),(V.int .u32 0),(V.int .i64 0),(V.int .i64 0),(V.int .i64 0),V.nils,(V.int .i64 0),V.nils,V.nils,(V.int .u32 0),V.nils,(V.bool false),(V.int .u32 0),(V.int .i64 0),(V.int .i64 0),(V.int .i64 0),V.nils,(V.int .i64 0),V.nils,V.nils,(V.int .u32 0),V.nils,(V.bool false),(V.int .u32 0),(V.int .i64 0),(V.int .i64 0),(V.int .i64 0),V.nils,(V.int .i64 0),V.nils,V.nils,(V.int .u32 0),V.nils,(V.bool false),(V.int .u32 0),(V.int .i64 0),(V.int .i64 0),(V.int .i64 0),V.nils,(V.int .i64 0),V.nils,V.nils,(V.int .u32 0),V.nils,(V.bool false),(V.int .u32 0),(V.int .i64 0),(V.int .i64 0),(V.int .i64 0),V.nils,(V.int .i64 0),V.nils,V.nils,(V.int .u32 0),V.nils,(V.bool false),(V.int .u32 0),(V.int .i64 0),(V.int .i64 0),(V.int .i64 0),V.nils,(V.int .i64 0),V.nils,V.nils,(V.int .u32 0),V.nils,(V.bool false),(V.int .u32 0),(V.int .i64 0),(V.int .i64 0),(V.int .i64 0),V.nils,(V.int .i64 0),V.nils,V.nils,(V.int .u32 0),V.nils,(V.bool false),(V.int .u32 0),(V.int .i64 0),(V.int .i64 0),(V.int .i64 0),V.nils,(V.int .i64 0),V.nils,V.nils,(V.int .u32 0),V.nils,(V.bool false),(V.int .u32 0),(V.int .i64 0),(V.int .i64 0),(V.int .i64 0),V.nils,(V.int .i64 0),V.nils,V.nils,(V.int .u32 0),V.nils,(V.bool false),(V.int .u32 0),(V.int .i64 0),(V.int .i64 0),(V.int .i64 0),V.nils,(V.int .i64 0),V.nils,V.nils,(V.int .u32 0),V.nils,(V.bool false),(V.int .u32 0),(V.int .i64 0),(V.int .i64 0),(V.int .i64 0),V.nils,(V.int .i64 0),V.nils,V.nils,(V.int .u32 0),V.nils,(V.bool false),(V.int .u32 0),(V.int .i64 0),(V.int .i64 0),(V.int .i64 0),V.nils,(V.int .i64 0),V.nils,V.nils,(V.int .u32 0),V.nils,(V.bool false),(V.int .u32 0),(V.int .i64 0),(V.int .i64 0),(V.int .i64 0),V.nils,(V.int .i64 0),V.nils,V.nils,(V.int .u32 0),V.nils,(V.bool false),(V.int .u32 0),(V.int .i64 0),(V.int .i64 0),(V.int .i64 0),V.nils,(V.int .i64 0),V.nils,V.nils,(V.int .u32 0),V.nils,(V.bool false),(V.int .u32 0),(V.int .i64 0),(V.int .i64 0),(V.int .i64 0),V.nils,(V.int .i64 0),V.nils,V.nils,(V.int .u32 0),V.nils,(V.bool false),(V.int .u32 0),(V.int .i64 0),(V.int .i64 0),(V.int .i64 0),V.nils,(V.int .i64 0),V.nils,V.nils,(V.int .u32 0),V.nils,(V.bool false),(V.int .u32 0),(V.int .i64 0),(V.int .i64 0),(V.int .i64 0),V.nils,(V.int .i64 0),V.nils,V.nils,(V.int .u32 0),V.nils,V.nilp,V.nilp,V.nilp,V.nilp,V.nilp,V.nilp,V.nilp,V.nilp,V.nilp,V.nilp,V.nilp,V.nilp,V.nilp,V.nilp,V.nilp,V.nilp,V.nilp,V.nilp,V.nilp,V.nilp,V.nilp,V.nilp,V.nilp,V.nilp,V.nilp,V.nilp,V.nilp,V.nilp,V.nilp,V.nilp,V.nilp,V.nilp,V.nilp,V.nilp,V.nilp,V.nilp,V.nilp,V.nilp,V.nilp,V.nilp,V.nilp,V.nilp,V.nilp,V.nilp,V.nilp,V.nilp,V.nilp,V.nilp,V.nilp,V.nilp,V.nilp,V.nilp,V.nilp,V.nilp,V.nilp,V.nilp,V.nilp,V.nilp,V.nilp,V.nilp,V.nilp,V.nilp,V.nilp,V.nilp,(V.bool false),(V.bool false),(V.bool false),(V.bool false),(V.bool false),(V.bool false),(V.bool false),(V.bool false),(V.int .i64 0),(V.int .i64 0),(V.int .i64 0),(V.int .i64 0),(V.int .i64 0),(V.int .i64 0),(V.int .i64 0),(V.int .i64 0),(V.int .i64 0),(V.bool false),(V.int .i64 0),(V.int .i64 0),(V.int .i64 0),(V.int .i64 0),(V.int .i64 0),(V.int .i64 0),(V.int .i64 0),(V.int .i64 0),(V.int .i64 0),(V.int .i64 0),(V.int .i64 0),(V.int .i64 0),(V.int .i64 0),(V.int .i64 0),(V.int .i64 0),(V.int .i64 0),(V.int .i64 0),(V.int .i64 0),(V.int .i64 0),(V.int .i64 0),(V.bool false),(V.bool false),(V.int .u32 0),(V.int .i64 0),(V.int .i64 0),(V.int .i64 0),V.nils,(V.int .i64 0),V.nils,V.nils,(V.int .u32 0),V.nils,(V.bool false),(V.int .u32 0),(V.int .i64 0),(V.int .i64 0),(V.int .i64 0),V.nils,(V.int .i64 0),V.nils,V.nils,(V.int .u32 0),V.nils,(V.bool false),(V.int .u32 0),(V.int .i64 0),(V.int .i64 0),(V.int .i64 0),V.nils,(V.int .i64 0),V.nils,V.nils,(V.int .u32 0),V.nils,(V.bool false),(V.int .u32 0),(V.int .i64 0),(V.int .i64 0),(V.int .i64 0),V.nils,(V.int .i64 0),V.nils,V.nils,(V.int .u32 0),V.nils,(V.bool false),(V.int .u32 0),(V.int .i64 0),(V.int .i64 0),(V.int .i64 0),V.nils,(V.int .i64 0),V.nils,V.nils,(V.int .u32 0),V.nils,(V.bool false),(V.int .u32 0),(V.int .i64 0),(V.int .i64 0),(V.int .i64 0),V.nils,(V.int .i64 0),V.nils,V.nils,(V.int .u32 0),V.nils,(V.bool false),(V.int .u32 0),(V.int .i64 0),(V.int .i64 0),(V.int .i64 0),V.nils,(V.int .i64 0),V.nils,V.nils,(V.int .u32 0),V.nils,(V.bool false),(V.int .u32 0),(V.int .i64 0),(V.int .i64 0),(V.int .i64 0),V.nils,(V.int .i64 0),V.nils,V.nils,(V.int .u32 0),V.nils,(V.bool false),(V.int .u32 0),(V.int .i64 0),(V.int .i64 0),(V.int .i64 0),V.nils,(V.int .i64 0),V.nils,V.nils,(V.int .u32 0),V.nils,(V.bool false),(V.int .u32 0),(V.int .i64 0),(V.int .i64 0),(V.int .i64 0),V.nils,(V.int .i64 0),V.nils,V.nils,(V.int .u32 0),V.nils,(V.bool false),(V.int .u32 0),(V.int .i64 0),(V.int .i64 0),(V.int .i64 0),V.nils,(V.int .i64 0),V.nils,V.nils,(V.int .u32 0),V.nils,(V.bool false),(V.int .u32 0),(V.int .i64 0),(V.int .i64 0),(V.int .i64 0),V.nils,(V.int .i64 0),V.nils,V.nils,(V.int .u32 0),V.nils,(V.bool false),(V.int .u32 0),(V.int .i64 0),(V.int .i64 0),(V.int .i64 0),V.nils,(V.int .i64 0),V.nils,V.nils,(V.int .u32 0),V.nils,(V.bool false),(V.int .u32 0),(V.int .i64 0),(V.int .i64 0),(V.int .i64 0),V.nils,(V.int .i64 0),V.nils,V.nils,(V.int .u32 0),V.nils,(V.bool false),(V.int .u32 0),(V.int .i64 0),(V.int .i64 0),(V.int .i64 0),V.nils,(V.int .i64 0),V.nils,V.nils,(V.int .u32 0),V.nils,(V.bool false),(V.int .u32 0),(V.int .i64 0),(V.int .i64 0),(V.int .i64 0),V.nils,(V.int .i64 0),V.nils,V.nils,(V.int .u32 0),V.nils,(V.bool false),(V.int .u32 0),(V.int .i64 0),(V.int .i64 0),(V.int .i64 0),V.nils,(V.int .i64 0),V.nils,V.nils,(V.int .u32 0),V.nils,(V.bool false),(V.int .u32 0),(V.int .i64 0),(V.int .i64 0),(V.int .i64 0),V.nils,(V.int .i64 0),V.nils,V.nils,(V.int .u32 0),V.nils,(V.bool false),(V.int .u32 0),(V.int .i64 0),(V.int .i64 0),(V.int .i64 0),V.nils,(V.int .i64 0),V.nils,V.nils,(V.int .u32 0),V.nils,(V.bool false),(V.int .u32 0),(V.int .i64 0),(V.int .i64 0),(V.int .i64 0),V.nils,(V.int .i64 0),V.nils,V.nils,(V.int .u32 0),V.nils,(V.bool false),(V.int .u32 0),(V.int .i64 0),(V.int .i64 0),(V.int .i64 0),V.nils,(V.int .i64 0),V.nils,V.nils,(V.int .u32 0),V.nils,(V.bool false),(V.int .u32 0),(V.int .i64 0),(V.int .i64 0),(V.int .i64 0),V.nils,(V.int .i64 0),V.nils,V.nils,(V.int .u32 0),V.nils,(V.bool false),(V.int .u32 0),(V.int .i64 0),(V.int .i64 0),(V.int .i64 0),V.nils,(V.int .i64 0),V.nils,V.nils,(V.int .u32 0),V.nils,(V.bool false),(V.int .u32 0),(V.int .i64 0),(V.int .i64 0),(V.int .i64 0),V.nils,(V.int .i64 0),V.nils,V.nils,(V.int .u32 0),V.nils,V.nilp,V.nilp,V.nilp,V.nilp,V.nilp,V.nilp,V.nilp,V.nilp,V.nilp,V.nilp,V.nilp,V.nilp,V.nilp,V.nilp,V.nilp,V.nilp,V.nilp,V.nilp,V.nilp,V.nilp,V.nilp,V.nilp,V.nilp,V.nilp,V.nilp,V.nilp,V.nilp,V.nilp,V.nilp,V.nilp,V.nilp,V.nilp,V.nilp,V.nilp,V.nilp,V.nilp,V.nilp,V.nilp,V.nilp,V.nilp,V.nilp,V.nilp,V.nilp,V.nilp,V.nilp,V.nilp,V.nilp,V.nilp,V.nilp,V.nilp,V.nilp,V.nilp,V.nilp,V.nilp,V.nilp,V.nilp,V.nilp,V.nilp,V.nilp,V.nilp,V.nilp,V.nilp,V.nilp,V.nilp,(V.int .i64 0),V.nils,V.nilp,V.nilp,V.nilp,V.nilp,V.nilp,V.nilp,V.nilp,V.nilp,V.nilp,V.nilp,V.nilp,V.nilp,V.nilp,V.nilp,V.nilp,V.nilp,V.nilp,V.nilp,V.nilp,V.nilp,V.nilp,V.nilp,V.nilp,V.nilp,V.nilp,V.nilp,V.nilp,V.nilp,V.nilp,V.nilp,V.nilp,V.nilp,V.nilp,V.nilp,V.nilp,V.nilp,V.nilp,V.nilp,V.nilp,V.nilp,V.nilp,V.nilp,V.nilp,V.nilp,V.nilp,V.nilp,V.nilp,V.nilp,V.nilp,V.nilp,V.nilp,V.nilp,V.nilp,V.nilp,V.nilp,V.nilp,V.nilp,V.nilp,V.nilp,V.nilp,V.nilp,V.nilp,V.nilp,V.nilp,V.nilp] [(1534,1,t3)])).bind fun t4 =>
 (mbox zAU t4).bind fun t5 =>
 M.blk 0 (
 M.iter (zCa G t5 V.nilp) [(V.int .i64 0)]) fun _ =>
 M.pure (.ret [t5])
noncomputable def zq2:Fn':=(T zgH).getD noF
theorem zCS:T zgH = some zq2:=by kernel_rfl
theorem zDL (G:Sem'):execK G zq2.rv zq2.body [] [] (params 0 []) = zzd G:=by kernel_rfl
def zuC (G:Sem'):List V → M V
 | []=>fin (zzd G)
 | _=>M.fail
theorem zEO {g:Sem'} (hg:Sims g (sem T)) (args:List V):Sim (zuC g args) (sem T zgH args):=by
 unfold zuC
 split
 ·exact zad zCS (Nat.le_of_ble_eq_true (by kernel_rfl)) hg (zDL g)
 ·exact zaa
def zhY (G:Sem'):M Res :=
 (G zgH []).bind fun t9 =>
 (M.lift (eqr .ptr false t9 V.nilp)).bind fun t11 =>
 M.ite t11
 (M.pure (.ret [(V.bool false)]))
 ((mslit zaw 1 [(V.int .u8 0)] [(0,1,(V.int .u8 120))]).bind fun t14 =>
 (mremark zaw t14).bind fun t15 =>
 (M.lift (Ax.build [(V.int .i64 0),(V.int .i64 0),(V.int .i64 0),V.nils] [(0,1,(V.int .i64 1)),(1,1,(V.int .i64 5)),(3,1,t15)])).bind fun t16 =>
 (G zau [t9,t16]).bind fun t17 =>
 (M.lift (Ax.ext 0 t17)).bind fun t18 =>
 (M.lift (Ax.ext 1 t17)).bind fun t19 =>
 (G zbM [t9,(V.int .i64 2)]).bind fun t21 =>
 (M.lift (Ax.build [(V.int .i64 0),(V.int .i64 0),(V.int .i64 0),(V.int .i64 0),(V.int .i64 0),(V.int .i64 0),V.nils] [(0,1,(V.int .i64 1))])).bind fun t24 =>
 (G zaH [t24]).bind fun t25 =>
 (M.lift (Ax.build [(V.int .i64 0),(V.int .i64 0),(V.int .i64 0),V.nils] [(0,1,(V.int .i64 2)),(1,1,(V.int .i64 5)),(3,1,t25)])).bind fun t26 =>
 (G zau [t9,t26]).bind fun t27 =>
 (M.lift (Ax.ext 0 t27)).bind fun t28 =>
 (M.lift (Ax.ext 1 t27)).bind fun t29 =>
 (G zct [t9,(V.int .i64 0)]).bind fun t32 =>
 (M.lift (Ax.ext 0 t32)).bind fun t33 =>
 (M.lift (Ax.ext 1 t32)).bind fun t34 =>
 (mbox zbp (V.agg [(V.bool false),(V.bool false),(V.bool false),(V.bool false),(V.bool false),(V.bool false),(V.bool false),(V.bool false),(V.int .i64 0),(V.int .i64 0),(V.int .i64 0),(V.int .i64 0),(V.int .i64 0),(V.int .i64 0),(V.int .i64 0),(V.int .i64 0),(V.int .i64 0),(V.bool false),(V.int .i64 0),(V.int .i64 0),(V.int .i64 0),(V.int .i64 0),(V.int .i64 0),(V.int .i64 0),(V.int .i64 0),(V.int .i64 0),(V.int .i64 0),(V.int .i64 0),(V.int .i64 0),(V.int .i64 0),(V.int .i64 0),(V.int .i64 0),(V.int .i64 0),(V.int .i64 0),(V.int .i64 0),(V.int .i64 0),(V.int .i64 0),(V.int .i64 0),(V.bool false)])).bind fun t7 =>
 (mstore 39 t7 t33).bind fun _ =>
 (M.lift (Ax.bin .eql t19 (V.int .i64 0))).bind fun t36 =>
 (guarded [(0,t36)] (some (0,true)) (M.pure t21)).bind fun t38 =>
 (guarded [(0,t36)] (some (0,true)) (M.lift (Ax.bin .eql t38 (V.int .i64 1)))).bind fun t39 =>
 (M.lift (Ax.pick t36 t39 (V.bool false))).bind fun t40 =>
 (guarded [(0,t40)] (some (0,true)) (M.pure t29)).bind fun t42 =>
 (guarded [(0,t40)] (some (0,true)) (M.lift (Ax.bin .eql t42 (V.int .i64 0)))).bind fun t43 =>
 (M.lift (Ax.pick t40 t43 (V.bool false))).bind fun t44 =>
 (guarded [(0,t44)] (some (0,true)) (M.pure t9)).bind fun t46 =>
 (guarded [(0,t44)] (some (0,true)) (G zcb [t46,(V.int .i64 5)])).bind fun t47 =>
 (guarded [(0,t44)] (some (0,true)) (M.lift (Ax.bin .eql t47 (V.int .i64 1)))).bind fun t48 =>
 (M.lift (Ax.pick t44 t48 (V.bool false))).bind fun t49 =>
 (guarded [(0,t49)] (some (0,true)) (M.pure t34)).bind fun t51 =>
 (M.lift (Ax.pick t49 t51 (V.bool false))).bind fun t52 =>
 (guarded [(0,t52)] (some (0,true)) (M.lift (Ax.faddr 0 t7))).bind fun t54 =>
 (guarded [(0,t52)] (some (0,true)) (M.lift (Ax.faddr 0 t54))).bind fun t55 =>
 (guarded [(0,t52)] (some (0,true)) (M.lift (Ax.iaddr (some 8) 1 t55 (V.int .i64 0)))).bind fun t56 =>
 (guarded [(0,t52)] (some (0,true)) (mload none t56)).bind fun t57 =>
 (M.lift (Ax.pick t52 t57 (V.bool false))).bind fun t58 =>
 (guarded [(0,t58)] (some (0,true)) (M.lift (Ax.faddr 0 t7))).bind fun t60 =>
 (guarded [(0,t58)] (some (0,true)) (M.lift (Ax.faddr 8 t60))).bind fun t61 =>
 (guarded [(0,t58)] (some (0,true)) (M.lift (Ax.iaddr (some 8) 1 t61 (V.int .i64 0)))).bind fun t62 =>
 (guarded [(0,t58)] (some (0,true)) (mload none t62)).bind fun t63 =>
 (guarded [(0,t58)] (some (0,true)) (M.lift (Ax.bin .eql t63 (V.int .i64 5)))).bind fun t64 =>
 (M.lift (Ax.pick t58 t64 (V.bool false))).bind fun t65 =>
 M.pure (.ret [t65]))
noncomputable def zeE:Fn':=(T zbG).getD noF
theorem zmF:T zbG = some zeE:=by kernel_rfl
theorem znj (G:Sem'):execK G zeE.rv zeE.body [] [] (params 0 []) = zhY G:=by kernel_rfl
def zfh (G:Sem'):List V → M V
 | []=>fin (zhY G)
 | _=>M.fail
theorem zoc {g:Sem'} (hg:Sims g (sem T)) (args:List V):Sim (zfh g args) (sem T zbG args):=by
 unfold zfh
 split
 ·exact zad zmF (Nat.le_of_ble_eq_true (by kernel_rfl)) hg (znj g)
 ·exact zaa
def zhX (G:Sem') (t0 t1 t2:V):M Res :=
 (M.lift (Ax.build [(V.int .i64 0),(V.int .i64 0),(V.int .i64 0),(V.int .i64 0),(V.int .i64 0),(V.int .i64 0),V.nils] [(0,1,(V.int .i64 1)),(1,1,t2)])).bind fun t15 =>
 (G zaH [t15]).bind fun t16 =>
 (M.lift (Ax.build [(V.int .i64 0),(V.int .i64 0),(V.int .i64 0),V.nils] [(0,1,(V.int .i64 2)),(1,1,t1),(3,1,t16)])).bind fun t17 =>
 (G zau [t0,t17]).bind fun t18 =>
 (M.lift (Ax.build [(V.int .i64 0),(V.int .i64 0),(V.int .i64 0),V.nils] [(0,1,(V.int .i64 5)),(1,1,t1),(2,1,(V.int .i64 32))])).bind fun t22 =>
 (G zau [t0,t22]).bind fun t23 =>
 (M.lift (Ax.ext 0 t23)).bind fun t24 =>
 (M.lift (Ax.ext 1 t23)).bind fun t25 =>
 (M.lift (Ax.bin .neq t25 (V.int .i64 0))).bind fun t27 =>
 (guarded [(0,t27)] (some (0,false)) (M.pure t24)).bind fun t29 =>
 (guarded [(0,t27)] (some (0,false)) (M.lift (vlen t29))).bind fun t30 =>
 (guarded [(0,t27)] (some (0,false)) (M.lift (Ax.bin .eql t30 (V.int .i64 0)))).bind fun t31 =>
 (M.lift (Ax.pick t27 (V.bool true) t31)).bind fun t32 =>
 M.ite t32
 (M.pure (.ret [(V.int .i64 0),(V.bool false)]))
 ((M.lift (vlen t24)).bind fun t36 =>
 (M.lift (Ax.bin .sub t36 (V.int .i64 1))).bind fun t37 =>
 (M.lift (Ax.iaddr none 3 t24 t37)).bind fun t38 =>
 (M.lift (Ax.faddr 2 t38)).bind fun t39 =>
 (mload none t39).bind fun t40 =>
 (G zaK [t40]).bind fun t41 =>
 (M.lift (Ax.ext 0 t41)).bind fun t42 =>
 (M.lift (Ax.ext 1 t41)).bind fun t43 =>
 (mbox zaG (V.agg [(V.int .i64 0),(V.int .i64 0),(V.int .i64 0),(V.int .i64 0),(V.int .i64 0),(V.int .i64 0),V.nils])).bind fun t10 =>
 (mstore 7 t10 t42).bind fun _ =>
 (M.lift (Ax.faddr 2 t10)).bind fun t44 =>
 (mload none t44).bind fun t45 =>
 (M.lift (Ax.bin .eql t43 (V.int .i64 0))).bind fun t47 =>
 (guarded [(0,t47)] (some (0,true)) (M.lift (Ax.faddr 0 t10))).bind fun t49 =>
 (guarded [(0,t47)] (some (0,true)) (mload none t49)).bind fun t50 =>
 (guarded [(0,t47)] (some (0,true)) (M.lift (Ax.bin .eql t50 (V.int .i64 17)))).bind fun t51 =>
 (M.lift (Ax.pick t47 t51 (V.bool false))).bind fun t52 =>
 (guarded [(0,t52)] (some (0,true)) (M.lift (Ax.faddr 1 t10))).bind fun t54 =>
 (guarded [(0,t52)] (some (0,true)) (mload none t54)).bind fun t55 =>
 (guarded [(0,t52)] (some (0,true)) (M.pure t2)).bind fun t56 =>
 (guarded [(0,t52)] (some (0,true)) (M.lift (Ax.bin .eql t55 t56))).bind fun t57 =>
 (M.lift (Ax.pick t52 t57 (V.bool false))).bind fun t58 =>
 M.pure (.ret [t45,t58]))
noncomputable def zeD:Fn':=(T zbe).getD noF
theorem zmE:T zbe = some zeD:=by kernel_rfl
theorem zni (G:Sem') (t0 t1 t2:V):execK G zeD.rv zeD.body [] [] (params 0 [t0,t1,t2]) = zhX G t0 t1 t2:=by kernel_rfl
def zfg (G:Sem'):List V → M V
 | [t0,t1,t2]=>fin (zhX G t0 t1 t2)
 | _=>M.fail
theorem zob {g:Sem'} (hg:Sims g (sem T)) (args:List V):Sim (zfg g args) (sem T zbe args):=by
 unfold zfg
 split
 ·exact zad zmE (Nat.le_of_ble_eq_true (by kernel_rfl)) hg (zni g _ _ _)
 ·exact zaa
def znZ (G:Sem') (t0 t1:V):M Res :=
 (mbox zbp (V.agg [(V.bool false),(V.bool false),(V.bool false),(V.bool false),(V.bool false),(V.bool false),(V.bool false),(V.bool false),(V.int .i64 0),(V.int .i64 0),(V.int .i64 0),(V.int .i64 0),(V.int .i64 0),(V.int .i64 0),(V.int .i64 0),(V.int .i64 0),(V.int .i64 0),(V.bool false),(V.int .i64 0),(V.int .i64 0),(V.int .i64 0),(V.int .i64 0),(V.int .i64 0),(V.int .i64 0),(V.int .i64 0),(V.int .i64 0),(V.int .i64 0),(V.int .i64 0),(V.int .i64 0),(V.int .i64 0),(V.int .i64 0),(V.int .i64 0),(V.int .i64 0),(V.int .i64 0),(V.int .i64 0),(V.int .i64 0),(V.int .i64 0),(V.int .i64 0),(V.bool false)])).bind fun t4 =>
 (M.lift (Ax.bin .lss t1 (V.int .i64 0))).bind fun t7 =>
 (guarded [(0,t7)] (some (0,false)) (M.pure t1)).bind fun t9 =>
 (guarded [(0,t7)] (some (0,false)) (M.lift (Ax.bin .geq t9 (V.int .i64 4)))).bind fun t10 =>
 (M.lift (Ax.pick t7 (V.bool true) t10)).bind fun t11 =>
 M.ite t11
 ((M.lift (Ax.build [(V.bool false),(V.bool false),(V.bool false),(V.bool false),(V.bool false),(V.bool false),(V.bool false),(V.bool false),(V.int .i64 0),(V.int .i64 0),(V.int .i64 0),(V.int .i64 0),(V.int .i64 0),(V.int .i64 0),(V.int .i64 0),(V.int .i64 0),(V.int .i64 0),(V.bool false),(V.int .i64 0),(V.int .i64 0),(V.int .i64 0),(V.int .i64 0),(V.int .i64 0),(V.int .i64 0),(V.int .i64 0),(V.int .i64 0),(V.int .i64 0),(V.int .i64 0),(V.int .i64 0),(V.int .i64 0),(V.int .i64 0),(V.int .i64 0),(V.int .i64 0),(V.int .i64 0),(V.int .i64 0),(V.int .i64 0),(V.int .i64 0),(V.int .i64 0),(V.bool false)] [])).bind fun t12 =>
 (mstore 39 t4 t12).bind fun _ =>
 (mload (some 39) t4).bind fun r0 =>
 M.pure (.ret [r0,(V.bool false)]))
 ((M.lift (Ax.nilck t0)).bind fun t15 =>
 (M.lift (Ax.faddr 0 t15)).bind fun t16 =>
 (M.lift (Ax.iaddr (some 4) 367 t16 t1)).bind fun t17 =>
 (M.lift (Ax.faddr 0 t17)).bind fun t18 =>
 (mload (some 39) t18).bind fun t19 =>
 (mstore 39 t4 t19).bind fun _ =>
 (mload (some 39) t4).bind fun r0 =>
 M.pure (.ret [r0,(V.bool true)]))
noncomputable def zil:Fn':=(T zct).getD noF
theorem ztt:T zct = some zil:=by kernel_rfl
theorem zun (G:Sem') (t0 t1:V):execK G zil.rv zil.body [] [] (params 0 [t0,t1]) = znZ G t0 t1:=by kernel_rfl
def zjN (G:Sem'):List V → M V
 | [t0,t1]=>fin (znZ G t0 t1)
 | _=>M.fail
theorem zvJ {g:Sem'} (hg:Sims g (sem T)) (args:List V):Sim (zjN g args) (sem T zct args):=by
 unfold zjN
 split
 ·exact zad ztt (Nat.le_of_ble_eq_true (by kernel_rfl)) hg (zun g _ _)
 ·exact zaa
def zqv (G:Sem') (t0 t1:V):M Res :=
 (mbox zzk t1).bind fun t3 =>
 (M.lift (Ax.faddr 0 t3)).bind fun t6 =>
 (mload none t6).bind fun t7 =>
 (M.lift (Ax.bin .lss t7 (V.int .i64 1))).bind fun t8 =>
 (guarded [(0,t8)] (some (0,false)) (M.lift (Ax.faddr 0 t3))).bind fun t10 =>
 (guarded [(0,t8)] (some (0,false)) (mload none t10)).bind fun t11 =>
 (guarded [(0,t8)] (some (0,false)) (M.lift (Ax.bin .gtr t11 (V.int .i64 5)))).bind fun t12 =>
 (M.lift (Ax.pick t8 (V.bool true) t12)).bind fun t13 =>
 (guarded [(0,t13)] (some (0,false)) (M.lift (Ax.faddr 0 t3))).bind fun t15 =>
 (guarded [(0,t13)] (some (0,false)) (mload none t15)).bind fun t16 =>
 (guarded [(0,t13)] (some (0,false)) (M.lift (Ax.bin .neq t16 (V.int .i64 3)))).bind fun t17 =>
 (guarded [(0,t13)] (some (0,false)) (M.pure t17)).bind fun t18 =>
 (guarded [(0,t18)] (some (0,true)) (M.lift (Ax.faddr 0 t3))).bind fun t19 =>
 (guarded [(0,t18)] (some (0,true)) (mload none t19)).bind fun t20 =>
 (guarded [(0,t18)] (some (0,true)) (M.lift (Ax.bin .neq t20 (V.int .i64 4)))).bind fun t21 =>
 (guarded [(0,t13)] (some (0,false)) (M.lift (Ax.pick t18 t21 (V.bool false)))).bind fun t22 =>
 (guarded [(0,t13)] (some (0,false)) (M.pure t22)).bind fun t23 =>
 (guarded [(0,t23)] (some (0,true)) (M.lift (Ax.faddr 1 t3))).bind fun t24 =>
 (guarded [(0,t23)] (some (0,true)) (mload none t24)).bind fun t25 =>
 (guarded [(0,t23)] (some (0,true)) (G zfD [t25])).bind fun t26 =>
 (guarded [(0,t23)] (some (0,true)) (M.lift (Ax.un .not t26))).bind fun t27 =>
 (guarded [(0,t13)] (some (0,false)) (M.lift (Ax.pick t23 t27 (V.bool false)))).bind fun t28 =>
 (M.lift (Ax.pick t13 (V.bool true) t28)).bind fun t29 =>
 M.ite t29
 (M.pure (.ret [V.nils,(V.int .i64 1)]))
 ((M.lift (Ax.faddr 0 t3)).bind fun t30 =>
 (mload none t30).bind fun t31 =>
 M.blk 0 (
 (M.lift (Ax.bin .eql t31 (V.int .i64 1))).bind fun t47 =>
 M.join (M.ite t47
 ((M.lift (Ax.faddr 1 t3)).bind fun t49 =>
 (mload none t49).bind fun t50 =>
 (M.lift (Ax.faddr 3 t3)).bind fun t51 =>
 (mload none t51).bind fun t52 =>
 (G zbW [t0,t50,t52]).bind fun t53 =>
 M.pure (.nrm []))
 ((M.lift (Ax.bin .eql t31 (V.int .i64 2))).bind fun t55 =>
 M.join (M.ite t55
 ((M.lift (Ax.faddr 1 t3)).bind fun t57 =>
 (mload none t57).bind fun t58 =>
 (M.lift (Ax.faddr 3 t3)).bind fun t59 =>
 (mload none t59).bind fun t60 =>
 (G zdg [t0,t58,t60]).bind fun t61 =>
 M.pure (.nrm []))
 ((M.lift (Ax.bin .eql t31 (V.int .i64 3))).bind fun t63 =>
 M.join (M.ite t63
 ((M.lift (Ax.faddr 2 t3)).bind fun t64 =>
 (mload none t64).bind fun t65 =>
 (M.lift (Ax.bin .lss t65 (V.int .i64 0))).bind fun t66 =>
 (guarded [(0,t66)] (some (0,false)) (M.lift (Ax.faddr 2 t3))).bind fun t68 =>
 (guarded [(0,t66)] (some (0,false)) (mload none t68)).bind fun t69 =>
 (guarded [(0,t66)] (some (0,false)) (M.lift (Ax.bin .gtr t69 (V.int .i64 100000)))).bind fun t70 =>
 (M.lift (Ax.pick t66 (V.bool true) t70)).bind fun t71 =>
 M.ite t71
 (M.pure (.ret [V.nils,(V.int .i64 1)]))
 ((M.lift (Ax.faddr 2 t3)).bind fun t73 =>
 (mload none t73).bind fun t74 =>
 (G zdd [t0,t74]).bind fun t75 =>
 M.pure (.nrm [])))
 ((M.lift (Ax.bin .eql t31 (V.int .i64 4))).bind fun t77 =>
 M.ite t77
 ((M.lift (Ax.faddr 2 t3)).bind fun t78 =>
 (mload none t78).bind fun t79 =>
 (M.lift (Ax.bin .lss t79 (V.int .i64 0))).bind fun t80 =>
 (guarded [(0,t80)] (some (0,false)) (M.lift (Ax.faddr 2 t3))).bind fun t82 =>
 (guarded [(0,t80)] (some (0,false)) (mload none t82)).bind fun t83 =>
 (guarded [(0,t80)] (some (0,false)) (M.lift (Ax.bin .gtr t83 (V.int .i64 4294967295)))).bind fun t84 =>
 (M.lift (Ax.pick t80 (V.bool true) t84)).bind fun t85 =>
 M.ite t85
 (M.pure (.ret [V.nils,(V.int .i64 1)]))
 ((M.lift (Ax.nilck t0)).bind fun t87 =>
 (M.lift (Ax.faddr 1469 t87)).bind fun t88 =>
 (mload none t88).bind fun t89 =>
 (M.lift (vlen t89)).bind fun t90 =>
 (M.lift (Ax.bin .geq t90 (V.int .i64 16))).bind fun t91 =>
 M.ite t91
 (M.pure (.ret [V.nils,(V.int .i64 5)]))
 ((M.lift (Ax.nilck t0)).bind fun t94 =>
 (M.lift (Ax.faddr 1469 t94)).bind fun t95 =>
 (mload none t95).bind fun t96 =>
 (M.lift (Ax.faddr 2 t3)).bind fun t97 =>
 (mload none t97).bind fun t98 =>
 (M.lift (Ax.cint .u32 t98)).bind fun t99 =>
 (mslit zfn 1 [(V.int .u32 0)] [(0,1,t99)]).bind fun t100 =>
 (mappend zfn 1 4 t96 t100).bind fun t101 =>
 (M.lift (Ax.nilck t0)).bind fun t102 =>
 (M.lift (Ax.faddr 1469 t102)).bind fun t103 =>
 (mstore 1 t103 t101).bind fun _ =>
 M.pure (.nrm []))))
 ((M.lift (Ax.faddr 2 t3)).bind fun t32 =>
 (mload none t32).bind fun t33 =>
 (M.lift (Ax.bin .lss t33 (V.int .i64 0))).bind fun t34 =>
 (guarded [(0,t34)] (some (0,false)) (M.lift (Ax.faddr 2 t3))).bind fun t36 =>
 (guarded [(0,t34)] (some (0,false)) (mload none t36)).bind fun t37 =>
 (guarded [(0,t34)] (some (0,false)) (M.lift (Ax.bin .gtr t37 (V.int .i64 32)))).bind fun t38 =>
 (M.lift (Ax.pick t34 (V.bool true) t38)).bind fun t39 =>
 M.ite t39
 (M.pure (.ret [V.nils,(V.int .i64 1)]))
 ((M.lift (Ax.faddr 1 t3)).bind fun t41 =>
 (mload none t41).bind fun t42 =>
 (M.lift (Ax.faddr 2 t3)).bind fun t43 =>
 (mload none t43).bind fun t44 =>
 (G zcK [t0,t42,t44]).bind fun t45 =>
 M.pure (.ret [t45,(V.int .i64 0)]))))) fun _ =>
 M.pure (.nrm []))) fun _ =>
 M.pure (.nrm []))) fun _ =>
 M.pure (.nrm [])) fun _ =>
 M.pure (.ret [V.nils,(V.int .i64 0)]))
noncomputable def zkl:Fn':=(T zau).getD noF
theorem zwk:T zau = some zkl:=by kernel_rfl
theorem zxv (G:Sem') (t0 t1:V):execK G zkl.rv zkl.body [] [] (params 0 [t0,t1]) = zqv G t0 t1:=by kernel_rfl
def zlV (G:Sem'):List V → M V
 | [t0,t1]=>fin (zqv G t0 t1)
 | _=>M.fail
theorem zym {g:Sem'} (hg:Sims g (sem T)) (args:List V):Sim (zlV g args) (sem T zau args):=by
 unfold zlV
 split
 ·exact zad zwk (Nat.le_of_ble_eq_true (by kernel_rfl)) hg (zxv g _ _)
 ·exact zaa
def zmp (G:Sem') (t0 t1:V):M Res :=
 (M.lift (Ax.nilck t0)).bind fun t6 =>
 (M.lift (Ax.faddr 1534 t6)).bind fun t7 =>
 (mload none t7).bind fun t8 =>
 (G zc8 [t8,t1]).bind fun t10 =>
 M.pure (.ret [t10])
noncomputable def zhy:Fn':=(T zbM).getD noF
theorem zr2:T zbM = some zhy:=by kernel_rfl
theorem zs3 (G:Sem') (t0 t1:V):execK G zhy.rv zhy.body [] [] (params 0 [t0,t1]) = zmp G t0 t1:=by kernel_rfl
def ziR (G:Sem'):List V → M V
 | [t0,t1]=>fin (zmp G t0 t1)
 | _=>M.fail
theorem ztO {g:Sem'} (hg:Sims g (sem T)) (args:List V):Sim (ziR g args) (sem T zbM args):=by
 unfold ziR
 split
 ·exact zad zr2 (Nat.le_of_ble_eq_true (by kernel_rfl)) hg (zs3 g _ _)
 ·exact zaa
def zmo (G:Sem') (t0 t1:V):M Res :=
 (G zfD [t1]).bind fun t6 =>
 (M.lift (Ax.un .not t6)).bind fun t7 =>
 M.ite t7
 (M.pure (.ret [(V.int .i64 0)]))
 ((M.lift (Ax.nilck t0)).bind fun t10 =>
 (M.lift (Ax.faddr 1470 t10)).bind fun t11 =>
 (M.lift (Ax.iaddr (some 64) 1 t11 t1)).bind fun t12 =>
 (mload none t12).bind fun t13 =>
 (G zbj [t13]).bind fun t14 =>
 M.pure (.ret [t14]))
noncomputable def zhx:Fn':=(T zcb).getD noF
theorem zr1:T zcb = some zhx:=by kernel_rfl
theorem zs2 (G:Sem') (t0 t1:V):execK G zhx.rv zhx.body [] [] (params 0 [t0,t1]) = zmo G t0 t1:=by kernel_rfl
def ziQ (G:Sem'):List V → M V
 | [t0,t1]=>fin (zmo G t0 t1)
 | _=>M.fail
theorem ztN {g:Sem'} (hg:Sims g (sem T)) (args:List V):Sim (ziQ g args) (sem T zcb args):=by
 unfold ziQ
 split
 ·exact zad zr1 (Nat.le_of_ble_eq_true (by kernel_rfl)) hg (zs2 g _ _)
 ·exact zaa
def zhV (G:Sem') (t0:V):M Res :=
 (mbox zaG (V.agg [(V.int .i64 0),(V.int .i64 0),(V.int .i64 0),(V.int .i64 0),(V.int .i64 0),(V.int .i64 0),V.nils])).bind fun t2 =>
 (M.lift (vlen t0)).bind fun t7 =>
 (M.lift (Ax.bin .lss t7 (V.int .i64 11))).bind fun t8 =>
 M.ite t8
 ((M.lift (Ax.build [(V.int .i64 0),(V.int .i64 0),(V.int .i64 0),(V.int .i64 0),(V.int .i64 0),(V.int .i64 0),V.nils] [])).bind fun t9 =>
 (mstore 7 t2 t9).bind fun _ =>
 (mload (some 7) t2).bind fun r0 =>
 M.pure (.ret [r0,(V.int .i64 3)]))
 ((M.lift (Ax.iaddr none 1 t0 (V.int .i64 0))).bind fun t11 =>
 (mload none t11).bind fun t12 =>
 (M.lift (Ax.cint .i64 t12)).bind fun t13 =>
 (M.lift (Ax.iaddr none 1 t0 (V.int .i64 1))).bind fun t15 =>
 (mload none t15).bind fun t16 =>
 (M.lift (Ax.cint .i64 t16)).bind fun t17 =>
 (M.lift (Ax.iaddr none 1 t0 (V.int .i64 2))).bind fun t19 =>
 (mload none t19).bind fun t20 =>
 (M.lift (Ax.cint .i64 t20)).bind fun t21 =>
 M.getH.bind fun h0 =>
 (G za0 [t0,(V.int .i64 3)]).bind fun t23 =>
 M.getH.bind fun h0' =>
 (M.unch t19 h0 h0').bind fun _ =>
 (M.unch t15 h0 h0').bind fun _ =>
 (M.unch t11 h0 h0').bind fun _ =>
 M.getH.bind fun h1 =>
 (G za0 [t0,(V.int .i64 5)]).bind fun t25 =>
 M.getH.bind fun h1' =>
 (M.unch t19 h1 h1').bind fun _ =>
 (M.unch t15 h1 h1').bind fun _ =>
 (M.unch t11 h1 h1').bind fun _ =>
 M.getH.bind fun h2 =>
 (G za0 [t0,(V.int .i64 7)]).bind fun t27 =>
 M.getH.bind fun h2' =>
 (M.unch t19 h2 h2').bind fun _ =>
 (M.unch t15 h2 h2').bind fun _ =>
 (M.unch t11 h2 h2').bind fun _ =>
 (M.lift (Ax.build [(V.int .i64 0),(V.int .i64 0),(V.int .i64 0),(V.int .i64 0),(V.int .i64 0),(V.int .i64 0),V.nils] [(0,1,t13),(1,1,t17),(2,1,t21),(3,1,t23),(4,1,t25),(5,1,t27),(6,1,V.nils)])).bind fun t28 =>
 (mbox zaG (V.agg [(V.int .i64 0),(V.int .i64 0),(V.int .i64 0),(V.int .i64 0),(V.int .i64 0),(V.int .i64 0),V.nils])).bind fun t4 =>
 (mstore 7 t4 t28).bind fun _ =>
 (G za0 [t0,(V.int .i64 9)]).bind fun t30 =>
 M.blk 0 (
 (M.lift (Ax.bin .gtr t30 (V.int .i64 200))).bind fun t33 =>
 M.ite t33
 ((M.lift (Ax.build [(V.int .i64 0),(V.int .i64 0),(V.int .i64 0),(V.int .i64 0),(V.int .i64 0),(V.int .i64 0),V.nils] [])).bind fun t34 =>
 (mstore 7 t2 t34).bind fun _ =>
 (mload (some 7) t2).bind fun r0 =>
 M.pure (.ret [r0,(V.int .i64 4)]))
 ((M.lift (vlen t0)).bind fun t38 =>
 (M.lift (Ax.bin .sub t38 (V.int .i64 11))).bind fun t39 =>
 (M.lift (Ax.bin .gtr t30 t39)).bind fun t40 =>
 M.ite t40
 ((M.lift (Ax.build [(V.int .i64 0),(V.int .i64 0),(V.int .i64 0),(V.int .i64 0),(V.int .i64 0),(V.int .i64 0),V.nils] [])).bind fun t41 =>
 (mstore 7 t2 t41).bind fun _ =>
 (mload (some 7) t2).bind fun r0 =>
 M.pure (.ret [r0,(V.int .i64 3)]))
 ((M.lift (vlen t0)).bind fun t45 =>
 (M.lift (Ax.bin .sub t45 (V.int .i64 11))).bind fun t46 =>
 (M.lift (Ax.bin .lss t30 t46)).bind fun t47 =>
 M.ite t47
 ((M.lift (Ax.build [(V.int .i64 0),(V.int .i64 0),(V.int .i64 0),(V.int .i64 0),(V.int .i64 0),(V.int .i64 0),V.nils] [])).bind fun t48 =>
 (mstore 7 t2 t48).bind fun _ =>
 (mload (some 7) t2).bind fun r0 =>
 M.pure (.ret [r0,(V.int .i64 2)]))
 (M.pure (.nrm []))))) fun _ =>
 (mslit zaw 0 [(V.int .u8 0)] []).bind fun t49 =>
 (M.lift (zcx .sl 1 t0 (some (V.int .i64 11)) none none)).bind fun t51 =>
 (mappend zaw 1 1 t49 t51).bind fun t52 =>
 (M.lift (Ax.faddr 6 t4)).bind fun t53 =>
 (mstore 1 t53 t52).bind fun _ =>
 (mload (some 7) t4).bind fun t54 =>
 (G zbo [t54]).bind fun t55 =>
 (M.lift (Ax.un .not t55)).bind fun t56 =>
 M.ite t56
 ((M.lift (Ax.build [(V.int .i64 0),(V.int .i64 0),(V.int .i64 0),(V.int .i64 0),(V.int .i64 0),(V.int .i64 0),V.nils] [])).bind fun t57 =>
 (mstore 7 t2 t57).bind fun _ =>
 (mload (some 7) t2).bind fun r0 =>
 M.pure (.ret [r0,(V.int .i64 2)]))
 ((mload (some 7) t4).bind fun t58 =>
 (mstore 7 t2 t58).bind fun _ =>
 (mload (some 7) t2).bind fun r0 =>
 M.pure (.ret [r0,(V.int .i64 0)])))
noncomputable def zeB:Fn':=(T zaK).getD noF
theorem zmC:T zaK = some zeB:=by kernel_rfl
theorem zng (G:Sem') (t0:V):execK G zeB.rv zeB.body [] [] (params 0 [t0]) = zhV G t0:=by kernel_rfl
def zfe (G:Sem'):List V → M V
 | [t0]=>fin (zhV G t0)
 | _=>M.fail
theorem zn9 {g:Sem'} (hg:Sims g (sem T)) (args:List V):Sim (zfe g args) (sem T zaK args):=by
 unfold zfe
 split
 ·exact zad zmC (Nat.le_of_ble_eq_true (by kernel_rfl)) hg (zng g _)
 ·exact zaa
end Go.Ax.Cc
/- CiK2 -/
namespace Go.Ax.Cc
open Go.Proofs
def zi4 (G:Sem') (t0:V):M Res :=
 (mbox zaG t0).bind fun t1 =>
 (mload (some 7) t1).bind fun t6 =>
 (G zbF [t6]).bind fun t7 =>
 (M.lift (Ax.ext 0 t7)).bind fun t8 =>
 (M.lift (Ax.ext 1 t7)).bind fun t9 =>
 M.pure (.ret [t8])
noncomputable def ze7:Fn':=(T zaH).getD noF
theorem zn4:T zaH = some ze7:=by kernel_rfl
theorem zoh (G:Sem') (t0:V):execK G ze7.rv ze7.body [] [] (params 0 [t0]) = zi4 G t0:=by kernel_rfl
def zfF (G:Sem'):List V → M V
 | [t0]=>fin (zi4 G t0)
 | _=>M.fail
theorem zou {g:Sem'} (hg:Sims g (sem T)) (args:List V):Sim (zfF g args) (sem T zaH args):=by
 unfold zfF
 split
 ·exact zad zn4 (Nat.le_of_ble_eq_true (by kernel_rfl)) hg (zoh g _)
 ·exact zaa
def zn0 (G:Sem') (t0 t1 t2 t3:V):M Res :=
 (M.lift (Ax.bin .lss t1 (V.int .i64 0))).bind fun t12 =>
 (guarded [(0,t12)] (some (0,false)) (M.pure t1)).bind fun t14 =>
 (guarded [(0,t12)] (some (0,false)) (M.lift (Ax.bin .geq t14 (V.int .i64 4)))).bind fun t15 =>
 (M.lift (Ax.pick t12 (V.bool true) t15)).bind fun t16 =>
 (guarded [(0,t16)] (some (0,false)) (M.pure t2)).bind fun t18 =>
 (guarded [(0,t16)] (some (0,false)) (G zfC [t18])).bind fun t19 =>
 (guarded [(0,t16)] (some (0,false)) (M.lift (Ax.un .not t19))).bind fun t20 =>
 (M.lift (Ax.pick t16 (V.bool true) t20)).bind fun t21 =>
 (guarded [(0,t21)] (some (0,false)) (M.pure t3)).bind fun t23 =>
 (guarded [(0,t21)] (some (0,false)) (G zfC [t23])).bind fun t24 =>
 (guarded [(0,t21)] (some (0,false)) (M.lift (Ax.un .not t24))).bind fun t25 =>
 (M.lift (Ax.pick t21 (V.bool true) t25)).bind fun t26 =>
 M.ite t26
 (M.pure (.ret [(V.int .u32 0),(V.bool false)]))
 ((M.lift (Ax.nilck t0)).bind fun t31 =>
 (M.lift (Ax.faddr 0 t31)).bind fun t32 =>
 (M.lift (Ax.iaddr (some 4) 367 t32 t1)).bind fun t33 =>
 (M.lift (Ax.faddr 303 t33)).bind fun t34 =>
 (M.lift (Ax.iaddr (some 8) 8 t34 t2)).bind fun t35 =>
 (M.lift (Ax.iaddr (some 8) 1 t35 t3)).bind fun t36 =>
 (mload none t36).bind fun t37 =>
 (M.lift (eqr .ptr false t37 V.nilp)).bind fun t39 =>
 M.ite t39
 (M.pure (.ret [(V.int .u32 0),(V.bool false)]))
 ((G zbH [t37]).bind fun t41 =>
 M.pure (.ret [t41,(V.bool true)])))
noncomputable def zim:Fn':=(T zcu).getD noF
theorem ztu:T zcu = some zim:=by kernel_rfl
theorem zuo (G:Sem') (t0 t1 t2 t3:V):execK G zim.rv zim.body [] [] (params 0 [t0,t1,t2,t3]) = zn0 G t0 t1 t2 t3:=by kernel_rfl
def zjO (G:Sem'):List V → M V
 | [t0,t1,t2,t3]=>fin (zn0 G t0 t1 t2 t3)
 | _=>M.fail
theorem zvK {g:Sem'} (hg:Sims g (sem T)) (args:List V):Sim (zjO g args) (sem T zcu args):=by
 unfold zjO
 split
 ·exact zad ztu (Nat.le_of_ble_eq_true (by kernel_rfl)) hg (zuo g _ _ _ _)
 ·exact zaa
def zAl (G:Sem') (t18 t1:V) (L:List V):M Res :=
 (M.lift (Ax.bin .lss (L.getD 0 .undef) (V.int .i64 8))).bind fun t20 =>
 M.ite t20
 (M.blk 1 (
 (M.lift (Ax.index 8 1 none t18 (L.getD 0 .undef))).bind fun t22 =>
 (M.lift (Ax.un .not t22)).bind fun t24 =>
 (guarded [(0,t24)] (some (0,true)) (M.pure (L.getD 0 .undef))).bind fun t26 =>
 (guarded [(0,t24)] (some (0,true)) (M.lift (Ax.faddr 22 t1))).bind fun t27 =>
 (guarded [(0,t24)] (some (0,true)) (M.lift (Ax.iaddr (some 8) 1 t27 t26))).bind fun t28 =>
 (guarded [(0,t24)] (some (0,true)) (mload none t28)).bind fun t29 =>
 (guarded [(0,t24)] (some (0,true)) (M.lift (Ax.bin .neq t29 (V.int .i64 0)))).bind fun t30 =>
 (guarded [(0,t24)] (some (0,true)) (M.pure t30)).bind fun t31 =>
 (guarded [(0,t31)] (some (0,false)) (M.pure (L.getD 0 .undef))).bind fun t32 =>
 (guarded [(0,t31)] (some (0,false)) (M.lift (Ax.faddr 30 t1))).bind fun t33 =>
 (guarded [(0,t31)] (some (0,false)) (M.lift (Ax.iaddr (some 8) 1 t33 t32))).bind fun t34 =>
 (guarded [(0,t31)] (some (0,false)) (mload none t34)).bind fun t35 =>
 (guarded [(0,t31)] (some (0,false)) (M.lift (Ax.bin .neq t35 (V.int .i64 0)))).bind fun t36 =>
 (guarded [(0,t24)] (some (0,true)) (M.lift (Ax.pick t31 (V.bool true) t36))).bind fun t37 =>
 (M.lift (Ax.pick t24 t37 (V.bool false))).bind fun t38 =>
 (guarded [(0,t38)] (some (0,false)) (M.pure (L.getD 0 .undef))).bind fun t40 =>
 (guarded [(0,t38)] (some (0,false)) (M.lift (Ax.faddr 30 t1))).bind fun t41 =>
 (guarded [(0,t38)] (some (0,false)) (M.lift (Ax.iaddr (some 8) 1 t41 t40))).bind fun t42 =>
 (guarded [(0,t38)] (some (0,false)) (mload none t42)).bind fun t43 =>
 (guarded [(0,t38)] (some (0,false)) (M.lift (Ax.bin .lss t43 (V.int .i64 0)))).bind fun t44 =>
 (M.lift (Ax.pick t38 (V.bool true) t44)).bind fun t45 =>
 (guarded [(0,t45)] (some (0,false)) (M.pure (L.getD 0 .undef))).bind fun t47 =>
 (guarded [(0,t45)] (some (0,false)) (M.lift (Ax.faddr 30 t1))).bind fun t48 =>
 (guarded [(0,t45)] (some (0,false)) (M.lift (Ax.iaddr (some 8) 1 t48 t47))).bind fun t49 =>
 (guarded [(0,t45)] (some (0,false)) (mload none t49)).bind fun t50 =>
 (guarded [(0,t45)] (some (0,false)) (M.lift (Ax.faddr 16 t1))).bind fun t51 =>
 (guarded [(0,t45)] (some (0,false)) (M.lift (Ax.faddr 0 t51))).bind fun t52 =>
 (guarded [(0,t45)] (some (0,false)) (mload none t52)).bind fun t53 =>
 (guarded [(0,t45)] (some (0,false)) (M.lift (Ax.bin .gtr t50 t53))).bind fun t54 =>
 (M.lift (Ax.pick t45 (V.bool true) t54)).bind fun t55 =>
 M.ite t55
 (M.pure (.ret [(V.bool false)]))
 (M.pure (.nrm []))) fun _ =>
 (M.lift (Ax.bin .add (L.getD 0 .undef) (V.int .i64 1))).bind fun t56 =>
 M.pure (.nrm [t56]))
 (M.pure (.ex 0 []))
def zxb (G:Sem') (t0:V):M Res :=
 (mbox zbp t0).bind fun t1 =>
 (M.lift (Ax.faddr 0 t1)).bind fun t6 =>
 (mload (some 16) t6).bind fun t7 =>
 (G zb4 [t7]).bind fun t8 =>
 (M.lift (Ax.un .not t8)).bind fun t9 =>
 (guarded [(0,t9)] (some (0,false)) (M.lift (Ax.faddr 16 t1))).bind fun t11 =>
 (guarded [(0,t9)] (some (0,false)) (mload (some 6) t11)).bind fun t12 =>
 (guarded [(0,t9)] (some (0,false)) (G zcA [t12])).bind fun t13 =>
 (guarded [(0,t9)] (some (0,false)) (M.lift (Ax.un .not t13))).bind fun t14 =>
 (M.lift (Ax.pick t9 (V.bool true) t14)).bind fun t15 =>
 M.ite t15
 (M.pure (.ret [(V.bool false)]))
 ((M.lift (Ax.faddr 0 t1)).bind fun t16 =>
 (M.lift (Ax.faddr 0 t16)).bind fun t17 =>
 (mload (some 8) t17).bind fun t18 =>
 M.blk 0 (
 M.iter (zAl G t18 t1) [(V.int .i64 0)]) fun _ =>
 (M.lift (Ax.faddr 0 t1)).bind fun t57 =>
 (mload (some 16) t57).bind fun t58 =>
 (G zcZ [t58]).bind fun t59 =>
 (M.lift (Ax.faddr 16 t1)).bind fun t60 =>
 (M.lift (Ax.faddr 1 t60)).bind fun t61 =>
 (mload none t61).bind fun t62 =>
 (M.lift (Ax.un .not t62)).bind fun t63 =>
 (guarded [(0,t63)] (some (0,false)) (M.lift (Ax.faddr 16 t1))).bind fun t65 =>
 (guarded [(0,t63)] (some (0,false)) (M.lift (Ax.faddr 3 t65))).bind fun t66 =>
 (guarded [(0,t63)] (some (0,false)) (mload none t66)).bind fun t67 =>
 (guarded [(0,t63)] (some (0,false)) (M.pure t59)).bind fun t68 =>
 (guarded [(0,t63)] (some (0,false)) (M.lift (Ax.bin .andNot t67 t68))).bind fun t69 =>
 (guarded [(0,t63)] (some (0,false)) (M.lift (Ax.bin .eql t69 (V.int .i64 0)))).bind fun t70 =>
 (M.lift (Ax.pick t63 (V.bool true) t70)).bind fun t71 =>
 (guarded [(0,t71)] (some (0,true)) (M.lift (Ax.faddr 38 t1))).bind fun t73 =>
 (guarded [(0,t71)] (some (0,true)) (mload none t73)).bind fun t74 =>
 (guarded [(0,t71)] (some (0,true)) (M.lift (Ax.un .not t74))).bind fun t75 =>
 (guarded [(0,t71)] (some (0,true)) (M.pure t75)).bind fun t76 =>
 (guarded [(0,t76)] (some (0,false)) (M.pure t59)).bind fun t77 =>
 (guarded [(0,t76)] (some (0,false)) (M.lift (Ax.bin .eql t77 (V.int .i64 0)))).bind fun t78 =>
 (guarded [(0,t71)] (some (0,true)) (M.lift (Ax.pick t76 (V.bool true) t78))).bind fun t79 =>
 (M.lift (Ax.pick t71 t79 (V.bool false))).bind fun t80 =>
 M.pure (.ret [t80]))
noncomputable def zoL:Fn':=(T zer).getD noF
theorem zA9:T zer = some zoL:=by kernel_rfl
theorem zCq (G:Sem') (t0:V):execK G zoL.rv zoL.body [] [] (params 0 [t0]) = zxb G t0:=by kernel_rfl
def zrA (G:Sem'):List V → M V
 | [t0]=>fin (zxb G t0)
 | _=>M.fail
theorem zDc {g:Sem'} (hg:Sims g (sem T)) (args:List V):Sim (zrA g args) (sem T zer args):=by
 unfold zrA
 split
 ·exact zad zA9 (Nat.le_of_ble_eq_true (by kernel_rfl)) hg (zCq g _)
 ·exact zaa
def znI (G:Sem') (t0:V):M Res :=
 (M.lift (Ax.minmax true t0 [(V.int .i64 0)])).bind fun t4 =>
 (M.lift (Ax.minmax false t4 [(V.int .i64 100)])).bind fun t5 =>
 (mmkslice zwa 8 [(V.int .i64 0)] t5 t5).bind fun t6 =>
 (M.lift (Ax.build [V.nils] [(0,1,t6)])).bind fun t7 =>
 (mbox zxS t7).bind fun t8 =>
 M.pure (.ret [t8])
noncomputable def zh4:Fn':=(T zc7).getD noF
theorem ztc:T zc7 = some zh4:=by kernel_rfl
theorem zt6 (G:Sem') (t0:V):execK G zh4.rv zh4.body [] [] (params 0 [t0]) = znI G t0:=by kernel_rfl
def zjw (G:Sem'):List V → M V
 | [t0]=>fin (znI G t0)
 | _=>M.fail
theorem zvs {g:Sem'} (hg:Sims g (sem T)) (args:List V):Sim (zjw g args) (sem T zc7 args):=by
 unfold zjw
 split
 ·exact zad ztc (Nat.le_of_ble_eq_true (by kernel_rfl)) hg (zt6 g _)
 ·exact zaa
def zkr (G:Sem') (t0:V):M Res :=
 (M.lift (Ax.minmax true t0 [(V.int .i64 1)])).bind fun t4 =>
 (M.lift (Ax.minmax false t4 [(V.int .i64 1000)])).bind fun t5 =>
 (M.lift (Ax.build [(V.int .i64 0),V.nils] [(0,1,t5)])).bind fun t6 =>
 (mbox zok t6).bind fun t7 =>
 M.pure (.ret [t7])
noncomputable def zga:Fn':=(T zcf).getD noF
theorem zpW:T zcf = some zga:=by kernel_rfl
theorem zqd (G:Sem') (t0:V):execK G zga.rv zga.body [] [] (params 0 [t0]) = zkr G t0:=by kernel_rfl
def zgL (G:Sem'):List V → M V
 | [t0]=>fin (zkr G t0)
 | _=>M.fail
theorem zqK {g:Sem'} (hg:Sims g (sem T)) (args:List V):Sim (zgL g args) (sem T zcf args):=by
 unfold zgL
 split
 ·exact zad zpW (Nat.le_of_ble_eq_true (by kernel_rfl)) hg (zqd g _)
 ·exact zaa
def zxi (G:Sem') (t0:V):M Res :=
 (M.lift (Ax.bin .geq t0 (V.int .i64 0))).bind fun t4 =>
 (guarded [(0,t4)] (some (0,true)) (M.pure t0)).bind fun t6 =>
 (guarded [(0,t4)] (some (0,true)) (M.lift (Ax.bin .leq t6 (V.int .i64 63)))).bind fun t7 =>
 (M.lift (Ax.pick t4 t7 (V.bool false))).bind fun t8 =>
 M.pure (.ret [t8])
noncomputable def zoR:Fn':=(T zfD).getD noF
theorem zBf:T zfD = some zoR:=by kernel_rfl
theorem zCw (G:Sem') (t0:V):execK G zoR.rv zoR.body [] [] (params 0 [t0]) = zxi G t0:=by kernel_rfl
def zrG (G:Sem'):List V → M V
 | [t0]=>fin (zxi G t0)
 | _=>M.fail
theorem zDi {g:Sem'} (hg:Sims g (sem T)) (args:List V):Sim (zrG g args) (sem T zfD args):=by
 unfold zrG
 split
 ·exact zad zBf (Nat.le_of_ble_eq_true (by kernel_rfl)) hg (zCw g _)
 ·exact zaa
def zjW (G:Sem') (t0 t1 t2:V):M Res :=
 (M.lift (vlen t2)).bind fun t12 =>
 (M.lift (Ax.bin .gtr t12 (V.int .i64 1200))).bind fun t13 =>
 M.ite t13
 ((M.lift (Ax.nilck t0)).bind fun t15 =>
 (M.lift (Ax.faddr 1534 t15)).bind fun t16 =>
 (mload none t16).bind fun t17 =>
 (G zaE [t17,(V.int .i64 1)]).bind fun t18 =>
 M.pure (.ret []))
 ((G zb7 [t0,t1]).bind fun t22 =>
 (M.lift (Ax.ext 0 t22)).bind fun t23 =>
 (M.lift (Ax.ext 1 t22)).bind fun t24 =>
 (M.lift (Ax.ext 2 t22)).bind fun t25 =>
 (M.lift (Ax.un .not t25)).bind fun t27 =>
 M.ite t27
 ((M.lift (Ax.nilck t0)).bind fun t29 =>
 (M.lift (Ax.faddr 1534 t29)).bind fun t30 =>
 (mload none t30).bind fun t31 =>
 (G zaE [t31,(V.int .i64 2)]).bind fun t32 =>
 M.pure (.ret []))
 ((G zb9 [t0,t23,t1]).bind fun t36 =>
 (G ziu [t2]).bind fun t38 =>
 M.ite t38
 ((G zcg [t0,t23,t24,t2]).bind fun t43 =>
 M.pure (.ret []))
 ((G zcq [t23,t24,t2]).bind fun t48 =>
 (M.lift (Ax.ext 0 t48)).bind fun t49 =>
 (M.lift (Ax.ext 1 t48)).bind fun t50 =>
 (mbox zlg (V.agg [(V.bool false),(V.int .i64 0),(V.int .u16 0),(V.int .u32 0),(V.int .u32 0),V.nils,(V.int .i64 0),V.nils,(V.int .i64 0),V.nils,(V.int .i64 0),(V.int .i64 0),(V.bool false),(V.bool false),(V.int .i64 0),(V.int .u16 0),(V.bool false),(V.int .i64 0),(V.int .i64 0),V.nils,(V.int .i64 0),V.nils,V.nils,(V.bool false),(V.int .u32 0),(V.bool false),(V.bool false),(V.bool false),V.nils,V.nils,V.nils])).bind fun t9 =>
 (mstore 31 t9 t49).bind fun _ =>
 (M.lift (Ax.bin .neq t50 (V.int .i64 0))).bind fun t52 =>
 M.ite t52
 ((M.lift (Ax.nilck t0)).bind fun t54 =>
 (M.lift (Ax.faddr 1534 t54)).bind fun t55 =>
 (mload none t55).bind fun t56 =>
 (G zaE [t56,t50]).bind fun t58 =>
 M.pure (.ret []))
 ((mload (some 31) t9).bind fun t62 =>
 (G zcL [t0,t23,t24,t62]).bind fun t63 =>
 M.pure (.ret [])))))
noncomputable def zfu:Fn':=(T zbW).getD noF
theorem zop:T zbW = some zfu:=by kernel_rfl
theorem zpn (G:Sem') (t0 t1 t2:V):execK G zfu.rv zfu.body [] [] (params 0 [t0,t1,t2]) = zjW G t0 t1 t2:=by kernel_rfl
def zgk (G:Sem'):List V → M V
 | [t0,t1,t2]=>fin (zjW G t0 t1 t2)
 | _=>M.fail
theorem zp6 {g:Sem'} (hg:Sims g (sem T)) (args:List V):Sim (zgk g args) (sem T zbW args):=by
 unfold zgk
 split
 ·exact zad zop (Nat.le_of_ble_eq_true (by kernel_rfl)) hg (zpn g _ _ _)
 ·exact zaa
def znV (G:Sem') (t0 t1 t2:V):M Res :=
 (G zfX [t2]).bind fun t13 =>
 (M.lift (Ax.ext 0 t13)).bind fun t14 =>
 (M.lift (Ax.ext 1 t13)).bind fun t15 =>
 (mbox zbU (V.agg [(V.int .i64 0),(V.int .i64 0),(V.int .i64 0),(V.int .i64 0),(V.int .i64 0),(V.int .i64 0),V.nils])).bind fun t6 =>
 (mstore 7 t6 t14).bind fun _ =>
 (M.lift (Ax.bin .eql t15 (V.int .i64 0))).bind fun t17 =>
 (guarded [(0,t17)] (some (0,true)) (M.lift (Ax.faddr 0 t6))).bind fun t19 =>
 (guarded [(0,t17)] (some (0,true)) (mload none t19)).bind fun t20 =>
 (guarded [(0,t17)] (some (0,true)) (M.lift (Ax.bin .gtr t20 (V.int .i64 9)))).bind fun t21 =>
 (M.lift (Ax.pick t17 t21 (V.bool false))).bind fun t22 =>
 M.join (M.ite t22
 (M.pure (.nrm [(V.int .i64 1)]))
 (M.pure (.nrm [t15]))) fun L0 =>
 (M.lift (Ax.bin .neq (L0.getD 0 .undef) (V.int .i64 0))).bind fun t24 =>
 M.ite t24
 ((G zdq [t0,t1,(L0.getD 0 .undef),(V.int .i64 0)]).bind fun t28 =>
 M.pure (.ret []))
 ((G zb7 [t0,t1]).bind fun t32 =>
 (M.lift (Ax.ext 0 t32)).bind fun t33 =>
 (M.lift (Ax.ext 1 t32)).bind fun t34 =>
 (M.lift (Ax.ext 2 t32)).bind fun t35 =>
 M.join (M.ite t35
 ((G zb9 [t0,t33,t1]).bind fun t40 =>
 M.pure (.nrm []))
 (M.pure (.nrm []))) fun _ =>
 M.blk 0 (
 (M.lift (Ax.faddr 0 t6)).bind fun t47 =>
 (mload none t47).bind fun t48 =>
 (M.lift (Ax.bin .eql t48 (V.int .i64 1))).bind fun t49 =>
 (guarded [(0,t49)] (some (0,true)) (M.pure t35)).bind fun t51 =>
 (M.lift (Ax.pick t49 t51 (V.bool false))).bind fun t52 =>
 M.join (M.ite t52
 (M.pure (.nrm [(V.int .i64 7)]))
 ((M.lift (Ax.faddr 0 t6)).bind fun t54 =>
 (mload none t54).bind fun t55 =>
 (M.lift (Ax.bin .eql t55 (V.int .i64 1))).bind fun t56 =>
 M.join (M.ite t56
 ((mload (some 7) t6).bind fun t59 =>
 (G zdh [t0,t1,t59]).bind fun t60 =>
 M.pure (.nrm [t60]))
 ((M.lift (Ax.un .not t35)).bind fun t63 =>
 M.join (M.ite t63
 (M.pure (.nrm [(V.int .i64 6)]))
 ((mload (some 7) t6).bind fun t44 =>
 (G zde [t0,t33,t34,t44]).bind fun t45 =>
 M.pure (.nrm [t45]))) fun L2 =>
 M.pure (.nrm [(L2.getD 0 .undef)]))) fun L3 =>
 M.pure (.nrm [(L3.getD 0 .undef)]))) fun L4 =>
 M.pure (.nrm [(L4.getD 0 .undef)])) fun L5 =>
 (M.lift (Ax.bin .neq (L5.getD 0 .undef) (V.int .i64 0))).bind fun t65 =>
 M.join (M.ite t65
 ((M.lift (Ax.faddr 0 t6)).bind fun t69 =>
 (mload none t69).bind fun t70 =>
 (G zdq [t0,t1,(L5.getD 0 .undef),t70]).bind fun t71 =>
 M.pure (.nrm []))
 (M.pure (.nrm []))) fun _ =>
 M.pure (.ret []))
noncomputable def zih:Fn':=(T zdg).getD noF
theorem ztp:T zdg = some zih:=by kernel_rfl
theorem zuj (G:Sem') (t0 t1 t2:V):execK G zih.rv zih.body [] [] (params 0 [t0,t1,t2]) = znV G t0 t1 t2:=by kernel_rfl
def zjJ (G:Sem'):List V → M V
 | [t0,t1,t2]=>fin (znV G t0 t1 t2)
 | _=>M.fail
theorem zvF {g:Sem'} (hg:Sims g (sem T)) (args:List V):Sim (zjJ g args) (sem T zdg args):=by
 unfold zjJ
 split
 ·exact zad ztp (Nat.le_of_ble_eq_true (by kernel_rfl)) hg (zuj g _ _ _)
 ·exact zaa
def zsB (G:Sem') (t0:V) (L:List V):M Res :=
 (M.lift (Ax.bin .lss (L.getD 0 .undef) (V.int .i64 4))).bind fun t16 =>
 M.ite t16
 (M.blk 1 (
 (M.lift (Ax.nilck t0)).bind fun t20 =>
 (M.lift (Ax.faddr 0 t20)).bind fun t21 =>
 (M.lift (Ax.iaddr (some 4) 367 t21 (L.getD 0 .undef))).bind fun t22 =>
 (M.lift (Ax.nilck t22)).bind fun t24 =>
 (M.lift (Ax.faddr 0 t24)).bind fun t25 =>
 (mload (some 39) t25).bind fun t26 =>
 (mbox zbp (V.agg [(V.bool false),(V.bool false),(V.bool false),(V.bool false),(V.bool false),(V.bool false),(V.bool false),(V.bool false),(V.int .i64 0),(V.int .i64 0),(V.int .i64 0),(V.int .i64 0),(V.int .i64 0),(V.int .i64 0),(V.int .i64 0),(V.int .i64 0),(V.int .i64 0),(V.bool false),(V.int .i64 0),(V.int .i64 0),(V.int .i64 0),(V.int .i64 0),(V.int .i64 0),(V.int .i64 0),(V.int .i64 0),(V.int .i64 0),(V.int .i64 0),(V.int .i64 0),(V.int .i64 0),(V.int .i64 0),(V.int .i64 0),(V.int .i64 0),(V.int .i64 0),(V.int .i64 0),(V.int .i64 0),(V.int .i64 0),(V.int .i64 0),(V.int .i64 0),(V.bool false)])).bind fun t6 =>
 (mstore 39 t6 t26).bind fun _ =>
 (M.lift (Ax.nilck t22)).bind fun t30 =>
 (M.lift (Ax.faddr 0 t30)).bind fun t31 =>
 (mload (some 39) t31).bind fun t32 =>
 (M.lift (Ax.nilck t0)).bind fun t34 =>
 (M.lift (Ax.faddr 1468 t34)).bind fun t35 =>
 (mload none t35).bind fun t36 =>
 (G zgZ [t32,t36]).bind fun t37 =>
 (M.lift (Ax.ext 0 t37)).bind fun t38 =>
 (M.lift (Ax.nilck t22)).bind fun t40 =>
 (M.lift (Ax.faddr 0 t40)).bind fun t41 =>
 (mstore 39 t41 t38).bind fun _ =>
 (M.lift (Ax.ext 1 t37)).bind fun t39 =>
 (mload (some 39) t6).bind fun t44 =>
 (G zbV [t0,t22,t44]).bind fun t45 =>
 M.pure (.nrm [])) fun _ =>
 (M.lift (Ax.bin .add (L.getD 0 .undef) (V.int .i64 1))).bind fun t46 =>
 M.pure (.nrm [t46]))
 (M.pure (.ex 0 []))
def znR (G:Sem') (t0 t1:V):M Res :=
 (M.lift (Ax.nilck t0)).bind fun t8 =>
 (M.lift (Ax.faddr 1468 t8)).bind fun t9 =>
 (mload none t9).bind fun t10 =>
 (M.lift (Ax.bin .add t10 t1)).bind fun t12 =>
 (M.lift (Ax.nilck t0)).bind fun t13 =>
 (M.lift (Ax.faddr 1468 t13)).bind fun t14 =>
 (mstore 1 t14 t12).bind fun _ =>
 M.blk 0 (
 M.iter (zsB G t0) [(V.int .i64 0)]) fun _ =>
 M.pure (.ret [])
noncomputable def zid:Fn':=(T zdd).getD noF
theorem ztl:T zdd = some zid:=by kernel_rfl
theorem zuf (G:Sem') (t0 t1:V):execK G zid.rv zid.body [] [] (params 0 [t0,t1]) = znR G t0 t1:=by kernel_rfl
def zjF (G:Sem'):List V → M V
 | [t0,t1]=>fin (znR G t0 t1)
 | _=>M.fail
theorem zvB {g:Sem'} (hg:Sims g (sem T)) (args:List V):Sim (zjF g args) (sem T zdd args):=by
 unfold zjF
 split
 ·exact zad ztl (Nat.le_of_ble_eq_true (by kernel_rfl)) hg (zuf g _ _)
 ·exact zaa
def zq8 (G:Sem') (t10 t0 t1 t6:V) (L:List V):M Res :=
 (M.lift (Ax.bin .lss (L.getD 1 .undef) t10)).bind fun t12 =>
 M.ite t12
 (M.blk 1 (
 (M.lift (Ax.nilck t0)).bind fun t16 =>
 (M.lift (Ax.faddr 1470 t16)).bind fun t17 =>
 (M.lift (Ax.iaddr (some 64) 1 t17 t1)).bind fun t18 =>
 (mload none t18).bind fun t19 =>
 (G za9 [t19]).bind fun t20 =>
 (M.lift (Ax.ext 0 t20)).bind fun t21 =>
 (M.lift (Ax.ext 1 t20)).bind fun t22 =>
 (mbox zev (V.agg [(V.int .i64 0),(V.int .i64 0),V.nils])).bind fun t8 =>
 (mstore 3 t8 t21).bind fun _ =>
 (M.lift (Ax.un .not t22)).bind fun t24 =>
 M.ite t24
 (M.pure (.ex 0 [(L.getD 0 .undef)]))
 ((mload (some 3) t8).bind fun t26 =>
 (mslit zev 1 [(V.int .i64 0),(V.int .i64 0),V.nils] [(0,3,t26)]).bind fun t27 =>
 (mappend zev 3 40 (L.getD 0 .undef) t27).bind fun t28 =>
 M.pure (.nrm [t28]))) fun L0 =>
 (M.lift (Ax.bin .add (L.getD 1 .undef) (V.int .i64 1))).bind fun t29 =>
 M.pure (.nrm [(L0.getD 0 .undef),t29]))
 (M.pure (.ex 0 [(L.getD 0 .undef)]))
def zmi (G:Sem') (t0 t1 t2:V):M Res :=
 M.blk 0 (
 M.iter (zq8 G t2 t0 t1 V.nils) [V.nils,(V.int .i64 0)]) fun L1 =>
 M.pure (.ret [(L1.getD 0 .undef)])
noncomputable def zhr:Fn':=(T zcK).getD noF
theorem zrV:T zcK = some zhr:=by kernel_rfl
theorem zsW (G:Sem') (t0 t1 t2:V):execK G zhr.rv zhr.body [] [] (params 0 [t0,t1,t2]) = zmi G t0 t1 t2:=by kernel_rfl
def ziK (G:Sem'):List V → M V
 | [t0,t1,t2]=>fin (zmi G t0 t1 t2)
 | _=>M.fail
theorem ztH {g:Sem'} (hg:Sims g (sem T)) (args:List V):Sim (ziK g args) (sem T zcK args):=by
 unfold ziK
 split
 ·exact zad zrV (Nat.le_of_ble_eq_true (by kernel_rfl)) hg (zsW g _ _ _)
 ·exact zaa
def znJ (G:Sem') (t0 t1:V):M Res :=
 (M.lift (Ax.bin .lss t1 (V.int .i64 0))).bind fun t6 =>
 (guarded [(0,t6)] (some (0,false)) (M.pure t1)).bind fun t8 =>
 (guarded [(0,t6)] (some (0,false)) (M.pure t0)).bind fun t9 =>
 (guarded [(0,t6)] (some (0,false)) (M.lift (Ax.nilck t9))).bind fun t10 =>
 (guarded [(0,t6)] (some (0,false)) (M.lift (Ax.faddr 0 t10))).bind fun t11 =>
 (guarded [(0,t6)] (some (0,false)) (mload none t11)).bind fun t12 =>
 (guarded [(0,t6)] (some (0,false)) (M.lift (vlen t12))).bind fun t13 =>
 (guarded [(0,t6)] (some (0,false)) (M.lift (Ax.bin .geq t8 t13))).bind fun t14 =>
 (M.lift (Ax.pick t6 (V.bool true) t14)).bind fun t15 =>
 M.ite t15
 (M.pure (.ret [(V.int .i64 0)]))
 ((M.lift (Ax.nilck t0)).bind fun t17 =>
 (M.lift (Ax.faddr 0 t17)).bind fun t18 =>
 (mload none t18).bind fun t19 =>
 (M.lift (Ax.iaddr none 1 t19 t1)).bind fun t21 =>
 (G zbi [t21]).bind fun t22 =>
 M.pure (.ret [t22]))
noncomputable def zh5:Fn':=(T zc8).getD noF
theorem ztd:T zc8 = some zh5:=by kernel_rfl
theorem zt7 (G:Sem') (t0 t1:V):execK G zh5.rv zh5.body [] [] (params 0 [t0,t1]) = znJ G t0 t1:=by kernel_rfl
def zjx (G:Sem'):List V → M V
 | [t0,t1]=>fin (znJ G t0 t1)
 | _=>M.fail
theorem zvt {g:Sem'} (hg:Sims g (sem T)) (args:List V):Sim (zjx g args) (sem T zc8 args):=by
 unfold zjx
 split
 ·exact zad ztd (Nat.le_of_ble_eq_true (by kernel_rfl)) hg (zt7 g _ _)
 ·exact zaa
def zha (G:Sem') (t0:V):M Res :=
 (M.lift (Ax.nilck t0)).bind fun t4 =>
 (M.lift (Ax.faddr 1 t4)).bind fun t5 =>
 (mload none t5).bind fun t6 =>
 (M.lift (vlen t6)).bind fun t7 =>
 M.pure (.ret [t7])
noncomputable def zdV:Fn':=(T zbj).getD noF
theorem zlj:T zbj = some zdV:=by kernel_rfl
theorem zlL (G:Sem') (t0:V):execK G zdV.rv zdV.body [] [] (params 0 [t0]) = zha G t0:=by kernel_rfl
def zem (G:Sem'):List V → M V
 | [t0]=>fin (zha G t0)
 | _=>M.fail
theorem zl4 {g:Sem'} (hg:Sims g (sem T)) (args:List V):Sim (zem g args) (sem T zbj args):=by
 unfold zem
 split
 ·exact zad zlj (Nat.le_of_ble_eq_true (by kernel_rfl)) hg (zlL g _)
 ·exact zaa
def zjT (G:Sem') (t0 t1:V):M Res :=
 (M.lift (Ax.iaddr none 1 t0 t1)).bind fun t7 =>
 (mload none t7).bind fun t8 =>
 (M.lift (Ax.cint .i64 t8)).bind fun t9 =>
 (M.lift (Ax.bin .shl t9 (V.int .u64 8))).bind fun t10 =>
 (M.lift (Ax.bin .add t1 (V.int .i64 1))).bind fun t13 =>
 (M.lift (Ax.iaddr none 1 t0 t13)).bind fun t14 =>
 (mload none t14).bind fun t15 =>
 (M.lift (Ax.cint .i64 t15)).bind fun t16 =>
 (M.lift (Ax.bin .or t10 t16)).bind fun t17 =>
 M.pure (.ret [t17])
noncomputable def zfr:Fn':=(T za0).getD noF
theorem zom:T za0 = some zfr:=by kernel_rfl
theorem zpk (G:Sem') (t0 t1:V):execK G zfr.rv zfr.body [] [] (params 0 [t0,t1]) = zjT G t0 t1:=by kernel_rfl
def zgh (G:Sem'):List V → M V
 | [t0,t1]=>fin (zjT G t0 t1)
 | _=>M.fail
theorem zp3 {g:Sem'} (hg:Sims g (sem T)) (args:List V):Sim (zgh g args) (sem T za0 args):=by
 unfold zgh
 split
 ·exact zad zom (Nat.le_of_ble_eq_true (by kernel_rfl)) hg (zpk g _ _)
 ·exact zaa
def zi3 (G:Sem') (t0:V):M Res :=
 (mbox zaG t0).bind fun t1 =>
 (M.lift (Ax.faddr 0 t1)).bind fun t5 =>
 (mload none t5).bind fun t6 =>
 (G zbv [t6]).bind fun t7 =>
 (M.lift (Ax.bin .eql t7 (V.str ⟨#[]⟩))).bind fun t9 =>
 (guarded [(0,t9)] (some (0,false)) (M.lift (Ax.faddr 1 t1))).bind fun t11 =>
 (guarded [(0,t9)] (some (0,false)) (mload none t11)).bind fun t12 =>
 (guarded [(0,t9)] (some (0,false)) (G zaJ [t12,(V.int .i64 0),(V.int .i64 3)])).bind fun t13 =>
 (guarded [(0,t9)] (some (0,false)) (M.lift (Ax.un .not t13))).bind fun t14 =>
 (M.lift (Ax.pick t9 (V.bool true) t14)).bind fun t15 =>
 (guarded [(0,t15)] (some (0,false)) (M.lift (Ax.faddr 2 t1))).bind fun t17 =>
 (guarded [(0,t15)] (some (0,false)) (mload none t17)).bind fun t18 =>
 (guarded [(0,t15)] (some (0,false)) (G zaJ [t18,(V.int .i64 0),(V.int .i64 7)])).bind fun t19 =>
 (guarded [(0,t15)] (some (0,false)) (M.lift (Ax.un .not t19))).bind fun t20 =>
 (M.lift (Ax.pick t15 (V.bool true) t20)).bind fun t21 =>
 (guarded [(0,t21)] (some (0,false)) (M.lift (Ax.faddr 3 t1))).bind fun t23 =>
 (guarded [(0,t21)] (some (0,false)) (mload none t23)).bind fun t24 =>
 (guarded [(0,t21)] (some (0,false)) (G zaJ [t24,(V.int .i64 0),(V.int .i64 65535)])).bind fun t25 =>
 (guarded [(0,t21)] (some (0,false)) (M.lift (Ax.un .not t25))).bind fun t26 =>
 (M.lift (Ax.pick t21 (V.bool true) t26)).bind fun t27 =>
 (guarded [(0,t27)] (some (0,false)) (M.lift (Ax.faddr 4 t1))).bind fun t29 =>
 (guarded [(0,t27)] (some (0,false)) (mload none t29)).bind fun t30 =>
 (guarded [(0,t27)] (some (0,false)) (G zaJ [t30,(V.int .i64 0),(V.int .i64 65535)])).bind fun t31 =>
 (guarded [(0,t27)] (some (0,false)) (M.lift (Ax.un .not t31))).bind fun t32 =>
 (M.lift (Ax.pick t27 (V.bool true) t32)).bind fun t33 =>
 (guarded [(0,t33)] (some (0,false)) (M.lift (Ax.faddr 5 t1))).bind fun t35 =>
 (guarded [(0,t33)] (some (0,false)) (mload none t35)).bind fun t36 =>
 (guarded [(0,t33)] (some (0,false)) (G zaJ [t36,(V.int .i64 0),(V.int .i64 65535)])).bind fun t37 =>
 (guarded [(0,t33)] (some (0,false)) (M.lift (Ax.un .not t37))).bind fun t38 =>
 (M.lift (Ax.pick t33 (V.bool true) t38)).bind fun t39 =>
 (guarded [(0,t39)] (some (0,false)) (M.lift (Ax.faddr 6 t1))).bind fun t41 =>
 (guarded [(0,t39)] (some (0,false)) (mload none t41)).bind fun t42 =>
 (guarded [(0,t39)] (some (0,false)) (M.lift (vlen t42))).bind fun t43 =>
 (guarded [(0,t39)] (some (0,false)) (M.lift (Ax.bin .gtr t43 (V.int .i64 200)))).bind fun t44 =>
 (M.lift (Ax.pick t39 (V.bool true) t44)).bind fun t45 =>
 M.ite t45
 (M.pure (.ret [(V.bool false)]))
 ((G zaC [t7,(V.int .u8 114)]).bind fun t47 =>
 (M.lift (Ax.un .not t47)).bind fun t48 =>
 (guarded [(0,t48)] (some (0,true)) (M.lift (Ax.faddr 1 t1))).bind fun t50 =>
 (guarded [(0,t48)] (some (0,true)) (mload none t50)).bind fun t51 =>
 (guarded [(0,t48)] (some (0,true)) (M.lift (Ax.bin .neq t51 (V.int .i64 0)))).bind fun t52 =>
 (M.lift (Ax.pick t48 t52 (V.bool false))).bind fun t53 =>
 (guarded [(0,t53)] (some (0,false)) (M.pure t7)).bind fun t55 =>
 (guarded [(0,t53)] (some (0,false)) (G zaC [t55,(V.int .u8 115)])).bind fun t56 =>
 (guarded [(0,t53)] (some (0,false)) (M.lift (Ax.un .not t56))).bind fun t57 =>
 (guarded [(0,t53)] (some (0,false)) (M.pure t57)).bind fun t58 =>
 (guarded [(0,t58)] (some (0,true)) (M.lift (Ax.faddr 2 t1))).bind fun t59 =>
 (guarded [(0,t58)] (some (0,true)) (mload none t59)).bind fun t60 =>
 (guarded [(0,t58)] (some (0,true)) (M.lift (Ax.bin .neq t60 (V.int .i64 0)))).bind fun t61 =>
 (guarded [(0,t53)] (some (0,false)) (M.lift (Ax.pick t58 t61 (V.bool false)))).bind fun t62 =>
 (M.lift (Ax.pick t53 (V.bool true) t62)).bind fun t63 =>
 (guarded [(0,t63)] (some (0,false)) (M.pure t7)).bind fun t65 =>
 (guarded [(0,t63)] (some (0,false)) (G zaC [t65,(V.int .u8 101)])).bind fun t66 =>
 (guarded [(0,t63)] (some (0,false)) (M.lift (Ax.un .not t66))).bind fun t67 =>
 (guarded [(0,t63)] (some (0,false)) (M.pure t67)).bind fun t68 =>
 (guarded [(0,t68)] (some (0,true)) (M.lift (Ax.faddr 3 t1))).bind fun t69 =>
 (guarded [(0,t68)] (some (0,true)) (mload none t69)).bind fun t70 =>
 (guarded [(0,t68)] (some (0,true)) (M.lift (Ax.bin .neq t70 (V.int .i64 0)))).bind fun t71 =>
 (guarded [(0,t63)] (some (0,false)) (M.lift (Ax.pick t68 t71 (V.bool false)))).bind fun t72 =>
 (M.lift (Ax.pick t63 (V.bool true) t72)).bind fun t73 =>
 (guarded [(0,t73)] (some (0,false)) (M.pure t7)).bind fun t75 =>
 (guarded [(0,t73)] (some (0,false)) (G zaC [t75,(V.int .u8 110)])).bind fun t76 =>
 (guarded [(0,t73)] (some (0,false)) (M.lift (Ax.un .not t76))).bind fun t77 =>
 (guarded [(0,t73)] (some (0,false)) (M.pure t77)).bind fun t78 =>
 (guarded [(0,t78)] (some (0,true)) (M.lift (Ax.faddr 4 t1))).bind fun t79 =>
 (guarded [(0,t78)] (some (0,true)) (mload none t79)).bind fun t80 =>
 (guarded [(0,t78)] (some (0,true)) (M.lift (Ax.bin .neq t80 (V.int .i64 0)))).bind fun t81 =>
 (guarded [(0,t73)] (some (0,false)) (M.lift (Ax.pick t78 t81 (V.bool false)))).bind fun t82 =>
 (M.lift (Ax.pick t73 (V.bool true) t82)).bind fun t83 =>
 (guarded [(0,t83)] (some (0,false)) (M.pure t7)).bind fun t85 =>
 (guarded [(0,t83)] (some (0,false)) (G zaC [t85,(V.int .u8 109)])).bind fun t86 =>
 (guarded [(0,t83)] (some (0,false)) (M.lift (Ax.un .not t86))).bind fun t87 =>
 (guarded [(0,t83)] (some (0,false)) (M.pure t87)).bind fun t88 =>
 (guarded [(0,t88)] (some (0,true)) (M.lift (Ax.faddr 5 t1))).bind fun t89 =>
 (guarded [(0,t88)] (some (0,true)) (mload none t89)).bind fun t90 =>
 (guarded [(0,t88)] (some (0,true)) (M.lift (Ax.bin .neq t90 (V.int .i64 0)))).bind fun t91 =>
 (guarded [(0,t83)] (some (0,false)) (M.lift (Ax.pick t88 t91 (V.bool false)))).bind fun t92 =>
 (M.lift (Ax.pick t83 (V.bool true) t92)).bind fun t93 =>
 (guarded [(0,t93)] (some (0,false)) (M.pure t7)).bind fun t95 =>
 (guarded [(0,t93)] (some (0,false)) (G zaC [t95,(V.int .u8 98)])).bind fun t96 =>
 (guarded [(0,t93)] (some (0,false)) (M.lift (Ax.un .not t96))).bind fun t97 =>
 (guarded [(0,t93)] (some (0,false)) (M.pure t97)).bind fun t98 =>
 (guarded [(0,t98)] (some (0,true)) (M.lift (Ax.faddr 6 t1))).bind fun t99 =>
 (guarded [(0,t98)] (some (0,true)) (mload none t99)).bind fun t100 =>
 (guarded [(0,t98)] (some (0,true)) (M.lift (vlen t100))).bind fun t101 =>
 (guarded [(0,t98)] (some (0,true)) (M.lift (Ax.bin .gtr t101 (V.int .i64 0)))).bind fun t102 =>
 (guarded [(0,t93)] (some (0,false)) (M.lift (Ax.pick t98 t102 (V.bool false)))).bind fun t103 =>
 (M.lift (Ax.pick t93 (V.bool true) t103)).bind fun t104 =>
 M.ite t104
 (M.pure (.ret [(V.bool false)]))
 ((M.lift (Ax.faddr 4 t1)).bind fun t105 =>
 (mload none t105).bind fun t106 =>
 (M.lift (Ax.bin .lss t106 (V.int .i64 256))).bind fun t107 =>
 M.join (M.ite t107
 ((M.lift (Ax.faddr 4 t1)).bind fun t108 =>
 (mload none t108).bind fun t109 =>
 (M.lift (Ax.faddr 2 t1)).bind fun t110 =>
 (mload none t110).bind fun t111 =>
 (M.lift (Ax.cint .u64 t111)).bind fun t112 =>
 (M.lift (Ax.bin .shr t109 t112)).bind fun t113 =>
 (M.lift (Ax.bin .and t113 (V.int .i64 1))).bind fun t114 =>
 (M.lift (Ax.bin .eql t114 (V.int .i64 1))).bind fun t115 =>
 M.pure (.nrm [t115]))
 (M.pure (.nrm [(V.bool false)]))) fun L0 =>
 (M.lift (Ax.faddr 0 t1)).bind fun t116 =>
 (mload none t116).bind fun t117 =>
 M.blk 0 (
 (M.lift (Ax.bin .eql t117 (V.int .i64 4))).bind fun t119 =>
 M.ite t119
 ((M.lift (Ax.faddr 4 t1)).bind fun t120 =>
 (mload none t120).bind fun t121 =>
 (M.lift (Ax.bin .lss t121 (V.int .i64 3))).bind fun t122 =>
 (guarded [(0,t122)] (some (0,true)) (M.lift (Ax.faddr 6 t1))).bind fun t124 =>
 (guarded [(0,t122)] (some (0,true)) (mload none t124)).bind fun t125 =>
 (guarded [(0,t122)] (some (0,true)) (M.lift (vlen t125))).bind fun t126 =>
 (guarded [(0,t122)] (some (0,true)) (M.lift (Ax.bin .eql t126 (V.int .i64 4)))).bind fun t127 =>
 (M.lift (Ax.pick t122 t127 (V.bool false))).bind fun t128 =>
 M.pure (.ret [t128]))
 ((M.lift (Ax.bin .eql t117 (V.int .i64 5))).bind fun t130 =>
 M.ite t130
 ((M.lift (Ax.faddr 4 t1)).bind fun t131 =>
 (mload none t131).bind fun t132 =>
 (M.lift (Ax.bin .lss t132 (V.int .i64 4))).bind fun t133 =>
 (guarded [(0,t133)] (some (0,true)) (M.lift (Ax.faddr 5 t1))).bind fun t135 =>
 (guarded [(0,t133)] (some (0,true)) (mload none t135)).bind fun t136 =>
 (guarded [(0,t133)] (some (0,true)) (M.lift (Ax.bin .lss t136 (V.int .i64 8)))).bind fun t137 =>
 (M.lift (Ax.pick t133 t137 (V.bool false))).bind fun t138 =>
 M.pure (.ret [t138]))
 ((M.lift (Ax.bin .eql t117 (V.int .i64 7))).bind fun t140 =>
 M.join (M.ite t140
 (M.pure (.nrm [t140]))
 ((M.lift (Ax.bin .eql t117 (V.int .i64 21))).bind fun t141 =>
 M.pure (.nrm [t141]))) fun L1 =>
 M.ite (L1.getD 0 .undef)
 ((M.lift (Ax.faddr 4 t1)).bind fun t142 =>
 (mload none t142).bind fun t143 =>
 (M.lift (Ax.bin .lss t143 (V.int .i64 32))).bind fun t144 =>
 (guarded [(0,t144)] (some (0,true)) (M.lift (Ax.faddr 6 t1))).bind fun t146 =>
 (guarded [(0,t144)] (some (0,true)) (mload none t146)).bind fun t147 =>
 (guarded [(0,t144)] (some (0,true)) (M.lift (vlen t147))).bind fun t148 =>
 (guarded [(0,t144)] (some (0,true)) (M.lift (Ax.bin .gtr t148 (V.int .i64 0)))).bind fun t149 =>
 (M.lift (Ax.pick t144 t149 (V.bool false))).bind fun t150 =>
 M.pure (.ret [t150]))
 ((M.lift (Ax.bin .eql t117 (V.int .i64 17))).bind fun t152 =>
 M.ite t152
 ((M.lift (Ax.faddr 4 t1)).bind fun t153 =>
 (mload none t153).bind fun t154 =>
 (M.lift (Ax.bin .lss t154 (V.int .i64 256))).bind fun t155 =>
 (guarded [(0,t155)] (some (0,true)) (M.pure (L0.getD 0 .undef))).bind fun t157 =>
 (M.lift (Ax.pick t155 t157 (V.bool false))).bind fun t158 =>
 (guarded [(0,t158)] (some (0,true)) (M.lift (Ax.faddr 5 t1))).bind fun t160 =>
 (guarded [(0,t158)] (some (0,true)) (mload none t160)).bind fun t161 =>
 (guarded [(0,t158)] (some (0,true)) (M.lift (Ax.faddr 3 t1))).bind fun t162 =>
 (guarded [(0,t158)] (some (0,true)) (mload none t162)).bind fun t163 =>
 (guarded [(0,t158)] (some (0,true)) (M.lift (Ax.bin .geq t161 t163))).bind fun t164 =>
 (M.lift (Ax.pick t158 t164 (V.bool false))).bind fun t165 =>
 (guarded [(0,t165)] (some (0,true)) (mload (some 7) t1)).bind fun t167 =>
 (guarded [(0,t165)] (some (0,true)) (G zbE [t167])).bind fun t168 =>
 (M.lift (Ax.pick t165 t168 (V.bool false))).bind fun t169 =>
 M.pure (.ret [t169]))
 ((M.lift (Ax.bin .eql t117 (V.int .i64 18))).bind fun t171 =>
 M.ite t171
 ((M.lift (Ax.faddr 4 t1)).bind fun t172 =>
 (mload none t172).bind fun t173 =>
 (G zaJ [t173,(V.int .i64 1),(V.int .i64 13)]).bind fun t174 =>
 (guarded [(0,t174)] (some (0,true)) (M.lift (Ax.faddr 5 t1))).bind fun t176 =>
 (guarded [(0,t174)] (some (0,true)) (mload none t176)).bind fun t177 =>
 (guarded [(0,t174)] (some (0,true)) (M.lift (Ax.bin .leq t177 (V.int .i64 9)))).bind fun t178 =>
 (M.lift (Ax.pick t174 t178 (V.bool false))).bind fun t179 =>
 M.pure (.ret [t179]))
 ((M.lift (Ax.bin .eql t117 (V.int .i64 19))).bind fun t181 =>
 M.ite t181
 ((M.lift (Ax.faddr 4 t1)).bind fun t182 =>
 (mload none t182).bind fun t183 =>
 (M.lift (Ax.bin .lss t183 (V.int .i64 256))).bind fun t184 =>
 (guarded [(0,t184)] (some (0,true)) (M.pure (L0.getD 0 .undef))).bind fun t186 =>
 (M.lift (Ax.pick t184 t186 (V.bool false))).bind fun t187 =>
 (guarded [(0,t187)] (some (0,true)) (M.lift (Ax.faddr 5 t1))).bind fun t189 =>
 (guarded [(0,t187)] (some (0,true)) (mload none t189)).bind fun t190 =>
 (guarded [(0,t187)] (some (0,true)) (M.lift (Ax.bin .leq t190 (V.int .i64 63)))).bind fun t191 =>
 (M.lift (Ax.pick t187 t191 (V.bool false))).bind fun t192 =>
 M.pure (.ret [t192]))
 ((M.lift (Ax.bin .eql t117 (V.int .i64 20))).bind fun t194 =>
 M.ite t194
 ((M.lift (Ax.faddr 4 t1)).bind fun t195 =>
 (mload none t195).bind fun t196 =>
 (M.lift (Ax.bin .lss t196 (V.int .i64 256))).bind fun t197 =>
 (guarded [(0,t197)] (some (0,true)) (M.pure (L0.getD 0 .undef))).bind fun t199 =>
 (guarded [(0,t197)] (some (0,true)) (M.lift (Ax.un .not t199))).bind fun t200 =>
 (M.lift (Ax.pick t197 t200 (V.bool false))).bind fun t201 =>
 M.pure (.ret [t201]))
 ((M.lift (Ax.bin .eql t117 (V.int .i64 24))).bind fun t203 =>
 M.ite t203
 ((M.lift (Ax.faddr 6 t1)).bind fun t204 =>
 (mload none t204).bind fun t205 =>
 (M.lift (vlen t205)).bind fun t206 =>
 (M.lift (Ax.bin .eql t206 (V.int .i64 4))).bind fun t207 =>
 M.pure (.ret [t207]))
 (M.pure (.nrm [])))))))))) fun _ =>
 M.pure (.ret [(V.bool true)])))
noncomputable def ze6:Fn':=(T zbo).getD noF
theorem zn3:T zbo = some ze6:=by kernel_rfl
theorem zog (G:Sem') (t0:V):execK G ze6.rv ze6.body [] [] (params 0 [t0]) = zi3 G t0:=by kernel_rfl
def zfE (G:Sem'):List V → M V
 | [t0]=>fin (zi3 G t0)
 | _=>M.fail
theorem zot {g:Sem'} (hg:Sims g (sem T)) (args:List V):Sim (zfE g args) (sem T zbo args):=by
 unfold zfE
 split
 ·exact zad zn3 (Nat.le_of_ble_eq_true (by kernel_rfl)) hg (zog g _)
 ·exact zaa
def zhW (G:Sem') (t0:V):M Res :=
 (mbox zaG t0).bind fun t1 =>
 (mload (some 7) t1).bind fun t5 =>
 (G zbo [t5]).bind fun t6 =>
 (M.lift (Ax.un .not t6)).bind fun t7 =>
 M.ite t7
 (M.pure (.ret [V.nils,(V.int .i64 1)]))
 ((M.lift (Ax.faddr 0 t1)).bind fun t8 =>
 (mload none t8).bind fun t9 =>
 (M.lift (Ax.cint .u8 t9)).bind fun t10 =>
 (M.lift (Ax.faddr 1 t1)).bind fun t11 =>
 (mload none t11).bind fun t12 =>
 (M.lift (Ax.cint .u8 t12)).bind fun t13 =>
 (M.lift (Ax.faddr 2 t1)).bind fun t14 =>
 (mload none t14).bind fun t15 =>
 (M.lift (Ax.cint .u8 t15)).bind fun t16 =>
 (mslit zaw 3 [(V.int .u8 0)] [(0,1,t10),(1,1,t13),(2,1,t16)]).bind fun t17 =>
 (M.lift (Ax.faddr 3 t1)).bind fun t19 =>
 (mload none t19).bind fun t20 =>
 (M.lift (Ax.cint .u64 t20)).bind fun t21 =>
 (G zbq [t17,t21,(V.int .i64 2)]).bind fun t22 =>
 (M.lift (Ax.faddr 4 t1)).bind fun t24 =>
 (mload none t24).bind fun t25 =>
 (M.lift (Ax.cint .u64 t25)).bind fun t26 =>
 (G zbq [t22,t26,(V.int .i64 2)]).bind fun t27 =>
 (M.lift (Ax.faddr 5 t1)).bind fun t29 =>
 (mload none t29).bind fun t30 =>
 (M.lift (Ax.cint .u64 t30)).bind fun t31 =>
 (G zbq [t27,t31,(V.int .i64 2)]).bind fun t32 =>
 (M.lift (Ax.faddr 6 t1)).bind fun t34 =>
 (mload none t34).bind fun t35 =>
 (M.lift (vlen t35)).bind fun t36 =>
 (M.lift (Ax.cint .u64 t36)).bind fun t37 =>
 (M.lift (Ax.faddr 6 t1)).bind fun t39 =>
 (mload none t39).bind fun t40 =>
 M.getH.bind fun h0 =>
 (G zbq [t32,t37,(V.int .i64 2)]).bind fun t38 =>
 M.getH.bind fun h0' =>
 (M.unch t39 h0 h0').bind fun _ =>
 (mappend zaw 1 1 t38 t40).bind fun t41 =>
 M.pure (.ret [t41,(V.int .i64 0)]))
noncomputable def zeC:Fn':=(T zbF).getD noF
theorem zmD:T zbF = some zeC:=by kernel_rfl
theorem znh (G:Sem') (t0:V):execK G zeC.rv zeC.body [] [] (params 0 [t0]) = zhW G t0:=by kernel_rfl
def zff (G:Sem'):List V → M V
 | [t0]=>fin (zhW G t0)
 | _=>M.fail
theorem zoa {g:Sem'} (hg:Sims g (sem T)) (args:List V):Sim (zff g args) (sem T zbF args):=by
 unfold zff
 split
 ·exact zad zmD (Nat.le_of_ble_eq_true (by kernel_rfl)) hg (znh g _)
 ·exact zaa
def zq6 (G:Sem') (t1 t6:V) (L:List V):M Res :=
 (M.lift (Ax.bin .geq (L.getD 1 .undef) (V.int .i64 0))).bind fun t15 =>
 M.ite t15
 (M.blk 1 (
 (M.lift (Ax.bin .mul (V.int .i64 8) (L.getD 1 .undef))).bind fun t21 =>
 (M.lift (Ax.cint .u64 t21)).bind fun t22 =>
 (M.lift (Ax.bin .shr t1 t22)).bind fun t23 =>
 (M.lift (Ax.cint .u8 t23)).bind fun t24 =>
 (mslit zaw 1 [(V.int .u8 0)] [(0,1,t24)]).bind fun t25 =>
 (mappend zaw 1 1 (L.getD 0 .undef) t25).bind fun t26 =>
 M.pure (.nrm [t26])) fun L0 =>
 (M.lift (Ax.bin .sub (L.getD 1 .undef) (V.int .i64 1))).bind fun t17 =>
 M.pure (.nrm [(L0.getD 0 .undef),t17]))
 (M.pure (.ex 0 [(L.getD 0 .undef)]))
def zma (G:Sem') (t0 t1 t2:V):M Res :=
 (mslit zaw 0 [(V.int .u8 0)] []).bind fun t9 =>
 (mappend zaw 1 1 t9 t0).bind fun t11 =>
 (M.lift (Ax.bin .sub t2 (V.int .i64 1))).bind fun t13 =>
 M.blk 0 (
 M.iter (zq6 G t1 V.nils) [t11,t13]) fun L1 =>
 M.pure (.ret [(L1.getD 0 .undef)])
noncomputable def zhk:Fn':=(T zbq).getD noF
theorem zrO:T zbq = some zhk:=by kernel_rfl
theorem zsP (G:Sem') (t0 t1 t2:V):execK G zhk.rv zhk.body [] [] (params 0 [t0,t1,t2]) = zma G t0 t1 t2:=by kernel_rfl
def ziD (G:Sem'):List V → M V
 | [t0,t1,t2]=>fin (zma G t0 t1 t2)
 | _=>M.fail
theorem ztA {g:Sem'} (hg:Sims g (sem T)) (args:List V):Sim (ziD g args) (sem T zbq args):=by
 unfold ziD
 split
 ·exact zad zrO (Nat.le_of_ble_eq_true (by kernel_rfl)) hg (zsP g _ _ _)
 ·exact zaa
def zxh (G:Sem') (t0:V):M Res :=
 (M.lift (Ax.bin .geq t0 (V.int .i64 0))).bind fun t4 =>
 (guarded [(0,t4)] (some (0,true)) (M.pure t0)).bind fun t6 =>
 (guarded [(0,t4)] (some (0,true)) (M.lift (Ax.bin .lss t6 (V.int .i64 8)))).bind fun t7 =>
 (M.lift (Ax.pick t4 t7 (V.bool false))).bind fun t8 =>
 M.pure (.ret [t8])
noncomputable def zoQ:Fn':=(T zfC).getD noF
theorem zBe:T zfC = some zoQ:=by kernel_rfl
theorem zCv (G:Sem') (t0:V):execK G zoQ.rv zoQ.body [] [] (params 0 [t0]) = zxh G t0:=by kernel_rfl
def zrF (G:Sem'):List V → M V
 | [t0]=>fin (zxh G t0)
 | _=>M.fail
theorem zDh {g:Sem'} (hg:Sims g (sem T)) (args:List V):Sim (zrF g args) (sem T zfC args):=by
 unfold zrF
 split
 ·exact zad zBe (Nat.le_of_ble_eq_true (by kernel_rfl)) hg (zCv g _)
 ·exact zaa
def znK (G:Sem') (t0:V):M Res :=
 (M.lift (Ax.nilck t0)).bind fun t4 =>
 (M.lift (Ax.faddr 0 t4)).bind fun t5 =>
 (mload none t5).bind fun t6 =>
 M.pure (.ret [t6])
noncomputable def zh6:Fn':=(T zbH).getD noF
theorem zte:T zbH = some zh6:=by kernel_rfl
theorem zt8 (G:Sem') (t0:V):execK G zh6.rv zh6.body [] [] (params 0 [t0]) = znK G t0:=by kernel_rfl
def zjy (G:Sem'):List V → M V
 | [t0]=>fin (znK G t0)
 | _=>M.fail
theorem zvu {g:Sem'} (hg:Sims g (sem T)) (args:List V):Sim (zjy g args) (sem T zbH args):=by
 unfold zjy
 split
 ·exact zad zte (Nat.le_of_ble_eq_true (by kernel_rfl)) hg (zt8 g _)
 ·exact zaa
def zyt (G:Sem') (t8 t1:V) (L:List V):M Res :=
 (M.lift (Ax.bin .lss (L.getD 0 .undef) (V.int .i64 8))).bind fun t10 =>
 M.ite t10
 (M.blk 1 (
 (M.lift (Ax.index 8 1 none t8 (L.getD 0 .undef))).bind fun t12 =>
 (M.lift (Ax.faddr 0 t1)).bind fun t14 =>
 (M.lift (Ax.iaddr (some 8) 1 t14 (L.getD 0 .undef))).bind fun t15 =>
 (mload none t15).bind fun t16 =>
 (M.lift (Ax.un .not t16)).bind fun t17 =>
 M.ite t17
 ((M.lift (Ax.bin .neq t12 (V.int .i64 0))).bind fun t19 =>
 M.ite t19
 (M.pure (.ret [(V.bool false)]))
 (M.pure (.ex 1 [])))
 ((mload (some 16) t1).bind fun t21 =>
 (G zdQ [t21,t12]).bind fun t23 =>
 (M.lift (Ax.ext 0 t23)).bind fun t24 =>
 (M.lift (Ax.ext 1 t23)).bind fun t25 =>
 (M.lift (Ax.bin .neq t24 (L.getD 0 .undef))).bind fun t28 =>
 (guarded [(0,t28)] (some (0,false)) (M.pure t12)).bind fun t30 =>
 (guarded [(0,t28)] (some (0,false)) (G zeF [t30])).bind fun t31 =>
 (guarded [(0,t28)] (some (0,false)) (M.lift (Ax.un .not t31))).bind fun t32 =>
 (M.lift (Ax.pick t28 (V.bool true) t32)).bind fun t33 =>
 M.ite t33
 (M.pure (.ret [(V.bool false)]))
 (M.pure (.nrm [])))) fun _ =>
 (M.lift (Ax.bin .add (L.getD 0 .undef) (V.int .i64 1))).bind fun t34 =>
 M.pure (.nrm [t34]))
 (M.pure (.ex 0 []))
def zuS (G:Sem') (t0:V):M Res :=
 (mbox zbO t0).bind fun t1 =>
 (M.lift (Ax.faddr 8 t1)).bind fun t7 =>
 (mload (some 8) t7).bind fun t8 =>
 M.blk 0 (
 M.iter (zyt G t8 t1) [(V.int .i64 0)]) fun _ =>
 M.pure (.ret [(V.bool true)])
noncomputable def zmS:Fn':=(T zb4).getD noF
theorem zzu:T zb4 = some zmS:=by kernel_rfl
theorem zAu (G:Sem') (t0:V):execK G zmS.rv zmS.body [] [] (params 0 [t0]) = zuS G t0:=by kernel_rfl
def zpy (G:Sem'):List V → M V
 | [t0]=>fin (zuS G t0)
 | _=>M.fail
theorem zBt {g:Sem'} (hg:Sims g (sem T)) (args:List V):Sim (zpy g args) (sem T zb4 args):=by
 unfold zpy
 split
 ·exact zad zzu (Nat.le_of_ble_eq_true (by kernel_rfl)) hg (zAu g _)
 ·exact zaa
def zu5 (G:Sem') (t0:V):M Res :=
 (mbox zbA t0).bind fun t1 =>
 (M.lift (Ax.faddr 0 t1)).bind fun t3 =>
 (mload none t3).bind fun t4 =>
 (M.lift (Ax.bin .lss t4 (V.int .i64 0))).bind fun t5 =>
 (guarded [(0,t5)] (some (0,false)) (M.lift (Ax.faddr 0 t1))).bind fun t7 =>
 (guarded [(0,t5)] (some (0,false)) (mload none t7)).bind fun t8 =>
 (guarded [(0,t5)] (some (0,false)) (M.lift (Ax.bin .gtr t8 (V.int .i64 65535)))).bind fun t9 =>
 (M.lift (Ax.pick t5 (V.bool true) t9)).bind fun t10 =>
 M.ite t10
 (M.pure (.ret [(V.bool false)]))
 ((M.lift (Ax.faddr 1 t1)).bind fun t11 =>
 (mload none t11).bind fun t12 =>
 (M.lift (Ax.un .not t12)).bind fun t13 =>
 M.ite t13
 ((mload (some 6) t1).bind fun t14 =>
 (M.lift (Ax.faddr 0 t1)).bind fun t15 =>
 (mload none t15).bind fun t16 =>
 (M.lift (Ax.build [(V.int .i64 0),(V.bool false),(V.int .i64 0),(V.int .i64 0),(V.int .i64 0),(V.int .i64 0)] [(0,1,t16)])).bind fun t17 =>
 (M.lift (eqr (.st [.int, .bool, .int, .int, .int, .int]) false t14 t17)).bind fun t18 =>
 M.pure (.ret [t18]))
 ((M.lift (Ax.faddr 2 t1)).bind fun t19 =>
 (mload none t19).bind fun t20 =>
 (M.lift (Ax.faddr 0 t1)).bind fun t21 =>
 (mload none t21).bind fun t22 =>
 (M.lift (Ax.bin .gtr t20 t22)).bind fun t23 =>
 (guarded [(0,t23)] (some (0,true)) (M.lift (Ax.faddr 2 t1))).bind fun t25 =>
 (guarded [(0,t23)] (some (0,true)) (mload none t25)).bind fun t26 =>
 (guarded [(0,t23)] (some (0,true)) (M.lift (Ax.bin .leq t26 (V.int .i64 65535)))).bind fun t27 =>
 (M.lift (Ax.pick t23 t27 (V.bool false))).bind fun t28 =>
 (guarded [(0,t28)] (some (0,true)) (M.lift (Ax.faddr 3 t1))).bind fun t30 =>
 (guarded [(0,t28)] (some (0,true)) (mload none t30)).bind fun t31 =>
 (guarded [(0,t28)] (some (0,true)) (M.lift (Ax.bin .geq t31 (V.int .i64 1)))).bind fun t32 =>
 (M.lift (Ax.pick t28 t32 (V.bool false))).bind fun t33 =>
 (guarded [(0,t33)] (some (0,true)) (M.lift (Ax.faddr 3 t1))).bind fun t35 =>
 (guarded [(0,t33)] (some (0,true)) (mload none t35)).bind fun t36 =>
 (guarded [(0,t33)] (some (0,true)) (M.lift (Ax.bin .leq t36 (V.int .i64 255)))).bind fun t37 =>
 (M.lift (Ax.pick t33 t37 (V.bool false))).bind fun t38 =>
 (guarded [(0,t38)] (some (0,true)) (M.lift (Ax.faddr 4 t1))).bind fun t40 =>
 (guarded [(0,t38)] (some (0,true)) (mload none t40)).bind fun t41 =>
 (guarded [(0,t38)] (some (0,true)) (M.lift (Ax.faddr 3 t1))).bind fun t42 =>
 (guarded [(0,t38)] (some (0,true)) (mload none t42)).bind fun t43 =>
 (guarded [(0,t38)] (some (0,true)) (M.lift (Ax.bin .andNot t41 t43))).bind fun t44 =>
 (guarded [(0,t38)] (some (0,true)) (M.lift (Ax.bin .eql t44 (V.int .i64 0)))).bind fun t45 =>
 (M.lift (Ax.pick t38 t45 (V.bool false))).bind fun t46 =>
 (guarded [(0,t46)] (some (0,true)) (M.lift (Ax.faddr 4 t1))).bind fun t48 =>
 (guarded [(0,t46)] (some (0,true)) (mload none t48)).bind fun t49 =>
 (guarded [(0,t46)] (some (0,true)) (M.lift (Ax.faddr 3 t1))).bind fun t50 =>
 (guarded [(0,t46)] (some (0,true)) (mload none t50)).bind fun t51 =>
 (guarded [(0,t46)] (some (0,true)) (M.lift (Ax.bin .neq t49 t51))).bind fun t52 =>
 (M.lift (Ax.pick t46 t52 (V.bool false))).bind fun t53 =>
 M.pure (.ret [t53])))
noncomputable def zm5:Fn':=(T zcA).getD noF
theorem zzH:T zcA = some zm5:=by kernel_rfl
theorem zAH (G:Sem') (t0:V):execK G zm5.rv zm5.body [] [] (params 0 [t0]) = zu5 G t0:=by kernel_rfl
def zpL (G:Sem'):List V → M V
 | [t0]=>fin (zu5 G t0)
 | _=>M.fail
theorem zBG {g:Sem'} (hg:Sims g (sem T)) (args:List V):Sim (zpL g args) (sem T zcA args):=by
 unfold zpL
 split
 ·exact zad zzH (Nat.le_of_ble_eq_true (by kernel_rfl)) hg (zAH g _)
 ·exact zaa
def zys (G:Sem') (t10 t2:V) (L:List V):M Res :=
 (M.lift (Ax.bin .lss (L.getD 1 .undef) (V.int .i64 8))).bind fun t12 =>
 M.ite t12
 (M.blk 1 (
 (M.lift (Ax.index 8 1 none t10 (L.getD 1 .undef))).bind fun t14 =>
 M.join (M.ite t14
 ((M.lift (Ax.bin .shl (V.int .i64 1) (L.getD 1 .undef))).bind fun t18 =>
 (M.lift (Ax.bin .or (L.getD 0 .undef) t18)).bind fun t19 =>
 M.pure (.nrm [t19]))
 (M.pure (.nrm [(L.getD 0 .undef)]))) fun L0 =>
 M.pure (.nrm [(L0.getD 0 .undef)])) fun L1 =>
 (M.lift (Ax.bin .add (L.getD 1 .undef) (V.int .i64 1))).bind fun t20 =>
 M.pure (.nrm [(L1.getD 0 .undef),t20]))
 (M.pure (.ex 0 [(L.getD 0 .undef)]))
def zuR (G:Sem') (t0:V):M Res :=
 (mbox zbO t0).bind fun t1 =>
 (mload (some 16) t1).bind fun t6 =>
 (G zb4 [t6]).bind fun t7 =>
 (M.lift (Ax.un .not t7)).bind fun t8 =>
 M.ite t8
 (M.pure (.ret [(V.int .i64 0)]))
 ((M.lift (Ax.faddr 0 t1)).bind fun t9 =>
 (mload (some 8) t9).bind fun t10 =>
 M.blk 0 (
 M.iter (zys G t10 (V.int .i64 0)) [(V.int .i64 0),(V.int .i64 0)]) fun L2 =>
 M.pure (.ret [(L2.getD 0 .undef)]))
noncomputable def zmR:Fn':=(T zcZ).getD noF
theorem zzt:T zcZ = some zmR:=by kernel_rfl
theorem zAt (G:Sem') (t0:V):execK G zmR.rv zmR.body [] [] (params 0 [t0]) = zuR G t0:=by kernel_rfl
def zpx (G:Sem'):List V → M V
 | [t0]=>fin (zuR G t0)
 | _=>M.fail
theorem zBs {g:Sem'} (hg:Sims g (sem T)) (args:List V):Sim (zpx g args) (sem T zcZ args):=by
 unfold zpx
 split
 ·exact zad zzt (Nat.le_of_ble_eq_true (by kernel_rfl)) hg (zAt g _)
 ·exact zaa
def zl9 (G:Sem') (t0 t1:V):M Res :=
 (M.lift (Ax.bin .geq t1 (V.int .i64 0))).bind fun t5 =>
 (guarded [(0,t5)] (some (0,true)) (M.pure t1)).bind fun t7 =>
 (guarded [(0,t5)] (some (0,true)) (M.pure t0)).bind fun t8 =>
 (guarded [(0,t5)] (some (0,true)) (M.lift (Ax.nilck t8))).bind fun t9 =>
 (guarded [(0,t5)] (some (0,true)) (M.lift (Ax.faddr 0 t9))).bind fun t10 =>
 (guarded [(0,t5)] (some (0,true)) (mload none t10)).bind fun t11 =>
 (guarded [(0,t5)] (some (0,true)) (M.lift (vlen t11))).bind fun t12 =>
 (guarded [(0,t5)] (some (0,true)) (M.lift (Ax.bin .lss t7 t12))).bind fun t13 =>
 (M.lift (Ax.pick t5 t13 (V.bool false))).bind fun t14 =>
 M.join (M.ite t14
 ((M.lift (Ax.nilck t0)).bind fun t16 =>
 (M.lift (Ax.faddr 0 t16)).bind fun t17 =>
 (mload none t17).bind fun t18 =>
 (M.lift (Ax.iaddr none 1 t18 t1)).bind fun t20 =>
 (G zbu [t20,(V.int .i64 1)]).bind fun t21 =>
 M.pure (.nrm []))
 (M.pure (.nrm []))) fun _ =>
 M.pure (.ret [])
noncomputable def zhj:Fn':=(T zaE).getD noF
theorem zrN:T zaE = some zhj:=by kernel_rfl
theorem zsO (G:Sem') (t0 t1:V):execK G zhj.rv zhj.body [] [] (params 0 [t0,t1]) = zl9 G t0 t1:=by kernel_rfl
def ziC (G:Sem'):List V → M V
 | [t0,t1]=>fin (zl9 G t0 t1)
 | _=>M.fail
theorem ztz {g:Sem'} (hg:Sims g (sem T)) (args:List V):Sim (ziC g args) (sem T zaE args):=by
 unfold ziC
 split
 ·exact zad zrN (Nat.le_of_ble_eq_true (by kernel_rfl)) hg (zsO g _ _)
 ·exact zaa
end Go.Ax.Cc
/- CiK3 -/
namespace Go.Ax.Cc
open Go.Proofs
def zq7 (G:Sem') (t1 t0:V) (L:List V):M Res :=
 (M.lift (Ax.bin .lss (L.getD 0 .undef) (V.int .i64 4))).bind fun t11 =>
 M.ite t11
 (M.blk 1 (
 (M.lift (Ax.nilck t0)).bind fun t16 =>
 (M.lift (Ax.faddr 0 t16)).bind fun t17 =>
 (M.lift (Ax.iaddr (some 4) 367 t17 (L.getD 0 .undef))).bind fun t18 =>
 (M.lift (Ax.faddr 0 t18)).bind fun t19 =>
 (M.lift (Ax.faddr 0 t19)).bind fun t20 =>
 (mload (some 16) t20).bind fun t21 =>
 (G zeH [t21,t1]).bind fun t23 =>
 (M.lift (Ax.ext 0 t23)).bind fun t24 =>
 (M.lift (Ax.ext 1 t23)).bind fun t25 =>
 M.ite t25
 ((M.lift (Ax.nilck t0)).bind fun t29 =>
 (M.lift (Ax.faddr 0 t29)).bind fun t30 =>
 (M.lift (Ax.iaddr (some 4) 367 t30 (L.getD 0 .undef))).bind fun t31 =>
 M.pure (.ret [t31,t24,(V.bool true)]))
 (M.pure (.nrm []))) fun _ =>
 (M.lift (Ax.bin .add (L.getD 0 .undef) (V.int .i64 1))).bind fun t33 =>
 M.pure (.nrm [t33]))
 (M.pure (.ex 0 []))
def zmh (G:Sem') (t0 t1:V):M Res :=
 M.blk 0 (
 M.iter (zq7 G t1 t0) [(V.int .i64 0)]) fun _ =>
 M.pure (.ret [V.nilp,(V.int .i64 0),(V.bool false)])
noncomputable def zhq:Fn':=(T zb7).getD noF
theorem zrU:T zb7 = some zhq:=by kernel_rfl
theorem zsV (G:Sem') (t0 t1:V):execK G zhq.rv zhq.body [] [] (params 0 [t0,t1]) = zmh G t0 t1:=by kernel_rfl
def ziJ (G:Sem'):List V → M V
 | [t0,t1]=>fin (zmh G t0 t1)
 | _=>M.fail
theorem ztG {g:Sem'} (hg:Sims g (sem T)) (args:List V):Sim (ziJ g args) (sem T zb7 args):=by
 unfold ziJ
 split
 ·exact zad zrU (Nat.le_of_ble_eq_true (by kernel_rfl)) hg (zsV g _ _)
 ·exact zaa
def zml (G:Sem') (t0 t1 t2:V):M Res :=
 (M.lift (Ax.nilck t1)).bind fun t9 =>
 (M.lift (Ax.faddr 0 t9)).bind fun t10 =>
 (mload (some 39) t10).bind fun t11 =>
 (M.lift (Ax.nilck t0)).bind fun t14 =>
 (M.lift (Ax.faddr 1468 t14)).bind fun t15 =>
 (mload none t15).bind fun t16 =>
 (G zfU [t11,t2,t16]).bind fun t17 =>
 (M.lift (Ax.ext 0 t17)).bind fun t18 =>
 (M.lift (Ax.nilck t1)).bind fun t20 =>
 (M.lift (Ax.faddr 0 t20)).bind fun t21 =>
 (mstore 39 t21 t18).bind fun _ =>
 (M.lift (Ax.ext 1 t17)).bind fun t19 =>
 M.pure (.ret [])
noncomputable def zhu:Fn':=(T zb9).getD noF
theorem zrY:T zb9 = some zhu:=by kernel_rfl
theorem zsZ (G:Sem') (t0 t1 t2:V):execK G zhu.rv zhu.body [] [] (params 0 [t0,t1,t2]) = zml G t0 t1 t2:=by kernel_rfl
def ziN (G:Sem'):List V → M V
 | [t0,t1,t2]=>fin (zml G t0 t1 t2)
 | _=>M.fail
theorem ztK {g:Sem'} (hg:Sims g (sem T)) (args:List V):Sim (ziN g args) (sem T zb9 args):=by
 unfold ziN
 split
 ·exact zad zrY (Nat.le_of_ble_eq_true (by kernel_rfl)) hg (zsZ g _ _ _)
 ·exact zaa
def zB5 (G:Sem') (t0:V):M Res :=
 (M.lift (vlen t0)).bind fun t4 =>
 (M.lift (Ax.bin .geq t4 (V.int .i64 2))).bind fun t5 =>
 (guarded [(0,t5)] (some (0,true)) (M.pure t0)).bind fun t7 =>
 (guarded [(0,t5)] (some (0,true)) (M.lift (Ax.iaddr none 1 t7 (V.int .i64 1)))).bind fun t8 =>
 (guarded [(0,t5)] (some (0,true)) (mload none t8)).bind fun t9 =>
 (guarded [(0,t5)] (some (0,true)) (M.lift (Ax.bin .geq t9 (V.int .u8 192)))).bind fun t10 =>
 (M.lift (Ax.pick t5 t10 (V.bool false))).bind fun t11 =>
 (guarded [(0,t11)] (some (0,true)) (M.pure t0)).bind fun t13 =>
 (guarded [(0,t11)] (some (0,true)) (M.lift (Ax.iaddr none 1 t13 (V.int .i64 1)))).bind fun t14 =>
 (guarded [(0,t11)] (some (0,true)) (mload none t14)).bind fun t15 =>
 (guarded [(0,t11)] (some (0,true)) (M.lift (Ax.bin .leq t15 (V.int .u8 223)))).bind fun t16 =>
 (M.lift (Ax.pick t11 t16 (V.bool false))).bind fun t17 =>
 M.pure (.ret [t17])
noncomputable def ztW:Fn':=(T ziu).getD noF
theorem zEp:T ziu = some ztW:=by kernel_rfl
theorem zE6 (G:Sem') (t0:V):execK G ztW.rv ztW.body [] [] (params 0 [t0]) = zB5 G t0:=by kernel_rfl
def zxF (G:Sem'):List V → M V
 | [t0]=>fin (zB5 G t0)
 | _=>M.fail
theorem zFA {g:Sem'} (hg:Sims g (sem T)) (args:List V):Sim (zxF g args) (sem T ziu args):=by
 unfold zxF
 split
 ·exact zad zEp (Nat.le_of_ble_eq_true (by kernel_rfl)) hg (zE6 g _)
 ·exact zaa
def zo9 (G:Sem') (t55 t54 t0 t1 t2:V) (L:List V):M Res :=
 (M.lift (Ax.bin .lss (L.getD 0 .undef) t55)).bind fun t57 =>
 M.ite t57
 (M.blk 4 (
 (M.lift (Ax.iaddr none 2 t54 (L.getD 0 .undef))).bind fun t58 =>
 (mload (some 2) t58).bind fun t59 =>
 (mbox zmy (V.agg [(V.int .u32 0),(V.int .u8 0)])).bind fun t13 =>
 (mstore 2 t13 t59).bind fun _ =>
 (M.lift (Ax.faddr 0 t13)).bind fun t63 =>
 (mload none t63).bind fun t64 =>
 (G zcr [t0,t1,t2,t64]).bind fun t65 =>
 M.pure (.nrm [])) fun _ =>
 (M.lift (Ax.bin .add (L.getD 0 .undef) (V.int .i64 1))).bind fun t66 =>
 M.pure (.nrm [t66]))
 (M.pure (.ex 3 []))
def zo8 (G:Sem') (t71 t70 t0 t1 t2 t11:V) (L:List V):M Res :=
 (M.lift (Ax.bin .lss (L.getD 0 .undef) t71)).bind fun t73 =>
 M.ite t73
 (M.blk 6 (
 (M.lift (Ax.iaddr none 1 t70 (L.getD 0 .undef))).bind fun t74 =>
 (mload none t74).bind fun t75 =>
 (mload (some 16) t11).bind fun t80 =>
 (G zgW [t80]).bind fun t81 =>
 (G zdf [t0,t1,t2,t75,t81]).bind fun t82 =>
 M.pure (.nrm [])) fun _ =>
 (M.lift (Ax.bin .add (L.getD 0 .undef) (V.int .i64 1))).bind fun t83 =>
 M.pure (.nrm [t83]))
 (M.pure (.ex 5 []))
def zo7 (G:Sem') (t29 t28 t0 t1 t2:V) (L:List V):M Res :=
 (M.lift (Ax.bin .lss (L.getD 0 .undef) t29)).bind fun t31 =>
 M.ite t31
 (M.blk 1 (
 (M.lift (Ax.iaddr none 16 t28 (L.getD 0 .undef))).bind fun t32 =>
 (mload (some 16) t32).bind fun t33 =>
 (mbox zaF (V.agg [(V.int .i64 0),(V.int .u32 0),(V.int .u32 0),(V.int .u64 0),(V.int .u32 0),(V.int .u32 0),(V.int .u32 0),V.nils,V.nils,V.nils,(V.int .i64 0),(V.int .u32 0),V.nils,(V.int .i64 0),(V.int .i64 0),V.nils])).bind fun t11 =>
 (mstore 16 t11 t33).bind fun _ =>
 (M.lift (Ax.faddr 0 t11)).bind fun t34 =>
 (mload none t34).bind fun t35 =>
 M.blk 2 (
 (M.lift (Ax.bin .eql t35 (V.int .i64 3))).bind fun t37 =>
 M.join (M.ite t37
 ((mload (some 16) t11).bind fun t41 =>
 (G zcM [t0,t1,t2,t41]).bind fun t42 =>
 M.pure (.nrm []))
 ((M.lift (Ax.bin .eql t35 (V.int .i64 4))).bind fun t44 =>
 M.join (M.ite t44
 ((M.lift (Ax.faddr 2 t11)).bind fun t48 =>
 (mload none t48).bind fun t49 =>
 (G zcr [t0,t1,t2,t49]).bind fun t50 =>
 M.pure (.nrm []))
 ((M.lift (Ax.bin .eql t35 (V.int .i64 5))).bind fun t52 =>
 M.join (M.ite t52
 ((M.lift (Ax.faddr 9 t11)).bind fun t53 =>
 (mload none t53).bind fun t54 =>
 (M.lift (vlen t54)).bind fun t55 =>
 M.blk 3 (
 M.iter (zo9 G t55 t54 t0 t1 t2) [(V.int .i64 0)]) fun _ =>
 M.pure (.nrm []))
 ((M.lift (Ax.bin .eql t35 (V.int .i64 6))).bind fun t68 =>
 M.join (M.ite t68
 ((M.lift (Ax.faddr 12 t11)).bind fun t69 =>
 (mload none t69).bind fun t70 =>
 (M.lift (vlen t70)).bind fun t71 =>
 M.blk 5 (
 M.iter (zo8 G t71 t70 t0 t1 t2 t11) [(V.int .i64 0)]) fun _ =>
 M.pure (.nrm []))
 (M.pure (.nrm []))) fun _ =>
 M.pure (.nrm []))) fun _ =>
 M.pure (.nrm []))) fun _ =>
 M.pure (.nrm []))) fun _ =>
 M.pure (.nrm [])) fun _ =>
 M.pure (.nrm [])) fun _ =>
 (M.lift (Ax.bin .add (L.getD 0 .undef) (V.int .i64 1))).bind fun t84 =>
 M.pure (.nrm [t84]))
 (M.pure (.ex 0 []))
def zkt (G:Sem') (t0 t1 t2 t3:V):M Res :=
 (G zfR [t3]).bind fun t18 =>
 (M.lift (Ax.ext 0 t18)).bind fun t19 =>
 (M.lift (Ax.ext 1 t18)).bind fun t20 =>
 (M.lift (Ax.bin .neq t20 (V.int .i64 0))).bind fun t22 =>
 M.ite t22
 ((M.lift (Ax.nilck t0)).bind fun t24 =>
 (M.lift (Ax.faddr 1534 t24)).bind fun t25 =>
 (mload none t25).bind fun t26 =>
 (G zaE [t26,(V.int .i64 3)]).bind fun t27 =>
 M.pure (.ret []))
 ((M.lift (vlen t19)).bind fun t29 =>
 M.blk 0 (
 M.iter (zo7 G t29 t19 t0 t1 t2) [(V.int .i64 0)]) fun _ =>
 M.pure (.ret []))
noncomputable def zgc:Fn':=(T zcg).getD noF
theorem zpY:T zcg = some zgc:=by kernel_rfl
theorem zqf (G:Sem') (t0 t1 t2 t3:V):execK G zgc.rv zgc.body [] [] (params 0 [t0,t1,t2,t3]) = zkt G t0 t1 t2 t3:=by kernel_rfl
def zgN (G:Sem'):List V → M V
 | [t0,t1,t2,t3]=>fin (zkt G t0 t1 t2 t3)
 | _=>M.fail
theorem zqM {g:Sem'} (hg:Sims g (sem T)) (args:List V):Sim (zgN g args) (sem T zcg args):=by
 unfold zgN
 split
 ·exact zad zpY (Nat.le_of_ble_eq_true (by kernel_rfl)) hg (zqf g _ _ _ _)
 ·exact zaa
def zlb (G:Sem') (t0 t1 t2:V):M Res :=
 (mbox zlg (V.agg [(V.bool false),(V.int .i64 0),(V.int .u16 0),(V.int .u32 0),(V.int .u32 0),V.nils,(V.int .i64 0),V.nils,(V.int .i64 0),V.nils,(V.int .i64 0),(V.int .i64 0),(V.bool false),(V.bool false),(V.int .i64 0),(V.int .u16 0),(V.bool false),(V.int .i64 0),(V.int .i64 0),V.nils,(V.int .i64 0),V.nils,V.nils,(V.bool false),(V.int .u32 0),(V.bool false),(V.bool false),(V.bool false),V.nils,V.nils,V.nils])).bind fun t6 =>
 (G zgT [t2]).bind fun t24 =>
 (M.lift (Ax.ext 0 t24)).bind fun t25 =>
 (M.lift (Ax.ext 1 t24)).bind fun t26 =>
 (mbox zbc (V.agg [(V.bool false),(V.int .i64 0),(V.int .u16 0),(V.int .u32 0),(V.int .u32 0),V.nils,(V.int .i64 0),V.nils,(V.int .i64 0),V.nils])).bind fun t8 =>
 (mstore 10 t8 t25).bind fun _ =>
 (M.lift (Ax.bin .neq t26 (V.int .i64 0))).bind fun t28 =>
 M.ite t28
 ((M.lift (Ax.build [(V.bool false),(V.int .i64 0),(V.int .u16 0),(V.int .u32 0),(V.int .u32 0),V.nils,(V.int .i64 0),V.nils,(V.int .i64 0),V.nils,(V.int .i64 0),(V.int .i64 0),(V.bool false),(V.bool false),(V.int .i64 0),(V.int .u16 0),(V.bool false),(V.int .i64 0),(V.int .i64 0),V.nils,(V.int .i64 0),V.nils,V.nils,(V.bool false),(V.int .u32 0),(V.bool false),(V.bool false),(V.bool false),V.nils,V.nils,V.nils] [])).bind fun t29 =>
 (mstore 31 t6 t29).bind fun _ =>
 (mload (some 31) t6).bind fun r0 =>
 M.pure (.ret [r0,(V.int .i64 3)]))
 ((M.lift (Ax.faddr 4 t8)).bind fun t33 =>
 (mload none t33).bind fun t34 =>
 (G zbR [t0,t1,t34]).bind fun t35 =>
 (M.lift (Ax.ext 0 t35)).bind fun t36 =>
 (M.lift (Ax.ext 1 t35)).bind fun t37 =>
 (M.lift (Ax.un .not t37)).bind fun t39 =>
 M.ite t39
 ((M.lift (Ax.build [(V.bool false),(V.int .i64 0),(V.int .u16 0),(V.int .u32 0),(V.int .u32 0),V.nils,(V.int .i64 0),V.nils,(V.int .i64 0),V.nils,(V.int .i64 0),(V.int .i64 0),(V.bool false),(V.bool false),(V.int .i64 0),(V.int .u16 0),(V.bool false),(V.int .i64 0),(V.int .i64 0),V.nils,(V.int .i64 0),V.nils,V.nils,(V.bool false),(V.int .u32 0),(V.bool false),(V.bool false),(V.bool false),V.nils,V.nils,V.nils] [])).bind fun t40 =>
 (mstore 31 t6 t40).bind fun _ =>
 (mload (some 31) t6).bind fun r0 =>
 M.pure (.ret [r0,(V.int .i64 4)]))
 ((M.lift (Ax.faddr 9 t8)).bind fun t42 =>
 (mload none t42).bind fun t43 =>
 (G zeh [t43]).bind fun t44 =>
 (M.lift (Ax.ext 0 t44)).bind fun t45 =>
 (M.lift (Ax.ext 1 t44)).bind fun t46 =>
 (M.lift (Ax.ext 2 t44)).bind fun t47 =>
 (M.lift (Ax.ext 3 t44)).bind fun t48 =>
 (G zg5 [t45]).bind fun t51 =>
 (M.lift (Ax.ext 0 t51)).bind fun t52 =>
 (M.lift (Ax.ext 1 t51)).bind fun t53 =>
 (M.lift (Ax.ext 2 t51)).bind fun t54 =>
 (M.lift (Ax.ext 3 t51)).bind fun t55 =>
 (M.lift (Ax.bin .neq t48 (V.int .i64 0))).bind fun t57 =>
 (guarded [(0,t57)] (some (0,false)) (M.pure t55)).bind fun t59 =>
 (guarded [(0,t57)] (some (0,false)) (M.lift (Ax.un .not t59))).bind fun t60 =>
 (M.lift (Ax.pick t57 (V.bool true) t60)).bind fun t61 =>
 M.ite t61
 ((M.lift (Ax.build [(V.bool false),(V.int .i64 0),(V.int .u16 0),(V.int .u32 0),(V.int .u32 0),V.nils,(V.int .i64 0),V.nils,(V.int .i64 0),V.nils,(V.int .i64 0),(V.int .i64 0),(V.bool false),(V.bool false),(V.int .i64 0),(V.int .u16 0),(V.bool false),(V.int .i64 0),(V.int .i64 0),V.nils,(V.int .i64 0),V.nils,V.nils,(V.bool false),(V.int .u32 0),(V.bool false),(V.bool false),(V.bool false),V.nils,V.nils,V.nils] [])).bind fun t62 =>
 (mstore 31 t6 t62).bind fun _ =>
 (mload (some 31) t6).bind fun r0 =>
 M.pure (.ret [r0,(V.int .i64 5)]))
 ((M.lift (Ax.nilck t0)).bind fun t64 =>
 (M.lift (Ax.faddr 0 t64)).bind fun t65 =>
 (M.lift (Ax.faddr 16 t65)).bind fun t66 =>
 (M.lift (Ax.faddr 0 t66)).bind fun t67 =>
 (mload none t67).bind fun t68 =>
 (M.lift (Ax.bin .neq t54 t1)).bind fun t71 =>
 (guarded [(0,t71)] (some (0,false)) (M.pure t52)).bind fun t73 =>
 (guarded [(0,t71)] (some (0,false)) (M.pure t68)).bind fun t74 =>
 (guarded [(0,t71)] (some (0,false)) (M.lift (Ax.bin .neq t73 t74))).bind fun t75 =>
 (guarded [(0,t71)] (some (0,false)) (M.pure t75)).bind fun t76 =>
 (guarded [(0,t76)] (some (0,true)) (M.pure t52)).bind fun t77 =>
 (guarded [(0,t76)] (some (0,true)) (M.pure t68)).bind fun t78 =>
 (guarded [(0,t76)] (some (0,true)) (M.lift (Ax.bin .sub t78 (V.int .i64 1)))).bind fun t79 =>
 (guarded [(0,t76)] (some (0,true)) (M.lift (Ax.bin .neq t77 t79))).bind fun t80 =>
 (guarded [(0,t71)] (some (0,false)) (M.lift (Ax.pick t76 t80 (V.bool false)))).bind fun t81 =>
 (M.lift (Ax.pick t71 (V.bool true) t81)).bind fun t82 =>
 M.ite t82
 ((M.lift (Ax.build [(V.bool false),(V.int .i64 0),(V.int .u16 0),(V.int .u32 0),(V.int .u32 0),V.nils,(V.int .i64 0),V.nils,(V.int .i64 0),V.nils,(V.int .i64 0),(V.int .i64 0),(V.bool false),(V.bool false),(V.int .i64 0),(V.int .u16 0),(V.bool false),(V.int .i64 0),(V.int .i64 0),V.nils,(V.int .i64 0),V.nils,V.nils,(V.bool false),(V.int .u32 0),(V.bool false),(V.bool false),(V.bool false),V.nils,V.nils,V.nils] [])).bind fun t83 =>
 (mstore 31 t6 t83).bind fun _ =>
 (mload (some 31) t6).bind fun r0 =>
 M.pure (.ret [r0,(V.int .i64 6)]))
 ((mload (some 10) t8).bind fun t85 =>
 (G zgF [t85,(V.int .i64 1)]).bind fun t86 =>
 (M.lift (Ax.ext 0 t86)).bind fun t87 =>
 (M.lift (Ax.ext 1 t86)).bind fun t88 =>
 (M.lift (Ax.un .not t88)).bind fun t90 =>
 M.ite t90
 ((M.lift (Ax.build [(V.bool false),(V.int .i64 0),(V.int .u16 0),(V.int .u32 0),(V.int .u32 0),V.nils,(V.int .i64 0),V.nils,(V.int .i64 0),V.nils,(V.int .i64 0),(V.int .i64 0),(V.bool false),(V.bool false),(V.int .i64 0),(V.int .u16 0),(V.bool false),(V.int .i64 0),(V.int .i64 0),V.nils,(V.int .i64 0),V.nils,V.nils,(V.bool false),(V.int .u32 0),(V.bool false),(V.bool false),(V.bool false),V.nils,V.nils,V.nils] [])).bind fun t91 =>
 (mstore 31 t6 t91).bind fun _ =>
 (mload (some 31) t6).bind fun r0 =>
 M.pure (.ret [r0,(V.int .i64 7)]))
 ((M.lift (Ax.nilck t0)).bind fun t95 =>
 (M.lift (Ax.faddr 39 t95)).bind fun t96 =>
 (M.lift (Ax.iaddr (some 8) 33 t96 t1)).bind fun t97 =>
 (M.lift (Ax.iaddr (some 3) 11 t97 t36)).bind fun t98 =>
 (mload (some 11) t98).bind fun t99 =>
 (mbox ziV (V.agg [(V.bool false),(V.int .u32 0),(V.int .i64 0),(V.int .i64 0),(V.int .i64 0),V.nils,(V.int .i64 0),V.nils,V.nils,(V.int .u32 0),V.nils])).bind fun t20 =>
 (mstore 11 t20 t99).bind fun _ =>
 (M.lift (Ax.faddr 3 t20)).bind fun t102 =>
 (mload (some 6) t102).bind fun t103 =>
 (G zei [t87,t103]).bind fun t104 =>
 (M.lift (Ax.ext 0 t104)).bind fun t105 =>
 (M.lift (Ax.ext 1 t104)).bind fun t106 =>
 (mbox zbP (V.agg [(V.bool false),(V.bool false),(V.int .i64 0),(V.int .u16 0),(V.bool false),(V.int .i64 0),(V.int .i64 0),V.nils,(V.int .i64 0),V.nils,V.nils,(V.bool false),(V.int .u32 0),(V.bool false),(V.bool false),(V.bool false),V.nils,V.nils,V.nils])).bind fun t21 =>
 (mstore 19 t21 t105).bind fun _ =>
 (M.lift (Ax.bin .neq t106 (V.int .i64 0))).bind fun t108 =>
 M.ite t108
 ((M.lift (Ax.build [(V.bool false),(V.int .i64 0),(V.int .u16 0),(V.int .u32 0),(V.int .u32 0),V.nils,(V.int .i64 0),V.nils,(V.int .i64 0),V.nils,(V.int .i64 0),(V.int .i64 0),(V.bool false),(V.bool false),(V.int .i64 0),(V.int .u16 0),(V.bool false),(V.int .i64 0),(V.int .i64 0),V.nils,(V.int .i64 0),V.nils,V.nils,(V.bool false),(V.int .u32 0),(V.bool false),(V.bool false),(V.bool false),V.nils,V.nils,V.nils] [])).bind fun t109 =>
 (mstore 31 t6 t109).bind fun _ =>
 (mload (some 31) t6).bind fun r0 =>
 M.pure (.ret [r0,(V.int .i64 8)]))
 ((M.lift (Ax.faddr 10 t20)).bind fun t110 =>
 (mload none t110).bind fun t111 =>
 (M.lift (Ax.faddr 2 t8)).bind fun t112 =>
 (mload none t112).bind fun t113 =>
 (G zfA [t111,t113]).bind fun t114 =>
 M.ite t114
 ((M.lift (Ax.build [(V.bool false),(V.int .i64 0),(V.int .u16 0),(V.int .u32 0),(V.int .u32 0),V.nils,(V.int .i64 0),V.nils,(V.int .i64 0),V.nils,(V.int .i64 0),(V.int .i64 0),(V.bool false),(V.bool false),(V.int .i64 0),(V.int .u16 0),(V.bool false),(V.int .i64 0),(V.int .i64 0),V.nils,(V.int .i64 0),V.nils,V.nils,(V.bool false),(V.int .u32 0),(V.bool false),(V.bool false),(V.bool false),V.nils,V.nils,V.nils] [])).bind fun t115 =>
 (mstore 31 t6 t115).bind fun _ =>
 (mload (some 31) t6).bind fun r0 =>
 M.pure (.ret [r0,(V.int .i64 9)]))
 ((mload (some 10) t8).bind fun t116 =>
 (mload (some 19) t21).bind fun t119 =>
 (M.lift (Ax.build [(V.bool false),(V.int .i64 0),(V.int .u16 0),(V.int .u32 0),(V.int .u32 0),V.nils,(V.int .i64 0),V.nils,(V.int .i64 0),V.nils,(V.int .i64 0),(V.int .i64 0),(V.bool false),(V.bool false),(V.int .i64 0),(V.int .u16 0),(V.bool false),(V.int .i64 0),(V.int .i64 0),V.nils,(V.int .i64 0),V.nils,V.nils,(V.bool false),(V.int .u32 0),(V.bool false),(V.bool false),(V.bool false),V.nils,V.nils,V.nils] [(0,10,t116),(10,1,t36),(11,1,t52),(12,19,t119)])).bind fun t120 =>
 (mstore 31 t6 t120).bind fun _ =>
 (mload (some 31) t6).bind fun r0 =>
 M.pure (.ret [r0,(V.int .i64 0)]))))))))
noncomputable def zgA:Fn':=(T zcq).getD noF
theorem zqE:T zcq = some zgA:=by kernel_rfl
theorem zrg (G:Sem') (t0 t1 t2:V):execK G zgA.rv zgA.body [] [] (params 0 [t0,t1,t2]) = zlb G t0 t1 t2:=by kernel_rfl
def zhI (G:Sem'):List V → M V
 | [t0,t1,t2]=>fin (zlb G t0 t1 t2)
 | _=>M.fail
theorem zr8 {g:Sem'} (hg:Sims g (sem T)) (args:List V):Sim (zhI g args) (sem T zcq args):=by
 unfold zhI
 split
 ·exact zad zqE (Nat.le_of_ble_eq_true (by kernel_rfl)) hg (zrg g _ _ _)
 ·exact zaa
def zq9 (G:Sem') (t8 t0 t1 t2 t7:V) (L:List V):M Res :=
 (M.lift (Ax.bin .lss (L.getD 0 .undef) (V.int .i64 8))).bind fun t62 =>
 M.ite t62
 (M.blk 1 (
 (M.lift (Ax.nilck t1)).bind fun t67 =>
 (M.lift (Ax.faddr 303 t67)).bind fun t68 =>
 (M.lift (Ax.iaddr (some 8) 8 t68 (L.getD 0 .undef))).bind fun t69 =>
 (M.lift (Ax.iaddr (some 8) 1 t69 t2)).bind fun t70 =>
 (mload none t70).bind fun t71 =>
 (M.lift (eqr .ptr false t71 V.nilp)).bind fun t73 =>
 (guarded [(0,t73)] (some (0,false)) (M.lift (Ax.faddr 11 t7))).bind fun t75 =>
 (guarded [(0,t73)] (some (0,false)) (mload none t75)).bind fun t76 =>
 (guarded [(0,t73)] (some (0,false)) (M.pure t1)).bind fun t77 =>
 (guarded [(0,t73)] (some (0,false)) (M.pure (L.getD 0 .undef))).bind fun t78 =>
 (guarded [(0,t73)] (some (0,false)) (M.lift (Ax.nilck t77))).bind fun t79 =>
 (guarded [(0,t73)] (some (0,false)) (M.lift (Ax.faddr 0 t79))).bind fun t80 =>
 (guarded [(0,t73)] (some (0,false)) (M.lift (Ax.faddr 30 t80))).bind fun t81 =>
 (guarded [(0,t73)] (some (0,false)) (M.lift (Ax.iaddr (some 8) 1 t81 t78))).bind fun t82 =>
 (guarded [(0,t73)] (some (0,false)) (mload none t82)).bind fun t83 =>
 (guarded [(0,t73)] (some (0,false)) (M.lift (Ax.bin .lss t76 t83))).bind fun t84 =>
 (M.lift (Ax.pick t73 (V.bool true) t84)).bind fun t85 =>
 M.ite t85
 (M.pure (.ex 1 []))
 ((M.lift (Ax.faddr 10 t7)).bind fun t88 =>
 (mload none t88).bind fun t89 =>
 (M.lift (Ax.faddr 0 t7)).bind fun t90 =>
 (mload (some 10) t90).bind fun t91 =>
 (M.lift (Ax.faddr 12 t7)).bind fun t92 =>
 (mload (some 19) t92).bind fun t93 =>
 (M.lift (Ax.nilck t8)).bind fun t95 =>
 (M.lift (Ax.faddr 3 t95)).bind fun t96 =>
 (mload (some 6) t96).bind fun t97 =>
 (M.lift (Ax.nilck t8)).bind fun t99 =>
 (M.lift (Ax.faddr 9 t99)).bind fun t100 =>
 (mload none t100).bind fun t101 =>
 (M.lift (Ax.nilck t0)).bind fun t103 =>
 (M.lift (Ax.faddr 1468 t103)).bind fun t104 =>
 (mload none t104).bind fun t105 =>
 (G zcI [t71,t89,t91,t93,t97,t101,t105]).bind fun t106 =>
 (M.lift (Ax.ext 0 t106)).bind fun t107 =>
 (mbox zv9 (V.agg [V.nils,(V.int .i64 0),(V.bool false)])).bind fun t11 =>
 (mstore 3 t11 t107).bind fun _ =>
 (M.lift (Ax.ext 1 t106)).bind fun t108 =>
 M.blk 2 (
 (M.lift (Ax.bin .neq t108 (V.int .i64 0))).bind fun t111 =>
 M.join (M.ite t111
 (M.pure (.nrm []))
 ((M.lift (Ax.faddr 1 t11)).bind fun t113 =>
 (mload none t113).bind fun t114 =>
 (M.lift (Ax.bin .eql t114 (V.int .i64 0))).bind fun t115 =>
 M.join (M.ite t115
 ((M.lift (Ax.nilck t1)).bind fun t119 =>
 (M.lift (Ax.faddr 0 t119)).bind fun t120 =>
 (M.lift (Ax.faddr 0 t120)).bind fun t121 =>
 (M.lift (Ax.faddr 8 t121)).bind fun t122 =>
 (M.lift (Ax.iaddr (some 8) 1 t122 (L.getD 0 .undef))).bind fun t123 =>
 (mload none t123).bind fun t124 =>
 (M.lift (Ax.faddr 0 t11)).bind fun t125 =>
 (mload none t125).bind fun t126 =>
 (G zbJ [t0,t124,(V.int .i64 1),t126]).bind fun t127 =>
 M.pure (.nrm []))
 ((M.lift (Ax.faddr 2 t11)).bind fun t129 =>
 (mload none t129).bind fun t130 =>
 M.join (M.ite t130
 ((M.lift (Ax.faddr 10 t7)).bind fun t134 =>
 (mload none t134).bind fun t135 =>
 M.getH.bind fun h0 =>
 (G zbH [t71]).bind fun t137 =>
 M.getH.bind fun h0' =>
 (M.unch t134 h0 h0').bind fun _ =>
 (G zby [t0,t1,t2,t135,t137]).bind fun t138 =>
 M.pure (.nrm []))
 (M.pure (.nrm []))) fun _ =>
 M.pure (.nrm []))) fun _ =>
 M.pure (.nrm []))) fun _ =>
 M.pure (.nrm [])) fun _ =>
 M.pure (.nrm []))) fun _ =>
 (M.lift (Ax.bin .add (L.getD 0 .undef) (V.int .i64 1))).bind fun t139 =>
 M.pure (.nrm [t139]))
 (M.pure (.ex 0 []))
def zmj (G:Sem') (t0 t1 t2 t3:V):M Res :=
 (mbox zlg t3).bind fun t7 =>
 (M.lift (Ax.faddr 10 t7)).bind fun t15 =>
 (mload none t15).bind fun t16 =>
 (M.lift (Ax.nilck t1)).bind fun t17 =>
 (M.lift (Ax.faddr 39 t17)).bind fun t18 =>
 (M.lift (Ax.iaddr (some 8) 33 t18 t2)).bind fun t19 =>
 (M.lift (Ax.iaddr (some 3) 11 t19 t16)).bind fun t20 =>
 (M.lift (Ax.nilck t20)).bind fun t23 =>
 (M.lift (Ax.faddr 10 t23)).bind fun t24 =>
 (mload none t24).bind fun t25 =>
 (M.lift (Ax.faddr 0 t7)).bind fun t26 =>
 (M.lift (Ax.faddr 2 t26)).bind fun t27 =>
 (mload none t27).bind fun t28 =>
 (G zgG [t25,t28]).bind fun t29 =>
 (M.lift (Ax.nilck t20)).bind fun t30 =>
 (M.lift (Ax.faddr 10 t30)).bind fun t31 =>
 (mstore 1 t31 t29).bind fun _ =>
 (M.lift (Ax.faddr 12 t7)).bind fun t32 =>
 (M.lift (Ax.faddr 4 t32)).bind fun t33 =>
 (mload none t33).bind fun t34 =>
 M.join (M.ite t34
 ((M.lift (Ax.faddr 12 t7)).bind fun t36 =>
 (M.lift (Ax.faddr 5 t36)).bind fun t37 =>
 (mload (some 6) t37).bind fun t38 =>
 (M.lift (Ax.nilck t20)).bind fun t39 =>
 (M.lift (Ax.faddr 3 t39)).bind fun t40 =>
 (mstore 6 t40 t38).bind fun _ =>
 (M.lift (Ax.nilck t20)).bind fun t43 =>
 (M.lift (Ax.faddr 3 t43)).bind fun t44 =>
 (M.lift (Ax.faddr 1 t44)).bind fun t45 =>
 (mload none t45).bind fun t46 =>
 (M.lift (Ax.cint .u64 t46)).bind fun t47 =>
 (M.lift (Ax.bin .shl (V.int .u32 1) t47)).bind fun t48 =>
 (M.lift (Ax.bin .sub t48 (V.int .u32 1))).bind fun t49 =>
 (M.lift (Ax.nilck t20)).bind fun t50 =>
 (M.lift (Ax.faddr 9 t50)).bind fun t51 =>
 (mstore 1 t51 t49).bind fun _ =>
 M.pure (.nrm []))
 (M.pure (.nrm []))) fun _ =>
 (M.lift (Ax.faddr 12 t7)).bind fun t52 =>
 (M.lift (Ax.faddr 11 t52)).bind fun t53 =>
 (mload none t53).bind fun t54 =>
 M.join (M.ite t54
 ((M.lift (Ax.faddr 12 t7)).bind fun t56 =>
 (M.lift (Ax.faddr 12 t56)).bind fun t57 =>
 (mload none t57).bind fun t58 =>
 (M.lift (Ax.nilck t20)).bind fun t59 =>
 (M.lift (Ax.faddr 9 t59)).bind fun t60 =>
 (mstore 1 t60 t58).bind fun _ =>
 M.pure (.nrm []))
 (M.pure (.nrm []))) fun _ =>
 M.blk 0 (
 M.iter (zq9 G t20 t0 t1 t2 t7) [(V.int .i64 0)]) fun _ =>
 M.pure (.ret [])
noncomputable def zhs:Fn':=(T zcL).getD noF
theorem zrW:T zcL = some zhs:=by kernel_rfl
theorem zsX (G:Sem') (t0 t1 t2 t3:V):execK G zhs.rv zhs.body [] [] (params 0 [t0,t1,t2,t3]) = zmj G t0 t1 t2 t3:=by kernel_rfl
def ziL (G:Sem'):List V → M V
 | [t0,t1,t2,t3]=>fin (zmj G t0 t1 t2 t3)
 | _=>M.fail
theorem ztI {g:Sem'} (hg:Sims g (sem T)) (args:List V):Sim (ziL g args) (sem T zcL args):=by
 unfold ziL
 split
 ·exact zad zrW (Nat.le_of_ble_eq_true (by kernel_rfl)) hg (zsX g _ _ _ _)
 ·exact zaa
def zu6 (G:Sem') (t0:V):M Res :=
 (mbox zqz t0).bind fun t1 =>
 (mbox zbU (V.agg [(V.int .i64 0),(V.int .i64 0),(V.int .i64 0),(V.int .i64 0),(V.int .i64 0),(V.int .i64 0),V.nils])).bind fun t2 =>
 (mload none t1).bind fun t8 =>
 (M.lift (vlen t8)).bind fun t9 =>
 (M.lift (Ax.bin .lss t9 (V.int .i64 11))).bind fun t10 =>
 M.ite t10
 ((M.lift (Ax.build [(V.int .i64 0),(V.int .i64 0),(V.int .i64 0),(V.int .i64 0),(V.int .i64 0),(V.int .i64 0),V.nils] [])).bind fun t11 =>
 (mstore 7 t2 t11).bind fun _ =>
 (mload (some 7) t2).bind fun r0 =>
 M.pure (.ret [r0,(V.int .i64 3)]))
 ((M.pure (.fn zeg [t1])).bind fun t12 =>
 (mload none t1).bind fun t13 =>
 (M.lift (Ax.iaddr none 1 t13 (V.int .i64 0))).bind fun t14 =>
 (mload none t14).bind fun t15 =>
 (M.lift (Ax.cint .i64 t15)).bind fun t16 =>
 (mload none t1).bind fun t17 =>
 (M.lift (Ax.iaddr none 1 t17 (V.int .i64 1))).bind fun t18 =>
 (mload none t18).bind fun t19 =>
 (M.lift (Ax.cint .i64 t19)).bind fun t20 =>
 (mload none t1).bind fun t21 =>
 (M.lift (Ax.iaddr none 1 t21 (V.int .i64 2))).bind fun t22 =>
 (mload none t22).bind fun t23 =>
 (M.lift (Ax.cint .i64 t23)).bind fun t24 =>
 M.getH.bind fun h0 =>
 (callv G t12 [(V.int .i64 3)]).bind fun t26 =>
 M.getH.bind fun h0' =>
 (M.unch t22 h0 h0').bind fun _ =>
 (M.unch t1 h0 h0').bind fun _ =>
 (M.unch t18 h0 h0').bind fun _ =>
 (M.unch t1 h0 h0').bind fun _ =>
 (M.unch t14 h0 h0').bind fun _ =>
 (M.unch t1 h0 h0').bind fun _ =>
 M.getH.bind fun h1 =>
 (callv G t12 [(V.int .i64 5)]).bind fun t28 =>
 M.getH.bind fun h1' =>
 (M.unch t22 h1 h1').bind fun _ =>
 (M.unch t1 h1 h1').bind fun _ =>
 (M.unch t18 h1 h1').bind fun _ =>
 (M.unch t1 h1 h1').bind fun _ =>
 (M.unch t14 h1 h1').bind fun _ =>
 (M.unch t1 h1 h1').bind fun _ =>
 M.getH.bind fun h2 =>
 (callv G t12 [(V.int .i64 7)]).bind fun t30 =>
 M.getH.bind fun h2' =>
 (M.unch t22 h2 h2').bind fun _ =>
 (M.unch t1 h2 h2').bind fun _ =>
 (M.unch t18 h2 h2').bind fun _ =>
 (M.unch t1 h2 h2').bind fun _ =>
 (M.unch t14 h2 h2').bind fun _ =>
 (M.unch t1 h2 h2').bind fun _ =>
 (M.lift (Ax.build [(V.int .i64 0),(V.int .i64 0),(V.int .i64 0),(V.int .i64 0),(V.int .i64 0),(V.int .i64 0),V.nils] [(0,1,t16),(1,1,t20),(2,1,t24),(3,1,t26),(4,1,t28),(5,1,t30)])).bind fun t31 =>
 (mbox zbU (V.agg [(V.int .i64 0),(V.int .i64 0),(V.int .i64 0),(V.int .i64 0),(V.int .i64 0),(V.int .i64 0),V.nils])).bind fun t5 =>
 (mstore 7 t5 t31).bind fun _ =>
 (mload none t1).bind fun t34 =>
 (M.lift (zcx .sl 1 t34 (some (V.int .i64 11)) none none)).bind fun t35 =>
 M.getH.bind fun h3 =>
 (callv G t12 [(V.int .i64 9)]).bind fun t33 =>
 M.getH.bind fun h3' =>
 (M.unch t1 h3 h3').bind fun _ =>
 M.blk 0 (
 (M.lift (Ax.bin .gtr t33 (V.int .i64 200))).bind fun t38 =>
 M.ite t38
 ((M.lift (Ax.build [(V.int .i64 0),(V.int .i64 0),(V.int .i64 0),(V.int .i64 0),(V.int .i64 0),(V.int .i64 0),V.nils] [])).bind fun t39 =>
 (mstore 7 t2 t39).bind fun _ =>
 (mload (some 7) t2).bind fun r0 =>
 M.pure (.ret [r0,(V.int .i64 4)]))
 ((M.lift (vlen t35)).bind fun t43 =>
 (M.lift (Ax.bin .gtr t33 t43)).bind fun t44 =>
 M.ite t44
 ((M.lift (Ax.build [(V.int .i64 0),(V.int .i64 0),(V.int .i64 0),(V.int .i64 0),(V.int .i64 0),(V.int .i64 0),V.nils] [])).bind fun t45 =>
 (mstore 7 t2 t45).bind fun _ =>
 (mload (some 7) t2).bind fun r0 =>
 M.pure (.ret [r0,(V.int .i64 3)]))
 ((M.lift (vlen t35)).bind fun t49 =>
 (M.lift (Ax.bin .lss t33 t49)).bind fun t50 =>
 M.ite t50
 ((M.lift (Ax.build [(V.int .i64 0),(V.int .i64 0),(V.int .i64 0),(V.int .i64 0),(V.int .i64 0),(V.int .i64 0),V.nils] [])).bind fun t51 =>
 (mstore 7 t2 t51).bind fun _ =>
 (mload (some 7) t2).bind fun r0 =>
 M.pure (.ret [r0,(V.int .i64 2)]))
 (M.pure (.nrm []))))) fun _ =>
 (G zaN [t35]).bind fun t53 =>
 (M.lift (Ax.faddr 6 t5)).bind fun t54 =>
 (mstore 1 t54 t53).bind fun _ =>
 (mload (some 7) t5).bind fun t55 =>
 (G zfB [t55]).bind fun t56 =>
 (M.lift (Ax.un .not t56)).bind fun t57 =>
 M.ite t57
 ((M.lift (Ax.build [(V.int .i64 0),(V.int .i64 0),(V.int .i64 0),(V.int .i64 0),(V.int .i64 0),(V.int .i64 0),V.nils] [])).bind fun t58 =>
 (mstore 7 t2 t58).bind fun _ =>
 (mload (some 7) t2).bind fun r0 =>
 M.pure (.ret [r0,(V.int .i64 2)]))
 ((mload (some 7) t5).bind fun t59 =>
 (mstore 7 t2 t59).bind fun _ =>
 (mload (some 7) t2).bind fun r0 =>
 M.pure (.ret [r0,(V.int .i64 0)])))
noncomputable def zm6:Fn':=(T zfX).getD noF
theorem zzI:T zfX = some zm6:=by kernel_rfl
theorem zAI (G:Sem') (t0:V):execK G zm6.rv zm6.body [] [] (params 0 [t0]) = zu6 G t0:=by kernel_rfl
def zpM (G:Sem'):List V → M V
 | [t0]=>fin (zu6 G t0)
 | _=>M.fail
theorem zBH {g:Sem'} (hg:Sims g (sem T)) (args:List V):Sim (zpM g args) (sem T zfX args):=by
 unfold zpM
 split
 ·exact zad zzI (Nat.le_of_ble_eq_true (by kernel_rfl)) hg (zAI g _)
 ·exact zaa
def zqu (G:Sem') (t0 t1 t2 t3:V):M Res :=
 (M.lift (Ax.build [(V.int .i64 0),(V.int .i64 0),(V.int .i64 0),(V.int .i64 0),(V.int .i64 0),(V.int .i64 0),V.nils] [(0,1,(V.int .i64 18)),(4,1,t2),(5,1,t3)])).bind fun t12 =>
 (G zbg [t0,t1,t12]).bind fun t13 =>
 M.pure (.ret [])
noncomputable def zkk:Fn':=(T zdq).getD noF
theorem zwj:T zdq = some zkk:=by kernel_rfl
theorem zxu (G:Sem') (t0 t1 t2 t3:V):execK G zkk.rv zkk.body [] [] (params 0 [t0,t1,t2,t3]) = zqu G t0 t1 t2 t3:=by kernel_rfl
def zlU (G:Sem'):List V → M V
 | [t0,t1,t2,t3]=>fin (zqu G t0 t1 t2 t3)
 | _=>M.fail
theorem zyl {g:Sem'} (hg:Sims g (sem T)) (args:List V):Sim (zlU g args) (sem T zdq args):=by
 unfold zlU
 split
 ·exact zad zwj (Nat.le_of_ble_eq_true (by kernel_rfl)) hg (zxu g _ _ _ _)
 ·exact zaa
def zsD (G:Sem') (t47 t8 t6:V) (L:List V):M Res :=
 (M.lift (Ax.bin .lss (L.getD 1 .undef) (V.int .i64 8))).bind fun t49 =>
 M.ite t49
 (M.blk 1 (
 (M.lift (Ax.index 8 1 none t47 (L.getD 1 .undef))).bind fun t51 =>
 M.join (M.ite t51
 ((M.lift (Ax.faddr 0 t8)).bind fun t55 =>
 (M.lift (Ax.faddr 8 t55)).bind fun t56 =>
 (M.lift (Ax.iaddr (some 8) 1 t56 (L.getD 1 .undef))).bind fun t57 =>
 (mload none t57).bind fun t58 =>
 (M.lift (Ax.cint .u8 t58)).bind fun t59 =>
 (mslit zaw 1 [(V.int .u8 0)] [(0,1,t59)]).bind fun t60 =>
 (mappend zaw 1 1 (L.getD 0 .undef) t60).bind fun t61 =>
 M.pure (.nrm [t61]))
 ((mslit zaw 1 [(V.int .u8 0)] [(0,1,(V.int .u8 255))]).bind fun t63 =>
 (mappend zaw 1 1 (L.getD 0 .undef) t63).bind fun t64 =>
 M.pure (.nrm [t64]))) fun L0 =>
 M.pure (.nrm [(L0.getD 0 .undef)])) fun L1 =>
 (M.lift (Ax.bin .add (L.getD 1 .undef) (V.int .i64 1))).bind fun t65 =>
 M.pure (.nrm [(L1.getD 0 .undef),t65]))
 (M.pure (.ex 0 [(L.getD 0 .undef)]))
def znX (G:Sem') (t0 t1 t2:V):M Res :=
 (mbox zbU t2).bind fun t5 =>
 (M.lift (Ax.faddr 1 t5)).bind fun t16 =>
 (mload none t16).bind fun t17 =>
 (M.lift (Ax.nilck t0)).bind fun t18 =>
 (M.lift (Ax.faddr 0 t18)).bind fun t19 =>
 (M.lift (Ax.iaddr (some 4) 367 t19 t17)).bind fun t20 =>
 (M.lift (Ax.nilck t20)).bind fun t23 =>
 (M.lift (Ax.faddr 0 t23)).bind fun t24 =>
 (mload (some 39) t24).bind fun t25 =>
 (M.lift (Ax.nilck t0)).bind fun t28 =>
 (M.lift (Ax.faddr 1468 t28)).bind fun t29 =>
 (mload none t29).bind fun t30 =>
 (G zg1 [t25,t1,t30]).bind fun t31 =>
 (M.lift (Ax.ext 0 t31)).bind fun t32 =>
 (mbox zbp (V.agg [(V.bool false),(V.bool false),(V.bool false),(V.bool false),(V.bool false),(V.bool false),(V.bool false),(V.bool false),(V.int .i64 0),(V.int .i64 0),(V.int .i64 0),(V.int .i64 0),(V.int .i64 0),(V.int .i64 0),(V.int .i64 0),(V.int .i64 0),(V.int .i64 0),(V.bool false),(V.int .i64 0),(V.int .i64 0),(V.int .i64 0),(V.int .i64 0),(V.int .i64 0),(V.int .i64 0),(V.int .i64 0),(V.int .i64 0),(V.int .i64 0),(V.int .i64 0),(V.int .i64 0),(V.int .i64 0),(V.int .i64 0),(V.int .i64 0),(V.int .i64 0),(V.int .i64 0),(V.int .i64 0),(V.int .i64 0),(V.int .i64 0),(V.int .i64 0),(V.bool false)])).bind fun t8 =>
 (mstore 39 t8 t32).bind fun _ =>
 (M.lift (Ax.ext 1 t31)).bind fun t33 =>
 (M.lift (Ax.ext 2 t31)).bind fun t34 =>
 (M.lift (Ax.bin .neq t34 (V.int .i64 0))).bind fun t36 =>
 M.ite t36
 (M.pure (.ret [t34]))
 ((mload (some 39) t8).bind fun t39 =>
 (M.lift (Ax.nilck t20)).bind fun t40 =>
 (M.lift (Ax.faddr 0 t40)).bind fun t41 =>
 (mstore 39 t41 t39).bind fun _ =>
 (M.lift (Ax.faddr 0 t8)).bind fun t42 =>
 (mload (some 16) t42).bind fun t43 =>
 (G zcZ [t43]).bind fun t44 =>
 (M.lift (Ax.faddr 0 t8)).bind fun t45 =>
 (M.lift (Ax.faddr 0 t45)).bind fun t46 =>
 (mload (some 8) t46).bind fun t47 =>
 M.blk 0 (
 M.iter (zsD G t47 t8 (V.int .i64 0)) [V.nils,(V.int .i64 0)]) fun L2 =>
 (M.lift (Ax.faddr 1 t5)).bind fun t68 =>
 (mload none t68).bind fun t69 =>
 (M.lift (Ax.faddr 16 t8)).bind fun t71 =>
 (M.lift (Ax.faddr 0 t71)).bind fun t72 =>
 (mload none t72).bind fun t73 =>
 M.getH.bind fun h0 =>
 (G zc4 [t20]).bind fun t76 =>
 M.getH.bind fun h0' =>
 (M.unch t72 h0 h0').bind fun _ =>
 (M.unch t68 h0 h0').bind fun _ =>
 (M.lift (Ax.build [(V.int .i64 0),(V.int .i64 0),(V.int .i64 0),(V.int .i64 0),(V.int .i64 0),(V.int .i64 0),V.nils] [(0,1,(V.int .i64 17)),(1,1,t69),(2,1,t33),(3,1,t73),(4,1,t44),(5,1,t76),(6,1,(L2.getD 0 .undef))])).bind fun t78 =>
 (G zbg [t0,t1,t78]).bind fun t79 =>
 (M.lift (Ax.faddr 16 t8)).bind fun t84 =>
 (M.lift (Ax.faddr 0 t84)).bind fun t85 =>
 (mload none t85).bind fun t86 =>
 (M.lift (Ax.build [(V.int .i64 0),(V.int .i64 0),(V.int .i64 0),(V.int .i64 0),(V.int .i64 0),(V.int .i64 0),V.nils] [(0,1,(V.int .i64 19)),(2,1,t33),(3,1,t86),(4,1,t44),(5,1,t1)])).bind fun t89 =>
 (G zci [t0,t20,t33,t89]).bind fun t90 =>
 M.pure (.ret [(V.int .i64 0)]))
noncomputable def zij:Fn':=(T zdh).getD noF
theorem ztr:T zdh = some zij:=by kernel_rfl
theorem zul (G:Sem') (t0 t1 t2:V):execK G zij.rv zij.body [] [] (params 0 [t0,t1,t2]) = znX G t0 t1 t2:=by kernel_rfl
def zjL (G:Sem'):List V → M V
 | [t0,t1,t2]=>fin (znX G t0 t1 t2)
 | _=>M.fail
theorem zvH {g:Sem'} (hg:Sims g (sem T)) (args:List V):Sim (zjL g args) (sem T zdh args):=by
 unfold zjL
 split
 ·exact zad ztr (Nat.le_of_ble_eq_true (by kernel_rfl)) hg (zul g _ _ _)
 ·exact zaa
def znT (G:Sem') (t0 t1 t2 t3:V):M Res :=
 (mbox zbU t3).bind fun t7 =>
 (M.lift (Ax.nilck t1)).bind fun t14 =>
 (M.lift (Ax.faddr 0 t14)).bind fun t15 =>
 (mload (some 39) t15).bind fun t16 =>
 (M.lift (Ax.nilck t1)).bind fun t19 =>
 (M.lift (Ax.faddr 0 t19)).bind fun t20 =>
 (M.lift (Ax.faddr 0 t20)).bind fun t21 =>
 (M.lift (Ax.faddr 8 t21)).bind fun t22 =>
 (M.lift (Ax.iaddr (some 8) 1 t22 t2)).bind fun t23 =>
 (mload none t23).bind fun t24 =>
 (mbox zbp (V.agg [(V.bool false),(V.bool false),(V.bool false),(V.bool false),(V.bool false),(V.bool false),(V.bool false),(V.bool false),(V.int .i64 0),(V.int .i64 0),(V.int .i64 0),(V.int .i64 0),(V.int .i64 0),(V.int .i64 0),(V.int .i64 0),(V.int .i64 0),(V.int .i64 0),(V.bool false),(V.int .i64 0),(V.int .i64 0),(V.int .i64 0),(V.int .i64 0),(V.int .i64 0),(V.int .i64 0),(V.int .i64 0),(V.int .i64 0),(V.int .i64 0),(V.int .i64 0),(V.int .i64 0),(V.int .i64 0),(V.int .i64 0),(V.int .i64 0),(V.int .i64 0),(V.int .i64 0),(V.int .i64 0),(V.int .i64 0),(V.int .i64 0),(V.int .i64 0),(V.bool false)])).bind fun t9 =>
 M.getH.bind fun h0 =>
 (mstore 39 t9 t16).bind fun _ =>
 M.getH.bind fun h0' =>
 (M.unch t23 h0 h0').bind fun _ =>
 (M.lift (Ax.faddr 0 t7)).bind fun t25 =>
 (mload none t25).bind fun t26 =>
 M.blk 0 (
 (M.lift (Ax.bin .eql t26 (V.int .i64 2))).bind fun t28 =>
 M.join (M.ite t28
 ((M.lift (Ax.nilck t1)).bind fun t32 =>
 (M.lift (Ax.faddr 0 t32)).bind fun t33 =>
 (mload (some 39) t33).bind fun t34 =>
 (M.lift (Ax.nilck t0)).bind fun t37 =>
 (M.lift (Ax.faddr 1468 t37)).bind fun t38 =>
 (mload none t38).bind fun t39 =>
 (G zfT [t34,t24,t39]).bind fun t40 =>
 (M.lift (Ax.ext 0 t40)).bind fun t41 =>
 (M.lift (Ax.nilck t1)).bind fun t43 =>
 (M.lift (Ax.faddr 0 t43)).bind fun t44 =>
 (mstore 39 t44 t41).bind fun _ =>
 (M.lift (Ax.ext 1 t40)).bind fun t42 =>
 (mload (some 39) t9).bind fun t47 =>
 (G zbV [t0,t1,t47]).bind fun t48 =>
 M.pure (.nrm [t42]))
 ((M.lift (Ax.bin .eql t26 (V.int .i64 3))).bind fun t50 =>
 M.join (M.ite t50
 ((M.lift (Ax.nilck t1)).bind fun t54 =>
 (M.lift (Ax.faddr 0 t54)).bind fun t55 =>
 (mload (some 39) t55).bind fun t56 =>
 (M.lift (Ax.faddr 2 t7)).bind fun t58 =>
 (mload none t58).bind fun t59 =>
 (M.lift (Ax.nilck t0)).bind fun t61 =>
 (M.lift (Ax.faddr 1468 t61)).bind fun t62 =>
 (mload none t62).bind fun t63 =>
 (G zg0 [t56,t24,t59,t63]).bind fun t64 =>
 (M.lift (Ax.ext 0 t64)).bind fun t65 =>
 (M.lift (Ax.nilck t1)).bind fun t67 =>
 (M.lift (Ax.faddr 0 t67)).bind fun t68 =>
 (mstore 39 t68 t65).bind fun _ =>
 (M.lift (Ax.ext 1 t64)).bind fun t66 =>
 (mload (some 39) t9).bind fun t71 =>
 (G zbV [t0,t1,t71]).bind fun t72 =>
 M.pure (.nrm [t66]))
 ((M.lift (Ax.bin .eql t26 (V.int .i64 4))).bind fun t74 =>
 M.ite t74
 ((mload (some 7) t7).bind fun t77 =>
 (G zdb [t1,t2,t77]).bind fun t78 =>
 M.pure (.ret [t78]))
 ((M.lift (Ax.bin .eql t26 (V.int .i64 5))).bind fun t80 =>
 M.ite t80
 ((mload (some 7) t7).bind fun t84 =>
 (G zdc [t0,t1,t2,t84]).bind fun t85 =>
 M.pure (.ret [t85]))
 ((M.lift (Ax.bin .eql t26 (V.int .i64 6))).bind fun t87 =>
 M.join (M.ite t87
 ((M.lift (Ax.faddr 2 t7)).bind fun t90 =>
 (mload none t90).bind fun t91 =>
 (M.lift (Ax.nilck t1)).bind fun t92 =>
 (M.lift (Ax.faddr 303 t92)).bind fun t93 =>
 (M.lift (Ax.iaddr (some 8) 8 t93 t2)).bind fun t94 =>
 (M.lift (Ax.iaddr (some 8) 1 t94 t91)).bind fun t95 =>
 (mload none t95).bind fun t96 =>
 (M.lift (eqr .ptr false t96 V.nilp)).bind fun t97 =>
 M.ite t97
 (M.pure (.ret [(V.int .i64 6)]))
 ((M.lift (Ax.faddr 2 t7)).bind fun t100 =>
 (mload none t100).bind fun t101 =>
 (M.lift (Ax.nilck t1)).bind fun t102 =>
 (M.lift (Ax.faddr 303 t102)).bind fun t103 =>
 (M.lift (Ax.iaddr (some 8) 8 t103 t2)).bind fun t104 =>
 (M.lift (Ax.iaddr (some 8) 1 t104 t101)).bind fun t105 =>
 (mstore 1 t105 V.nilp).bind fun _ =>
 M.pure (.nrm [(V.int .i64 0)])))
 ((M.lift (Ax.bin .eql t26 (V.int .i64 7))).bind fun t107 =>
 M.ite t107
 ((mload (some 7) t7).bind fun t111 =>
 (G zdI [t0,t1,t2,t111]).bind fun t112 =>
 M.pure (.ret [t112]))
 ((M.lift (Ax.bin .eql t26 (V.int .i64 8))).bind fun t114 =>
 M.join (M.ite t114
 ((M.lift (Ax.nilck t1)).bind fun t118 =>
 (M.lift (Ax.faddr 0 t118)).bind fun t119 =>
 (mload (some 39) t119).bind fun t120 =>
 (M.lift (Ax.faddr 3 t7)).bind fun t122 =>
 (mload none t122).bind fun t123 =>
 (G zg2 [t120,t24,t123]).bind fun t124 =>
 (M.lift (Ax.ext 0 t124)).bind fun t125 =>
 (M.lift (Ax.nilck t1)).bind fun t128 =>
 (M.lift (Ax.faddr 0 t128)).bind fun t129 =>
 (mstore 39 t129 t125).bind fun _ =>
 (M.lift (Ax.ext 1 t124)).bind fun t126 =>
 (M.lift (Ax.ext 2 t124)).bind fun t127 =>
 M.join (M.ite t126
 ((M.lift (Ax.nilck t1)).bind fun t134 =>
 (M.lift (Ax.faddr 0 t134)).bind fun t135 =>
 (M.lift (Ax.faddr 16 t135)).bind fun t136 =>
 (M.lift (Ax.faddr 0 t136)).bind fun t137 =>
 (mload none t137).bind fun t138 =>
 (M.lift (Ax.build [(V.int .i64 0),(V.int .i64 0),(V.int .i64 0),(V.int .i64 0),(V.int .i64 0),(V.int .i64 0),V.nils] [(0,1,(V.int .i64 22)),(3,1,t138)])).bind fun t139 =>
 (G zci [t0,t1,(V.int .i64 (-1)),t139]).bind fun t140 =>
 M.pure (.nrm []))
 (M.pure (.nrm []))) fun _ =>
 M.pure (.nrm [t127]))
 (M.pure (.nrm [(V.int .i64 0)]))) fun L1 =>
 M.pure (.nrm [(L1.getD 0 .undef)])))) fun L2 =>
 M.pure (.nrm [(L2.getD 0 .undef)]))))) fun L3 =>
 M.pure (.nrm [(L3.getD 0 .undef)]))) fun L4 =>
 M.pure (.nrm [(L4.getD 0 .undef)])) fun L5 =>
 M.pure (.ret [(L5.getD 0 .undef)])
noncomputable def zif:Fn':=(T zde).getD noF
theorem ztn:T zde = some zif:=by kernel_rfl
theorem zuh (G:Sem') (t0 t1 t2 t3:V):execK G zif.rv zif.body [] [] (params 0 [t0,t1,t2,t3]) = znT G t0 t1 t2 t3:=by kernel_rfl
def zjH (G:Sem'):List V → M V
 | [t0,t1,t2,t3]=>fin (znT G t0 t1 t2 t3)
 | _=>M.fail
theorem zvD {g:Sem'} (hg:Sims g (sem T)) (args:List V):Sim (zjH g args) (sem T zde args):=by
 unfold zjH
 split
 ·exact zad ztn (Nat.le_of_ble_eq_true (by kernel_rfl)) hg (zuh g _ _ _ _)
 ·exact zaa
def zAk (G:Sem') (t25 t6 t7 t1 t2 t4 t5:V) (L:List V):M Res :=
 (M.lift (Ax.bin .lss (L.getD 0 .undef) (V.int .i64 8))).bind fun t27 =>
 M.ite t27
 (M.blk 1 (
 (M.lift (Ax.index 8 1 none t25 (L.getD 0 .undef))).bind fun t29 =>
 (M.lift (Ax.faddr 22 t6)).bind fun t32 =>
 (M.lift (Ax.iaddr (some 8) 1 t32 (L.getD 0 .undef))).bind fun t33 =>
 (mload none t33).bind fun t34 =>
 (M.lift (Ax.bin .geq t1 t34)).bind fun t35 =>
 (guarded [(0,t35)] (some (0,true)) (M.pure t1)).bind fun t37 =>
 (guarded [(0,t35)] (some (0,true)) (M.lift (Ax.cint .u64 t37))).bind fun t38 =>
 (guarded [(0,t35)] (some (0,true)) (M.pure (L.getD 0 .undef))).bind fun t39 =>
 (guarded [(0,t35)] (some (0,true)) (M.lift (Ax.faddr 22 t6))).bind fun t40 =>
 (guarded [(0,t35)] (some (0,true)) (M.lift (Ax.iaddr (some 8) 1 t40 t39))).bind fun t41 =>
 (guarded [(0,t35)] (some (0,true)) (mload none t41)).bind fun t42 =>
 (guarded [(0,t35)] (some (0,true)) (M.lift (Ax.cint .u64 t42))).bind fun t43 =>
 (guarded [(0,t35)] (some (0,true)) (M.lift (Ax.bin .sub t38 t43))).bind fun t44 =>
 (guarded [(0,t35)] (some (0,true)) (M.lift (Ax.bin .geq t44 (V.int .u64 500)))).bind fun t45 =>
 (M.lift (Ax.pick t35 t45 (V.bool false))).bind fun t46 =>
 (guarded [(0,t29)] (some (0,true)) (M.lift (Ax.faddr 38 t2))).bind fun t49 =>
 (guarded [(0,t29)] (some (0,true)) (mload none t49)).bind fun t50 =>
 (guarded [(0,t29)] (some (0,true)) (M.lift (Ax.un .not t50))).bind fun t51 =>
 (M.lift (Ax.pick t29 t51 (V.bool false))).bind fun t52 =>
 (guarded [(0,t52)] (some (0,true)) (M.pure t46)).bind fun t54 =>
 (guarded [(0,t52)] (some (0,true)) (M.pure t54)).bind fun t55 =>
 (guarded [(0,t55)] (some (0,false)) (M.pure t7)).bind fun t56 =>
 (guarded [(0,t55)] (some (0,false)) (M.pure (L.getD 0 .undef))).bind fun t57 =>
 (guarded [(0,t55)] (some (0,false)) (M.lift (Ax.bin .shr t56 t57))).bind fun t58 =>
 (guarded [(0,t55)] (some (0,false)) (M.lift (Ax.bin .and t58 (V.int .i64 1)))).bind fun t59 =>
 (guarded [(0,t55)] (some (0,false)) (M.lift (Ax.bin .eql t59 (V.int .i64 1)))).bind fun t60 =>
 (guarded [(0,t52)] (some (0,true)) (M.lift (Ax.pick t55 (V.bool true) t60))).bind fun t61 =>
 (M.lift (Ax.pick t52 t61 (V.bool false))).bind fun t62 =>
 M.join (M.ite t62
 ((mload (some 39) t2).bind fun t63 =>
 (G zc3 [t63,(L.getD 0 .undef),t1]).bind fun t66 =>
 (mstore 39 t2 t66).bind fun _ =>
 M.pure (.nrm []))
 (M.pure (.nrm []))) fun _ =>
 M.pure (.nrm [])) fun _ =>
 (M.lift (Ax.bin .add (L.getD 0 .undef) (V.int .i64 1))).bind fun t67 =>
 M.pure (.nrm [t67]))
 (M.pure (.ex 0 []))
def zAj (G:Sem') (t70 t2 t4 t5:V) (L:List V):M Res :=
 (M.lift (Ax.bin .lss (L.getD 1 .undef) (V.int .i64 8))).bind fun t72 =>
 M.ite t72
 (M.blk 3 (
 (M.lift (Ax.index 8 1 none t70 (L.getD 1 .undef))).bind fun t74 =>
 (guarded [(0,t74)] (some (0,true)) (M.pure (L.getD 1 .undef))).bind fun t77 =>
 (guarded [(0,t74)] (some (0,true)) (M.lift (Ax.faddr 0 t2))).bind fun t78 =>
 (guarded [(0,t74)] (some (0,true)) (M.lift (Ax.faddr 0 t78))).bind fun t79 =>
 (guarded [(0,t74)] (some (0,true)) (M.lift (Ax.iaddr (some 8) 1 t79 t77))).bind fun t80 =>
 (guarded [(0,t74)] (some (0,true)) (mload none t80)).bind fun t81 =>
 (guarded [(0,t74)] (some (0,true)) (M.lift (Ax.un .not t81))).bind fun t82 =>
 (M.lift (Ax.pick t74 t82 (V.bool false))).bind fun t83 =>
 M.join (M.ite t83
 ((mslit zgp 1 [(V.int .i64 0)] [(0,1,(L.getD 1 .undef))]).bind fun t86 =>
 (mappend zgp 1 8 (L.getD 0 .undef) t86).bind fun t87 =>
 M.pure (.nrm [t87]))
 (M.pure (.nrm [(L.getD 0 .undef)]))) fun L3 =>
 M.pure (.nrm [(L3.getD 0 .undef)])) fun L4 =>
 (M.lift (Ax.bin .add (L.getD 1 .undef) (V.int .i64 1))).bind fun t88 =>
 M.pure (.nrm [(L4.getD 0 .undef),t88]))
 (M.pure (.ex 2 [(L.getD 0 .undef)]))
def zw7 (G:Sem') (t0 t1:V):M Res :=
 (mbox zbp t0).bind fun t2 =>
 (mbox zbp (V.agg [(V.bool false),(V.bool false),(V.bool false),(V.bool false),(V.bool false),(V.bool false),(V.bool false),(V.bool false),(V.int .i64 0),(V.int .i64 0),(V.int .i64 0),(V.int .i64 0),(V.int .i64 0),(V.int .i64 0),(V.int .i64 0),(V.int .i64 0),(V.int .i64 0),(V.bool false),(V.int .i64 0),(V.int .i64 0),(V.int .i64 0),(V.int .i64 0),(V.int .i64 0),(V.int .i64 0),(V.int .i64 0),(V.int .i64 0),(V.int .i64 0),(V.int .i64 0),(V.int .i64 0),(V.int .i64 0),(V.int .i64 0),(V.int .i64 0),(V.int .i64 0),(V.int .i64 0),(V.int .i64 0),(V.int .i64 0),(V.int .i64 0),(V.int .i64 0),(V.bool false)])).bind fun t4 =>
 (mload (some 39) t2).bind fun t14 =>
 (G zer [t14]).bind fun t15 =>
 (M.lift (Ax.un .not t15)).bind fun t16 =>
 M.ite t16
 ((mload (some 39) t2).bind fun t17 =>
 (mstore 39 t4 t17).bind fun _ =>
 (mload (some 39) t4).bind fun r0 =>
 M.pure (.ret [r0,V.nils]))
 ((mload (some 39) t2).bind fun t18 =>
 (M.lift (Ax.faddr 16 t2)).bind fun t19 =>
 (mload (some 6) t19).bind fun t20 =>
 M.getH.bind fun h0 =>
 (G zfV [t20,t1]).bind fun t22 =>
 M.getH.bind fun h0' =>
 (M.unch t2 h0 h0').bind fun _ =>
 (mbox zbp (V.agg [(V.bool false),(V.bool false),(V.bool false),(V.bool false),(V.bool false),(V.bool false),(V.bool false),(V.bool false),(V.int .i64 0),(V.int .i64 0),(V.int .i64 0),(V.int .i64 0),(V.int .i64 0),(V.int .i64 0),(V.int .i64 0),(V.int .i64 0),(V.int .i64 0),(V.bool false),(V.int .i64 0),(V.int .i64 0),(V.int .i64 0),(V.int .i64 0),(V.int .i64 0),(V.int .i64 0),(V.int .i64 0),(V.int .i64 0),(V.int .i64 0),(V.int .i64 0),(V.int .i64 0),(V.int .i64 0),(V.int .i64 0),(V.int .i64 0),(V.int .i64 0),(V.int .i64 0),(V.int .i64 0),(V.int .i64 0),(V.int .i64 0),(V.int .i64 0),(V.bool false)])).bind fun t6 =>
 (mstore 39 t6 t18).bind fun _ =>
 (M.lift (Ax.faddr 0 t6)).bind fun t23 =>
 (M.lift (Ax.faddr 0 t23)).bind fun t24 =>
 (mload (some 8) t24).bind fun t25 =>
 M.blk 0 (
 M.iter (zAk G t25 t6 t22 t1 t2 t4 V.nils) [(V.int .i64 0)]) fun _ =>
 (M.lift (Ax.faddr 0 t6)).bind fun t68 =>
 (M.lift (Ax.faddr 0 t68)).bind fun t69 =>
 (mload (some 8) t69).bind fun t70 =>
 M.blk 2 (
 M.iter (zAj G t70 t2 t4 V.nils) [V.nils,(V.int .i64 0)]) fun L5 =>
 (mload (some 39) t2).bind fun t89 =>
 (mstore 39 t4 t89).bind fun _ =>
 (mload (some 39) t4).bind fun r0 =>
 M.pure (.ret [r0,(L5.getD 0 .undef)]))
noncomputable def zoH:Fn':=(T zgZ).getD noF
theorem zA5:T zgZ = some zoH:=by kernel_rfl
theorem zCm (G:Sem') (t0 t1:V):execK G zoH.rv zoH.body [] [] (params 0 [t0,t1]) = zw7 G t0 t1:=by kernel_rfl
def zrw (G:Sem'):List V → M V
 | [t0,t1]=>fin (zw7 G t0 t1)
 | _=>M.fail
theorem zC8 {g:Sem'} (hg:Sims g (sem T)) (args:List V):Sim (zrw g args) (sem T zgZ args):=by
 unfold zrw
 split
 ·exact zad zA5 (Nat.le_of_ble_eq_true (by kernel_rfl)) hg (zCm g _ _)
 ·exact zaa
def zsA (G:Sem') (t17 t1:V) (L:List V):M Res :=
 (M.lift (Ax.bin .lss (L.getD 1 .undef) (V.int .i64 8))).bind fun t19 =>
 M.ite t19
 (M.blk 1 (
 (M.lift (Ax.index 8 1 none t17 (L.getD 1 .undef))).bind fun t21 =>
 (guarded [(0,t21)] (some (0,true)) (M.pure t1)).bind fun t24 =>
 (guarded [(0,t21)] (some (0,true)) (M.pure (L.getD 1 .undef))).bind fun t25 =>
 (guarded [(0,t21)] (some (0,true)) (M.lift (Ax.nilck t24))).bind fun t26 =>
 (guarded [(0,t21)] (some (0,true)) (M.lift (Ax.faddr 0 t26))).bind fun t27 =>
 (guarded [(0,t21)] (some (0,true)) (M.lift (Ax.faddr 0 t27))).bind fun t28 =>
 (guarded [(0,t21)] (some (0,true)) (M.lift (Ax.faddr 0 t28))).bind fun t29 =>
 (guarded [(0,t21)] (some (0,true)) (M.lift (Ax.iaddr (some 8) 1 t29 t25))).bind fun t30 =>
 (guarded [(0,t21)] (some (0,true)) (mload none t30)).bind fun t31 =>
 (guarded [(0,t21)] (some (0,true)) (M.lift (Ax.un .not t31))).bind fun t32 =>
 (M.lift (Ax.pick t21 t32 (V.bool false))).bind fun t33 =>
 M.join (M.ite t33
 ((mslit zgp 1 [(V.int .i64 0)] [(0,1,(L.getD 1 .undef))]).bind fun t36 =>
 (mappend zgp 1 8 (L.getD 0 .undef) t36).bind fun t37 =>
 M.pure (.nrm [t37]))
 (M.pure (.nrm [(L.getD 0 .undef)]))) fun L0 =>
 M.pure (.nrm [(L0.getD 0 .undef)])) fun L1 =>
 (M.lift (Ax.bin .add (L.getD 1 .undef) (V.int .i64 1))).bind fun t38 =>
 M.pure (.nrm [(L1.getD 0 .undef),t38]))
 (M.pure (.ex 0 [(L.getD 0 .undef)]))
def zsz (G:Sem') (t1 t10:V) (L:List V):M Res :=
 (M.lift (Ax.bin .lss (L.getD 0 .undef) (V.int .i64 8))).bind fun t46 =>
 M.ite t46
 (M.blk 5 (
 (M.lift (Ax.nilck t1)).bind fun t54 =>
 (M.lift (Ax.faddr 303 t54)).bind fun t55 =>
 (M.lift (Ax.iaddr (some 8) 8 t55 t10)).bind fun t56 =>
 (M.lift (Ax.iaddr (some 8) 1 t56 (L.getD 0 .undef))).bind fun t57 =>
 (M.lift (Ax.nilck t1)).bind fun t58 =>
 (M.lift (Ax.faddr 303 t58)).bind fun t59 =>
 (M.lift (Ax.iaddr (some 8) 8 t59 (L.getD 0 .undef))).bind fun t60 =>
 (mstore 1 t57 V.nilp).bind fun _ =>
 (M.lift (Ax.iaddr (some 8) 1 t60 t10)).bind fun t61 =>
 (mstore 1 t61 V.nilp).bind fun _ =>
 M.pure (.nrm [])) fun _ =>
 (M.lift (Ax.bin .add (L.getD 0 .undef) (V.int .i64 1))).bind fun t62 =>
 M.pure (.nrm [t62]))
 (M.pure (.ex 4 []))
def zsy (G:Sem') (t40 t39 t1 t5 t0:V) (L:List V):M Res :=
 (M.lift (Ax.bin .lss (L.getD 0 .undef) t40)).bind fun t42 =>
 M.ite t42
 (M.blk 3 (
 (M.lift (Ax.iaddr none 1 t39 (L.getD 0 .undef))).bind fun t43 =>
 (mload none t43).bind fun t44 =>
 M.blk 4 (
 M.iter (zsz G t1 t44) [(V.int .i64 0)]) fun _ =>
 (M.lift (Ax.build [(V.bool false),(V.int .u32 0),(V.int .i64 0),(V.int .i64 0),(V.int .i64 0),V.nils,(V.int .i64 0),V.nils,V.nils,(V.int .u32 0),V.nils,(V.bool false),(V.int .u32 0),(V.int .i64 0),(V.int .i64 0),(V.int .i64 0),V.nils,(V.int .i64 0),V.nils,V.nils,(V.int .u32 0),V.nils,(V.bool false),(V.int .u32 0),(V.int .i64 0),(V.int .i64 0),(V.int .i64 0),V.nils,(V.int .i64 0),V.nils,V.nils,(V.int .u32 0),V.nils] [])).bind fun t65 =>
 (M.lift (Ax.nilck t1)).bind fun t66 =>
 (M.lift (Ax.faddr 39 t66)).bind fun t67 =>
 (M.lift (Ax.iaddr (some 8) 33 t67 t44)).bind fun t68 =>
 (mstore 33 t68 t65).bind fun _ =>
 (M.lift (Ax.faddr 0 t5)).bind fun t70 =>
 (M.lift (Ax.faddr 8 t70)).bind fun t71 =>
 (M.lift (Ax.iaddr (some 8) 1 t71 t44)).bind fun t72 =>
 (mload none t72).bind fun t73 =>
 (M.lift (Ax.nilck t0)).bind fun t76 =>
 (M.lift (Ax.faddr 1470 t76)).bind fun t77 =>
 (M.lift (Ax.iaddr (some 64) 1 t77 t73)).bind fun t78 =>
 (mload none t78).bind fun t79 =>
 (G za6 [t79]).bind fun t80 =>
 (M.lift (Ax.build [(V.int .i64 0),(V.int .i64 0),(V.int .i64 0),(V.int .i64 0),(V.int .i64 0),(V.int .i64 0),V.nils] [(0,1,(V.int .i64 23))])).bind fun t83 =>
 (G zbg [t0,t73,t83]).bind fun t84 =>
 M.pure (.nrm [])) fun _ =>
 (M.lift (Ax.bin .add (L.getD 0 .undef) (V.int .i64 1))).bind fun t85 =>
 M.pure (.nrm [t85]))
 (M.pure (.ex 2 []))
def zsx (G:Sem') (t87 t86 t0 t1:V) (L:List V):M Res :=
 (M.lift (Ax.bin .lss (L.getD 0 .undef) t87)).bind fun t89 =>
 M.ite t89
 (M.blk 7 (
 (M.lift (Ax.iaddr none 1 t86 (L.getD 0 .undef))).bind fun t90 =>
 (mload none t90).bind fun t91 =>
 (M.lift (Ax.nilck t1)).bind fun t99 =>
 (M.lift (Ax.faddr 0 t99)).bind fun t100 =>
 (M.lift (Ax.faddr 0 t100)).bind fun t101 =>
 (mload (some 16) t101).bind fun t102 =>
 M.getH.bind fun h0 =>
 (G zc4 [t1]).bind fun t97 =>
 M.getH.bind fun h0' =>
 (M.unch t101 h0 h0').bind fun _ =>
 (G zcZ [t102]).bind fun t103 =>
 (M.lift (Ax.build [(V.int .i64 0),(V.int .i64 0),(V.int .i64 0),(V.int .i64 0),(V.int .i64 0),(V.int .i64 0),V.nils] [(0,1,(V.int .i64 20)),(2,1,t91),(3,1,t97),(4,1,t103)])).bind fun t104 =>
 (G zci [t0,t1,t91,t104]).bind fun t105 =>
 M.pure (.nrm [])) fun _ =>
 (M.lift (Ax.bin .add (L.getD 0 .undef) (V.int .i64 1))).bind fun t106 =>
 M.pure (.nrm [t106]))
 (M.pure (.ex 6 []))
def znP (G:Sem') (t0 t1 t2:V):M Res :=
 (mbox zbp t2).bind fun t5 =>
 (M.lift (Ax.faddr 0 t5)).bind fun t15 =>
 (M.lift (Ax.faddr 0 t15)).bind fun t16 =>
 (mload (some 8) t16).bind fun t17 =>
 M.blk 0 (
 M.iter (zsA G t17 t1) [V.nils,(V.int .i64 0)]) fun L2 =>
 (M.lift (vlen (L2.getD 0 .undef))).bind fun t40 =>
 M.blk 2 (
 M.iter (zsy G t40 (L2.getD 0 .undef) t1 t5 t0) [(V.int .i64 0)]) fun _ =>
 (M.lift (vlen (L2.getD 0 .undef))).bind fun t87 =>
 M.blk 6 (
 M.iter (zsx G t87 (L2.getD 0 .undef) t0 t1) [(V.int .i64 0)]) fun _ =>
 M.pure (.ret [])
noncomputable def zib:Fn':=(T zbV).getD noF
theorem ztj:T zbV = some zib:=by kernel_rfl
theorem zud (G:Sem') (t0 t1 t2:V):execK G zib.rv zib.body [] [] (params 0 [t0,t1,t2]) = znP G t0 t1 t2:=by kernel_rfl
def zjD (G:Sem'):List V → M V
 | [t0,t1,t2]=>fin (znP G t0 t1 t2)
 | _=>M.fail
theorem zvz {g:Sem'} (hg:Sims g (sem T)) (args:List V):Sim (zjD g args) (sem T zbV args):=by
 unfold zjD
 split
 ·exact zad ztj (Nat.le_of_ble_eq_true (by kernel_rfl)) hg (zud g _ _ _)
 ·exact zaa
end Go.Ax.Cc
/- CiK4 -/
namespace Go.Ax.Cc
open Go.Proofs
def zgr (G:Sem') (t0:V):M Res :=
 (mbox zev (V.agg [(V.int .i64 0),(V.int .i64 0),V.nils])).bind fun t2 =>
 (mbox zev (V.agg [(V.int .i64 0),(V.int .i64 0),V.nils])).bind fun t4 =>
 (M.lift (Ax.nilck t0)).bind fun t7 =>
 (M.lift (Ax.faddr 1 t7)).bind fun t8 =>
 (mload none t8).bind fun t9 =>
 (M.lift (vlen t9)).bind fun t10 =>
 (M.lift (Ax.bin .eql t10 (V.int .i64 0))).bind fun t11 =>
 M.ite t11
 ((mload (some 3) t4).bind fun t12 =>
 (mstore 3 t2 t12).bind fun _ =>
 (mload (some 3) t2).bind fun r0 =>
 M.pure (.ret [r0,(V.bool false)]))
 ((M.lift (Ax.nilck t0)).bind fun t14 =>
 (M.lift (Ax.faddr 1 t14)).bind fun t15 =>
 (mload none t15).bind fun t16 =>
 (M.lift (Ax.iaddr none 3 t16 (V.int .i64 0))).bind fun t17 =>
 (mload (some 3) t17).bind fun t18 =>
 (mbox zev (V.agg [(V.int .i64 0),(V.int .i64 0),V.nils])).bind fun t5 =>
 (mstore 3 t5 t18).bind fun _ =>
 (M.lift (Ax.nilck t0)).bind fun t21 =>
 (M.lift (Ax.faddr 1 t21)).bind fun t22 =>
 (mload none t22).bind fun t23 =>
 (M.lift (zcx .sl 3 t23 (some (V.int .i64 1)) none none)).bind fun t24 =>
 (M.lift (Ax.nilck t0)).bind fun t25 =>
 (M.lift (Ax.faddr 1 t25)).bind fun t26 =>
 (mstore 1 t26 t24).bind fun _ =>
 (mload (some 3) t5).bind fun t27 =>
 (mstore 3 t2 t27).bind fun _ =>
 (mload (some 3) t2).bind fun r0 =>
 M.pure (.ret [r0,(V.bool true)]))
noncomputable def zdx:Fn':=(T za9).getD noF
theorem zkV:T za9 = some zdx:=by kernel_rfl
theorem zk2 (G:Sem') (t0:V):execK G zdx.rv zdx.body [] [] (params 0 [t0]) = zgr G t0:=by kernel_rfl
def zdZ (G:Sem'):List V → M V
 | [t0]=>fin (zgr G t0)
 | _=>M.fail
theorem zll {g:Sem'} (hg:Sims g (sem T)) (args:List V):Sim (zdZ g args) (sem T za9 args):=by
 unfold zdZ
 split
 ·exact zad zkV (Nat.le_of_ble_eq_true (by kernel_rfl)) hg (zk2 g _)
 ·exact zaa
def zg8 (G:Sem') (t0:V):M Res :=
 (M.lift (Ax.nilck t0)).bind fun t4 =>
 (M.lift (Ax.faddr 0 t4)).bind fun t5 =>
 (matoload .i64 t5).bind fun t6 =>
 M.pure (.ret [t6])
noncomputable def zdT:Fn':=(T zbi).getD noF
theorem zlh:T zbi = some zdT:=by kernel_rfl
theorem zlJ (G:Sem') (t0:V):execK G zdT.rv zdT.body [] [] (params 0 [t0]) = zg8 G t0:=by kernel_rfl
def zek (G:Sem'):List V → M V
 | [t0]=>fin (zg8 G t0)
 | _=>M.fail
theorem zl2 {g:Sem'} (hg:Sims g (sem T)) (args:List V):Sim (zek g args) (sem T zbi args):=by
 unfold zek
 split
 ·exact zad zlh (Nat.le_of_ble_eq_true (by kernel_rfl)) hg (zlJ g _)
 ·exact zaa
def zhC (G:Sem') (t0:V):M Res :=
 M.blk 0 (
 (M.lift (Ax.bin .eql t0 (V.int .i64 1))).bind fun t5 =>
 M.ite t5
 (M.pure (.ret [(V.str ⟨#[114]⟩)]))
 ((M.lift (Ax.bin .eql t0 (V.int .i64 2))).bind fun t7 =>
 M.join (M.ite t7
 (M.pure (.nrm [t7]))
 ((M.lift (Ax.bin .eql t0 (V.int .i64 9))).bind fun t8 =>
 M.join (M.ite t8
 (M.pure (.nrm [t8]))
 ((M.lift (Ax.bin .eql t0 (V.int .i64 23))).bind fun t9 =>
 M.pure (.nrm [t9]))) fun L0 =>
 M.pure (.nrm [(L0.getD 0 .undef)]))) fun L1 =>
 M.ite (L1.getD 0 .undef)
 (M.pure (.ret [(V.str ⟨#[45]⟩)]))
 ((M.lift (Ax.bin .eql t0 (V.int .i64 3))).bind fun t11 =>
 M.join (M.ite t11
 (M.pure (.nrm [t11]))
 ((M.lift (Ax.bin .eql t0 (V.int .i64 6))).bind fun t12 =>
 M.pure (.nrm [t12]))) fun L2 =>
 M.ite (L2.getD 0 .undef)
 (M.pure (.ret [(V.str ⟨#[115]⟩)]))
 ((M.lift (Ax.bin .eql t0 (V.int .i64 4))).bind fun t14 =>
 M.ite t14
 (M.pure (.ret [(V.str ⟨#[110,109,98]⟩)]))
 ((M.lift (Ax.bin .eql t0 (V.int .i64 5))).bind fun t16 =>
 M.ite t16
 (M.pure (.ret [(V.str ⟨#[115,110,109]⟩)]))
 ((M.lift (Ax.bin .eql t0 (V.int .i64 7))).bind fun t18 =>
 M.join (M.ite t18
 (M.pure (.nrm [t18]))
 ((M.lift (Ax.bin .eql t0 (V.int .i64 21))).bind fun t19 =>
 M.pure (.nrm [t19]))) fun L3 =>
 M.ite (L3.getD 0 .undef)
 (M.pure (.ret [(V.str ⟨#[115,101,110,98]⟩)]))
 ((M.lift (Ax.bin .eql t0 (V.int .i64 8))).bind fun t21 =>
 M.join (M.ite t21
 (M.pure (.nrm [t21]))
 ((M.lift (Ax.bin .eql t0 (V.int .i64 22))).bind fun t22 =>
 M.pure (.nrm [t22]))) fun L4 =>
 M.ite (L4.getD 0 .undef)
 (M.pure (.ret [(V.str ⟨#[101]⟩)]))
 ((M.lift (Ax.bin .eql t0 (V.int .i64 17))).bind fun t24 =>
 M.ite t24
 (M.pure (.ret [(V.str ⟨#[114,115,101,110,109,98]⟩)]))
 ((M.lift (Ax.bin .eql t0 (V.int .i64 18))).bind fun t26 =>
 M.ite t26
 (M.pure (.ret [(V.str ⟨#[110,109]⟩)]))
 ((M.lift (Ax.bin .eql t0 (V.int .i64 19))).bind fun t28 =>
 M.ite t28
 (M.pure (.ret [(V.str ⟨#[115,101,110,109]⟩)]))
 ((M.lift (Ax.bin .eql t0 (V.int .i64 20))).bind fun t30 =>
 M.ite t30
 (M.pure (.ret [(V.str ⟨#[115,101,110]⟩)]))
 ((M.lift (Ax.bin .eql t0 (V.int .i64 24))).bind fun t32 =>
 M.ite t32
 (M.pure (.ret [(V.str ⟨#[115,98]⟩)]))
 (M.pure (.nrm [])))))))))))))) fun _ =>
 M.pure (.ret [(V.str ⟨#[]⟩)])
noncomputable def zd9:Fn':=(T zbv).getD noF
theorem zl0:T zbv = some zd9:=by kernel_rfl
theorem zmt (G:Sem') (t0:V):execK G zd9.rv zd9.body [] [] (params 0 [t0]) = zhC G t0:=by kernel_rfl
def zeL (G:Sem'):List V → M V
 | [t0]=>fin (zhC G t0)
 | _=>M.fail
theorem zmJ {g:Sem'} (hg:Sims g (sem T)) (args:List V):Sim (zeL g args) (sem T zbv args):=by
 unfold zeL
 split
 ·exact zad zl0 (Nat.le_of_ble_eq_true (by kernel_rfl)) hg (zmt g _)
 ·exact zaa
def zks (G:Sem') (t0 t1 t2:V):M Res :=
 (M.lift (Ax.bin .geq t0 t1)).bind fun t9 =>
 (guarded [(0,t9)] (some (0,true)) (M.pure t0)).bind fun t11 =>
 (guarded [(0,t9)] (some (0,true)) (M.pure t2)).bind fun t12 =>
 (guarded [(0,t9)] (some (0,true)) (M.lift (Ax.bin .leq t11 t12))).bind fun t13 =>
 (M.lift (Ax.pick t9 t13 (V.bool false))).bind fun t14 =>
 M.pure (.ret [t14])
noncomputable def zgb:Fn':=(T zaJ).getD noF
theorem zpX:T zaJ = some zgb:=by kernel_rfl
theorem zqe (G:Sem') (t0 t1 t2:V):execK G zgb.rv zgb.body [] [] (params 0 [t0,t1,t2]) = zks G t0 t1 t2:=by kernel_rfl
def zgM (G:Sem'):List V → M V
 | [t0,t1,t2]=>fin (zks G t0 t1 t2)
 | _=>M.fail
theorem zqL {g:Sem'} (hg:Sims g (sem T)) (args:List V):Sim (zgM g args) (sem T zaJ args):=by
 unfold zgM
 split
 ·exact zad zpX (Nat.le_of_ble_eq_true (by kernel_rfl)) hg (zqe g _ _ _)
 ·exact zaa
def zoe (G:Sem') (t0 t1:V) (L:List V):M Res :=
 (M.lift (Ax.slen t0)).bind fun t8 =>
 (M.lift (Ax.bin .lss (L.getD 0 .undef) t8)).bind fun t9 =>
 M.ite t9
 (M.blk 1 (
 (M.lift (Ax.sindex t0 (L.getD 0 .undef))).bind fun t14 =>
 (M.lift (Ax.bin .eql t14 t1)).bind fun t16 =>
 M.ite t16
 (M.pure (.ret [(V.bool true)]))
 (M.pure (.nrm []))) fun _ =>
 (M.lift (Ax.bin .add (L.getD 0 .undef) (V.int .i64 1))).bind fun t11 =>
 M.pure (.nrm [t11]))
 (M.pure (.ex 0 []))
def zjU (G:Sem') (t0 t1:V):M Res :=
 M.blk 0 (
 M.iter (zoe G t0 t1) [(V.int .i64 0)]) fun _ =>
 M.pure (.ret [(V.bool false)])
noncomputable def zfs:Fn':=(T zaC).getD noF
theorem zon:T zaC = some zfs:=by kernel_rfl
theorem zpl (G:Sem') (t0 t1:V):execK G zfs.rv zfs.body [] [] (params 0 [t0,t1]) = zjU G t0 t1:=by kernel_rfl
def zgi (G:Sem'):List V → M V
 | [t0,t1]=>fin (zjU G t0 t1)
 | _=>M.fail
theorem zp4 {g:Sem'} (hg:Sims g (sem T)) (args:List V):Sim (zgi g args) (sem T zaC args):=by
 unfold zgi
 split
 ·exact zad zon (Nat.le_of_ble_eq_true (by kernel_rfl)) hg (zpl g _ _)
 ·exact zaa
def zmb (G:Sem') (t1:V) (L:List V):M Res :=
 (M.lift (Ax.bin .lss (L.getD 0 .undef) (V.int .i64 8))).bind fun t10 =>
 M.ite t10
 (M.blk 1 (
 (M.lift (Ax.faddr 4 t1)).bind fun t13 =>
 (mload none t13).bind fun t14 =>
 (M.lift (Ax.cint .u64 (L.getD 0 .undef))).bind fun t16 =>
 (M.lift (Ax.bin .shr t14 t16)).bind fun t17 =>
 (M.lift (Ax.bin .and t17 (V.int .i64 1))).bind fun t18 =>
 (M.lift (Ax.bin .eql t18 (V.int .i64 1))).bind fun t19 =>
 (guarded [(0,t19)] (some (0,true)) (M.lift (Ax.faddr 6 t1))).bind fun t22 =>
 (guarded [(0,t19)] (some (0,true)) (mload none t22)).bind fun t23 =>
 (guarded [(0,t19)] (some (0,true)) (M.pure (L.getD 0 .undef))).bind fun t24 =>
 (guarded [(0,t19)] (some (0,true)) (M.lift (Ax.iaddr none 1 t23 t24))).bind fun t25 =>
 (guarded [(0,t19)] (some (0,true)) (mload none t25)).bind fun t26 =>
 (guarded [(0,t19)] (some (0,true)) (M.lift (Ax.bin .gtr t26 (V.int .u8 63)))).bind fun t27 =>
 (M.lift (Ax.pick t19 t27 (V.bool false))).bind fun t28 =>
 (guarded [(0,t28)] (some (0,false)) (M.pure t19)).bind fun t30 =>
 (guarded [(0,t28)] (some (0,false)) (M.lift (Ax.un .not t30))).bind fun t31 =>
 (guarded [(0,t28)] (some (0,false)) (M.pure t31)).bind fun t32 =>
 (guarded [(0,t32)] (some (0,true)) (M.lift (Ax.faddr 6 t1))).bind fun t33 =>
 (guarded [(0,t32)] (some (0,true)) (mload none t33)).bind fun t34 =>
 (guarded [(0,t32)] (some (0,true)) (M.pure (L.getD 0 .undef))).bind fun t35 =>
 (guarded [(0,t32)] (some (0,true)) (M.lift (Ax.iaddr none 1 t34 t35))).bind fun t36 =>
 (guarded [(0,t32)] (some (0,true)) (mload none t36)).bind fun t37 =>
 (guarded [(0,t32)] (some (0,true)) (M.lift (Ax.bin .neq t37 (V.int .u8 255)))).bind fun t38 =>
 (guarded [(0,t28)] (some (0,false)) (M.lift (Ax.pick t32 t38 (V.bool false)))).bind fun t39 =>
 (M.lift (Ax.pick t28 (V.bool true) t39)).bind fun t40 =>
 M.ite t40
 (M.pure (.ret [(V.bool false)]))
 (M.pure (.nrm []))) fun _ =>
 (M.lift (Ax.bin .add (L.getD 0 .undef) (V.int .i64 1))).bind fun t12 =>
 M.pure (.nrm [t12]))
 (M.pure (.ex 0 []))
def zhU (G:Sem') (t0:V):M Res :=
 (mbox zaG t0).bind fun t1 =>
 (M.lift (Ax.faddr 6 t1)).bind fun t5 =>
 (mload none t5).bind fun t6 =>
 (M.lift (vlen t6)).bind fun t7 =>
 (M.lift (Ax.bin .neq t7 (V.int .i64 8))).bind fun t8 =>
 M.ite t8
 (M.pure (.ret [(V.bool false)]))
 (M.blk 0 (
 M.iter (zmb G t1) [(V.int .i64 0)]) fun _ =>
 M.pure (.ret [(V.bool true)]))
noncomputable def zeA:Fn':=(T zbE).getD noF
theorem zmB:T zbE = some zeA:=by kernel_rfl
theorem znf (G:Sem') (t0:V):execK G zeA.rv zeA.body [] [] (params 0 [t0]) = zhU G t0:=by kernel_rfl
def zfd (G:Sem'):List V → M V
 | [t0]=>fin (zhU G t0)
 | _=>M.fail
theorem zn8 {g:Sem'} (hg:Sims g (sem T)) (args:List V):Sim (zfd g args) (sem T zbE args):=by
 unfold zfd
 split
 ·exact zad zmB (Nat.le_of_ble_eq_true (by kernel_rfl)) hg (znf g _)
 ·exact zaa
def zyr (G:Sem') (t9 t2 t1:V) (L:List V):M Res :=
 (M.lift (Ax.bin .lss (L.getD 0 .undef) (V.int .i64 8))).bind fun t11 =>
 M.ite t11
 (M.blk 1 (
 (M.lift (Ax.index 8 1 none t9 (L.getD 0 .undef))).bind fun t13 =>
 (M.lift (Ax.faddr 0 t2)).bind fun t15 =>
 (M.lift (Ax.iaddr (some 8) 1 t15 (L.getD 0 .undef))).bind fun t16 =>
 (mload none t16).bind fun t17 =>
 (guarded [(0,t17)] (some (0,true)) (M.pure t1)).bind fun t19 =>
 (guarded [(0,t17)] (some (0,true)) (M.pure t13)).bind fun t20 =>
 (guarded [(0,t17)] (some (0,true)) (M.lift (Ax.bin .eql t19 t20))).bind fun t21 =>
 (M.lift (Ax.pick t17 t21 (V.bool false))).bind fun t22 =>
 M.ite t22
 (M.pure (.ret [(L.getD 0 .undef),(V.bool true)]))
 (M.pure (.nrm []))) fun _ =>
 (M.lift (Ax.bin .add (L.getD 0 .undef) (V.int .i64 1))).bind fun t24 =>
 M.pure (.nrm [t24]))
 (M.pure (.ex 0 []))
def zuO (G:Sem') (t0 t1:V):M Res :=
 (mbox zbO t0).bind fun t2 =>
 (M.lift (Ax.faddr 8 t2)).bind fun t8 =>
 (mload (some 8) t8).bind fun t9 =>
 M.blk 0 (
 M.iter (zyr G t9 t2 t1) [(V.int .i64 0)]) fun _ =>
 M.pure (.ret [(V.int .i64 0),(V.bool false)])
noncomputable def zmO:Fn':=(T zdQ).getD noF
theorem zzq:T zdQ = some zmO:=by kernel_rfl
theorem zAq (G:Sem') (t0 t1:V):execK G zmO.rv zmO.body [] [] (params 0 [t0,t1]) = zuO G t0 t1:=by kernel_rfl
def zpu (G:Sem'):List V → M V
 | [t0,t1]=>fin (zuO G t0 t1)
 | _=>M.fail
theorem zBp {g:Sem'} (hg:Sims g (sem T)) (args:List V):Sim (zpu g args) (sem T zdQ args):=by
 unfold zpu
 split
 ·exact zad zzq (Nat.le_of_ble_eq_true (by kernel_rfl)) hg (zAq g _ _)
 ·exact zaa
def zuP (G:Sem') (t0:V):M Res :=
 (M.lift (Ax.bin .geq t0 (V.int .i64 0))).bind fun t4 =>
 (guarded [(0,t4)] (some (0,true)) (M.pure t0)).bind fun t6 =>
 (guarded [(0,t4)] (some (0,true)) (M.lift (Ax.bin .leq t6 (V.int .i64 63)))).bind fun t7 =>
 (M.lift (Ax.pick t4 t7 (V.bool false))).bind fun t8 =>
 M.pure (.ret [t8])
noncomputable def zmP:Fn':=(T zeF).getD noF
theorem zzr:T zeF = some zmP:=by kernel_rfl
theorem zAr (G:Sem') (t0:V):execK G zmP.rv zmP.body [] [] (params 0 [t0]) = zuP G t0:=by kernel_rfl
def zpv (G:Sem'):List V → M V
 | [t0]=>fin (zuP G t0)
 | _=>M.fail
theorem zBq {g:Sem'} (hg:Sims g (sem T)) (args:List V):Sim (zpv g args) (sem T zeF args):=by
 unfold zpv
 split
 ·exact zad zzr (Nat.le_of_ble_eq_true (by kernel_rfl)) hg (zAr g _)
 ·exact zaa
def zhB (G:Sem') (t0 t1:V):M Res :=
 (M.lift (Ax.nilck t0)).bind fun t6 =>
 (M.lift (Ax.faddr 0 t6)).bind fun t7 =>
 (matoadd .i64 t7 t1).bind fun t9 =>
 M.pure (.ret [t9])
noncomputable def zd8:Fn':=(T zbu).getD noF
theorem zlZ:T zbu = some zd8:=by kernel_rfl
theorem zms (G:Sem') (t0 t1:V):execK G zd8.rv zd8.body [] [] (params 0 [t0,t1]) = zhB G t0 t1:=by kernel_rfl
def zeK (G:Sem'):List V → M V
 | [t0,t1]=>fin (zhB G t0 t1)
 | _=>M.fail
theorem zmI {g:Sem'} (hg:Sims g (sem T)) (args:List V):Sim (zeK g args) (sem T zbu args):=by
 unfold zeK
 split
 ·exact zad zlZ (Nat.le_of_ble_eq_true (by kernel_rfl)) hg (zms g _ _)
 ·exact zaa
def zuU (G:Sem') (t0 t1:V):M Res :=
 (mbox zbO t0).bind fun t2 =>
 (mload (some 16) t2).bind fun t6 =>
 (G zb4 [t6]).bind fun t7 =>
 (M.lift (Ax.un .not t7)).bind fun t8 =>
 M.ite t8
 (M.pure (.ret [(V.int .i64 0),(V.bool false)]))
 ((mload (some 16) t2).bind fun t9 =>
 (G zdQ [t9,t1]).bind fun t11 =>
 (M.lift (Ax.ext 0 t11)).bind fun t12 =>
 (M.lift (Ax.ext 1 t11)).bind fun t13 =>
 M.pure (.ret [t12,t13]))
noncomputable def zmU:Fn':=(T zeH).getD noF
theorem zzw:T zeH = some zmU:=by kernel_rfl
theorem zAw (G:Sem') (t0 t1:V):execK G zmU.rv zmU.body [] [] (params 0 [t0,t1]) = zuU G t0 t1:=by kernel_rfl
def zpA (G:Sem'):List V → M V
 | [t0,t1]=>fin (zuU G t0 t1)
 | _=>M.fail
theorem zBv {g:Sem'} (hg:Sims g (sem T)) (args:List V):Sim (zpA g args) (sem T zeH args):=by
 unfold zpA
 split
 ·exact zad zzw (Nat.le_of_ble_eq_true (by kernel_rfl)) hg (zAw g _ _)
 ·exact zaa
def zu1 (G:Sem') (t0 t1 t2:V):M Res :=
 (mbox zbp t0).bind fun t3 =>
 (mbox zbp (V.agg [(V.bool false),(V.bool false),(V.bool false),(V.bool false),(V.bool false),(V.bool false),(V.bool false),(V.bool false),(V.int .i64 0),(V.int .i64 0),(V.int .i64 0),(V.int .i64 0),(V.int .i64 0),(V.int .i64 0),(V.int .i64 0),(V.int .i64 0),(V.int .i64 0),(V.bool false),(V.int .i64 0),(V.int .i64 0),(V.int .i64 0),(V.int .i64 0),(V.int .i64 0),(V.int .i64 0),(V.int .i64 0),(V.int .i64 0),(V.int .i64 0),(V.int .i64 0),(V.int .i64 0),(V.int .i64 0),(V.int .i64 0),(V.int .i64 0),(V.int .i64 0),(V.int .i64 0),(V.int .i64 0),(V.int .i64 0),(V.int .i64 0),(V.int .i64 0),(V.bool false)])).bind fun t6 =>
 (mload (some 39) t3).bind fun t11 =>
 (G zdR [t11,t1]).bind fun t13 =>
 (M.lift (Ax.ext 0 t13)).bind fun t14 =>
 (M.lift (Ax.ext 1 t13)).bind fun t15 =>
 (M.lift (Ax.bin .neq t15 (V.int .i64 0))).bind fun t17 =>
 M.ite t17
 ((mload (some 39) t3).bind fun t18 =>
 (mstore 39 t6 t18).bind fun _ =>
 (mload (some 39) t6).bind fun r0 =>
 M.pure (.ret [r0,t15]))
 ((M.lift (Ax.faddr 22 t3)).bind fun t22 =>
 (M.lift (Ax.iaddr (some 8) 1 t22 t14)).bind fun t23 =>
 (mstore 1 t23 t2).bind fun _ =>
 (mload (some 39) t3).bind fun t24 =>
 (mstore 39 t6 t24).bind fun _ =>
 (mload (some 39) t6).bind fun r0 =>
 M.pure (.ret [r0,(V.int .i64 0)]))
noncomputable def zm1:Fn':=(T zfU).getD noF
theorem zzD:T zfU = some zm1:=by kernel_rfl
theorem zAD (G:Sem') (t0 t1 t2:V):execK G zm1.rv zm1.body [] [] (params 0 [t0,t1,t2]) = zu1 G t0 t1 t2:=by kernel_rfl
def zpH (G:Sem'):List V → M V
 | [t0,t1,t2]=>fin (zu1 G t0 t1 t2)
 | _=>M.fail
theorem zBC {g:Sem'} (hg:Sims g (sem T)) (args:List V):Sim (zpH g args) (sem T zfU args):=by
 unfold zpH
 split
 ·exact zad zzD (Nat.le_of_ble_eq_true (by kernel_rfl)) hg (zAD g _ _ _)
 ·exact zaa
def zyv (G:Sem') (L:List V):M Res :=
 (M.lift (vlen (L.getD 0 .undef))).bind fun t17 =>
 (M.lift (Ax.bin .gtr t17 (V.int .i64 0))).bind fun t18 =>
 M.ite t18
 (M.blk 2 (
 (M.lift (vlen (L.getD 0 .undef))).bind fun t20 =>
 (M.lift (Ax.bin .lss t20 (V.int .i64 4))).bind fun t21 =>
 M.ite t21
 (M.pure (.ret [V.nils,(V.int .i64 3)]))
 ((M.lift (Ax.iaddr none 1 (L.getD 0 .undef) (V.int .i64 0))).bind fun t23 =>
 (mload none t23).bind fun t24 =>
 (M.lift (Ax.bin .andNot t24 (V.int .u8 31))).bind fun t25 =>
 (M.lift (Ax.bin .neq t25 (V.int .u8 128))).bind fun t26 =>
 (guarded [(0,t26)] (some (0,false)) (M.pure (L.getD 0 .undef))).bind fun t28 =>
 (guarded [(0,t26)] (some (0,false)) (G ziu [t28])).bind fun t29 =>
 (guarded [(0,t26)] (some (0,false)) (M.lift (Ax.un .not t29))).bind fun t30 =>
 (M.lift (Ax.pick t26 (V.bool true) t30)).bind fun t31 =>
 M.ite t31
 (M.pure (.ret [V.nils,(V.int .i64 2)]))
 ((M.lift (Ax.iaddr none 1 (L.getD 0 .undef) (V.int .i64 2))).bind fun t33 =>
 (mload none t33).bind fun t34 =>
 (M.lift (Ax.cint .i64 t34)).bind fun t35 =>
 (M.lift (Ax.bin .shl t35 (V.int .u64 8))).bind fun t36 =>
 (M.lift (Ax.iaddr none 1 (L.getD 0 .undef) (V.int .i64 3))).bind fun t38 =>
 (mload none t38).bind fun t39 =>
 (M.lift (Ax.cint .i64 t39)).bind fun t40 =>
 (M.lift (Ax.bin .or t36 t40)).bind fun t41 =>
 (M.lift (Ax.bin .mul (V.int .i64 4) t41)).bind fun t42 =>
 (M.lift (Ax.bin .add (V.int .i64 4) t42)).bind fun t43 =>
 (M.lift (vlen (L.getD 0 .undef))).bind fun t45 =>
 (M.lift (Ax.bin .lss t45 t43)).bind fun t47 =>
 M.ite t47
 (M.pure (.ret [V.nils,(V.int .i64 3)]))
 ((M.lift (Ax.iaddr none 1 (L.getD 0 .undef) (V.int .i64 1))).bind fun t50 =>
 (mload none t50).bind fun t51 =>
 (M.lift (Ax.cint .i64 t51)).bind fun t52 =>
 (M.lift (Ax.iaddr none 1 (L.getD 0 .undef) (V.int .i64 0))).bind fun t54 =>
 (mload none t54).bind fun t55 =>
 (M.lift (Ax.bin .and t55 (V.int .u8 31))).bind fun t56 =>
 (M.lift (Ax.cint .i64 t56)).bind fun t57 =>
 (M.lift (zcx .sl 1 (L.getD 0 .undef) (some (V.int .i64 4)) (some t43) none)).bind fun t60 =>
 (G zeX [t52,t57,t60]).bind fun t61 =>
 (M.lift (Ax.ext 0 t61)).bind fun t62 =>
 (mbox zaF (V.agg [(V.int .i64 0),(V.int .u32 0),(V.int .u32 0),(V.int .u64 0),(V.int .u32 0),(V.int .u32 0),(V.int .u32 0),V.nils,V.nils,V.nils,(V.int .i64 0),(V.int .u32 0),V.nils,(V.int .i64 0),(V.int .i64 0),V.nils])).bind fun t6 =>
 (mstore 16 t6 t62).bind fun _ =>
 (M.lift (Ax.ext 1 t61)).bind fun t63 =>
 (M.lift (Ax.un .not t63)).bind fun t65 =>
 M.ite t65
 (M.pure (.ret [V.nils,(V.int .i64 2)]))
 ((mload (some 16) t6).bind fun t67 =>
 (mslit zaF 1 [(V.int .i64 0),(V.int .u32 0),(V.int .u32 0),(V.int .u64 0),(V.int .u32 0),(V.int .u32 0),(V.int .u32 0),V.nils,V.nils,V.nils,(V.int .i64 0),(V.int .u32 0),V.nils,(V.int .i64 0),(V.int .i64 0),V.nils] [(0,16,t67)]).bind fun t68 =>
 (mappend zaF 16 192 (L.getD 1 .undef) t68).bind fun t69 =>
 (M.lift (zcx .sl 1 (L.getD 0 .undef) (some t43) none none)).bind fun t72 =>
 M.pure (.nrm [t72,t69])))))) fun L1 =>
 M.pure (.nrm [(L1.getD 0 .undef),(L1.getD 1 .undef)]))
 (M.pure (.ex 1 [(L.getD 1 .undef)]))
def zuY (G:Sem') (t0:V):M Res :=
 M.blk 0 (
 (M.lift (vlen t0)).bind fun t10 =>
 (M.lift (Ax.bin .gtr t10 (V.int .i64 1200))).bind fun t11 =>
 M.ite t11
 (M.pure (.ret [V.nils,(V.int .i64 4)]))
 ((M.lift (vlen t0)).bind fun t14 =>
 (M.lift (Ax.bin .eql t14 (V.int .i64 0))).bind fun t15 =>
 M.ite t15
 (M.pure (.ret [V.nils,(V.int .i64 3)]))
 (M.pure (.nrm [])))) fun _ =>
 M.blk 1 (
 M.iter (zyv G) [t0,V.nils]) fun L2 =>
 M.pure (.ret [(L2.getD 0 .undef),(V.int .i64 0)])
noncomputable def zmY:Fn':=(T zfR).getD noF
theorem zzA:T zfR = some zmY:=by kernel_rfl
theorem zAA (G:Sem') (t0:V):execK G zmY.rv zmY.body [] [] (params 0 [t0]) = zuY G t0:=by kernel_rfl
def zpE (G:Sem'):List V → M V
 | [t0]=>fin (zuY G t0)
 | _=>M.fail
theorem zBz {g:Sem'} (hg:Sims g (sem T)) (args:List V):Sim (zpE g args) (sem T zfR args):=by
 unfold zpE
 split
 ·exact zad zzA (Nat.le_of_ble_eq_true (by kernel_rfl)) hg (zAA g _)
 ·exact zaa
def zra (G:Sem') (t38 t37 t0 t1 t2:V) (L:List V):M Res :=
 (M.lift (Ax.bin .lss (L.getD 0 .undef) t38)).bind fun t40 =>
 M.ite t40
 (M.blk 1 (
 (M.lift (Ax.iaddr none 1 t37 (L.getD 0 .undef))).bind fun t41 =>
 (mload none t41).bind fun t42 =>
 (M.lift (Ax.nilck t1)).bind fun t46 =>
 (M.lift (Ax.faddr 0 t46)).bind fun t47 =>
 (M.lift (Ax.faddr 0 t47)).bind fun t48 =>
 (M.lift (Ax.faddr 8 t48)).bind fun t49 =>
 (M.lift (Ax.iaddr (some 8) 1 t49 t2)).bind fun t50 =>
 (mload none t50).bind fun t51 =>
 (G zbJ [t0,t51,(V.int .i64 1),t42]).bind fun t53 =>
 M.pure (.nrm [])) fun _ =>
 (M.lift (Ax.bin .add (L.getD 0 .undef) (V.int .i64 1))).bind fun t54 =>
 M.pure (.nrm [t54]))
 (M.pure (.ex 0 []))
def zmn (G:Sem') (t0 t1 t2 t3:V):M Res :=
 (mbox zaF t3).bind fun t7 =>
 (M.lift (Ax.faddr 2 t7)).bind fun t15 =>
 (mload none t15).bind fun t16 =>
 (G zbI [t1,t2,t16]).bind fun t17 =>
 (M.lift (Ax.ext 0 t17)).bind fun t18 =>
 (M.lift (Ax.ext 1 t17)).bind fun t19 =>
 (M.lift (Ax.un .not t19)).bind fun t21 =>
 M.ite t21
 ((M.lift (Ax.nilck t0)).bind fun t23 =>
 (M.lift (Ax.faddr 1534 t23)).bind fun t24 =>
 (mload none t24).bind fun t25 =>
 (G zaE [t25,(V.int .i64 4)]).bind fun t26 =>
 M.pure (.ret []))
 ((M.lift (Ax.nilck t1)).bind fun t30 =>
 (M.lift (Ax.faddr 303 t30)).bind fun t31 =>
 (M.lift (Ax.iaddr (some 8) 8 t31 t2)).bind fun t32 =>
 (M.lift (Ax.iaddr (some 8) 1 t32 t18)).bind fun t33 =>
 (mload none t33).bind fun t34 =>
 (M.lift (Ax.faddr 8 t7)).bind fun t35 =>
 (mload none t35).bind fun t36 =>
 (G zda [t34,t36]).bind fun t37 =>
 (M.lift (vlen t37)).bind fun t38 =>
 M.blk 0 (
 M.iter (zra G t38 t37 t0 t1 t2) [(V.int .i64 0)]) fun _ =>
 M.pure (.ret []))
noncomputable def zhw:Fn':=(T zcM).getD noF
theorem zr0:T zcM = some zhw:=by kernel_rfl
theorem zs1 (G:Sem') (t0 t1 t2 t3:V):execK G zhw.rv zhw.body [] [] (params 0 [t0,t1,t2,t3]) = zmn G t0 t1 t2 t3:=by kernel_rfl
def ziP (G:Sem'):List V → M V
 | [t0,t1,t2,t3]=>fin (zmn G t0 t1 t2 t3)
 | _=>M.fail
theorem ztM {g:Sem'} (hg:Sims g (sem T)) (args:List V):Sim (ziP g args) (sem T zcM args):=by
 unfold ziP
 split
 ·exact zad zr0 (Nat.le_of_ble_eq_true (by kernel_rfl)) hg (zs1 g _ _ _ _)
 ·exact zaa
def znW (G:Sem') (t0 t1 t2 t3:V):M Res :=
 (G zbI [t1,t2,t3]).bind fun t14 =>
 (M.lift (Ax.ext 0 t14)).bind fun t15 =>
 (M.lift (Ax.ext 1 t14)).bind fun t16 =>
 (M.lift (Ax.un .not t16)).bind fun t18 =>
 M.ite t18
 ((M.lift (Ax.nilck t0)).bind fun t20 =>
 (M.lift (Ax.faddr 1534 t20)).bind fun t21 =>
 (mload none t21).bind fun t22 =>
 (G zaE [t22,(V.int .i64 4)]).bind fun t23 =>
 M.pure (.ret []))
 ((G zca [t0,t1,t2,t15]).bind fun t28 =>
 M.pure (.ret []))
noncomputable def zii:Fn':=(T zcr).getD noF
theorem ztq:T zcr = some zii:=by kernel_rfl
theorem zuk (G:Sem') (t0 t1 t2 t3:V):execK G zii.rv zii.body [] [] (params 0 [t0,t1,t2,t3]) = znW G t0 t1 t2 t3:=by kernel_rfl
def zjK (G:Sem'):List V → M V
 | [t0,t1,t2,t3]=>fin (znW G t0 t1 t2 t3)
 | _=>M.fail
theorem zvG {g:Sem'} (hg:Sims g (sem T)) (args:List V):Sim (zjK g args) (sem T zcr args):=by
 unfold zjK
 split
 ·exact zad ztq (Nat.le_of_ble_eq_true (by kernel_rfl)) hg (zuk g _ _ _ _)
 ·exact zaa
def zsC (G:Sem') (t34:V) (L:List V):M Res :=
 (M.lift (Ax.bin .lss (L.getD 1 .undef) (V.int .i64 3))).bind fun t36 =>
 M.ite t36
 (M.blk 1 (
 (M.lift (Ax.index 3 11 (some 11) t34 (L.getD 1 .undef))).bind fun t37 =>
 (mbox ziV (V.agg [(V.bool false),(V.int .u32 0),(V.int .i64 0),(V.int .i64 0),(V.int .i64 0),V.nils,(V.int .i64 0),V.nils,V.nils,(V.int .u32 0),V.nils])).bind fun t14 =>
 (mstore 11 t14 t37).bind fun _ =>
 (M.lift (Ax.faddr 0 t14)).bind fun t38 =>
 (mload none t38).bind fun t39 =>
 (M.lift (Ax.un .not t39)).bind fun t40 =>
 M.join (M.ite t40
 ((M.lift (Ax.faddr 2 t14)).bind fun t41 =>
 (mstore 1 t41 (V.int .i64 (-1))).bind fun _ =>
 M.pure (.nrm []))
 (M.pure (.nrm []))) fun _ =>
 (M.lift (Ax.faddr 2 t14)).bind fun t43 =>
 (mload none t43).bind fun t44 =>
 (mslit zgp 1 [(V.int .i64 0)] [(0,1,t44)]).bind fun t45 =>
 (mappend zgp 1 8 (L.getD 0 .undef) t45).bind fun t46 =>
 M.pure (.nrm [t46])) fun L1 =>
 (M.lift (Ax.bin .add (L.getD 1 .undef) (V.int .i64 1))).bind fun t47 =>
 M.pure (.nrm [(L1.getD 0 .undef),t47]))
 (M.pure (.ex 0 [(L.getD 0 .undef)]))
def znU (G:Sem') (t0 t1 t2 t3 t4:V):M Res :=
 (G zbI [t1,t2,t3]).bind fun t19 =>
 (M.lift (Ax.ext 0 t19)).bind fun t20 =>
 (M.lift (Ax.ext 1 t19)).bind fun t21 =>
 (M.lift (Ax.un .not t21)).bind fun t23 =>
 M.ite t23
 ((M.lift (Ax.nilck t0)).bind fun t25 =>
 (M.lift (Ax.faddr 1534 t25)).bind fun t26 =>
 (mload none t26).bind fun t27 =>
 (G zaE [t27,(V.int .i64 4)]).bind fun t28 =>
 M.pure (.ret []))
 ((M.lift (Ax.nilck t1)).bind fun t31 =>
 (M.lift (Ax.faddr 39 t31)).bind fun t32 =>
 (M.lift (Ax.iaddr (some 8) 33 t32 t20)).bind fun t33 =>
 (mload (some 33) t33).bind fun t34 =>
 M.blk 0 (
 M.iter (zsC G t34) [V.nils,(V.int .i64 0)]) fun L2 =>
 (M.lift (Ax.nilck t1)).bind fun t51 =>
 (M.lift (Ax.faddr 303 t51)).bind fun t52 =>
 (M.lift (Ax.iaddr (some 8) 8 t52 t2)).bind fun t53 =>
 (M.lift (Ax.iaddr (some 8) 1 t53 t20)).bind fun t54 =>
 (mload none t54).bind fun t55 =>
 M.getH.bind fun h0 =>
 (G ze0 [t4,(L2.getD 0 .undef)]).bind fun t58 =>
 M.getH.bind fun h0' =>
 (M.unch t54 h0 h0').bind fun _ =>
 (G zdH [t55,t58]).bind fun t59 =>
 (G zb8 [t0,t1,t2,t20]).bind fun t64 =>
 M.pure (.ret []))
noncomputable def zig:Fn':=(T zdf).getD noF
theorem zto:T zdf = some zig:=by kernel_rfl
theorem zui (G:Sem') (t0 t1 t2 t3 t4:V):execK G zig.rv zig.body [] [] (params 0 [t0,t1,t2,t3,t4]) = znU G t0 t1 t2 t3 t4:=by kernel_rfl
def zjI (G:Sem'):List V → M V
 | [t0,t1,t2,t3,t4]=>fin (znU G t0 t1 t2 t3 t4)
 | _=>M.fail
theorem zvE {g:Sem'} (hg:Sims g (sem T)) (args:List V):Sim (zjI g args) (sem T zdf args):=by
 unfold zjI
 split
 ·exact zad zto (Nat.le_of_ble_eq_true (by kernel_rfl)) hg (zui g _ _ _ _ _)
 ·exact zaa
def zw3 (G:Sem') (t0:V):M Res :=
 (mbox zaF t0).bind fun t1 =>
 (M.lift (Ax.faddr 11 t1)).bind fun t5 =>
 (mload none t5).bind fun t6 =>
 (M.lift (Ax.cint .u64 t6)).bind fun t7 =>
 (M.lift (Ax.faddr 10 t1)).bind fun t8 =>
 (mload none t8).bind fun t9 =>
 (M.lift (Ax.minmax true t9 [(V.int .i64 0)])).bind fun t10 =>
 (M.lift (Ax.minmax false t10 [(V.int .i64 64)])).bind fun t11 =>
 M.blk 0 (
 (M.lift (Ax.bin .eql t7 (V.int .u64 0))).bind fun t14 =>
 M.ite t14
 (M.pure (.ret [(V.int .u64 0)]))
 ((G zb5 [t7]).bind fun t17 =>
 (M.lift (Ax.bin .add t17 t11)).bind fun t19 =>
 (M.lift (Ax.bin .gtr t19 (V.int .i64 64))).bind fun t20 =>
 M.ite t20
 (M.pure (.ret [(V.int .u64 18446744073709551615)]))
 (M.pure (.nrm [])))) fun _ =>
 (M.lift (Ax.bin .shl t7 t11)).bind fun t23 =>
 M.pure (.ret [t23])
noncomputable def zoD:Fn':=(T zgW).getD noF
theorem zA1:T zgW = some zoD:=by kernel_rfl
theorem zCi (G:Sem') (t0:V):execK G zoD.rv zoD.body [] [] (params 0 [t0]) = zw3 G t0:=by kernel_rfl
def zrs (G:Sem'):List V → M V
 | [t0]=>fin (zw3 G t0)
 | _=>M.fail
theorem zC4 {g:Sem'} (hg:Sims g (sem T)) (args:List V):Sim (zrs g args) (sem T zgW args):=by
 unfold zrs
 split
 ·exact zad zA1 (Nat.le_of_ble_eq_true (by kernel_rfl)) hg (zCi g _)
 ·exact zaa
def zAb (G:Sem') (t5 t0 t4 t2:V) (L:List V):M Res :=
 (M.lift (Ax.bin .lss (L.getD 0 .undef) t5)).bind fun t62 =>
 M.ite t62
 (M.blk 2 (
 (M.lift (Ax.faddr 5 t4)).bind fun t65 =>
 (mload none t65).bind fun t66 =>
 (M.lift (Ax.bin .add (L.getD 0 .undef) (V.int .i64 4))).bind fun t70 =>
 (M.lift (zcx .sl 1 t0 (some (L.getD 0 .undef)) (some t70) none)).bind fun t71 =>
 M.getH.bind fun h3 =>
 (G zec [t71]).bind fun t72 =>
 M.getH.bind fun h3' =>
 (M.unch t65 h3 h3').bind fun _ =>
 (mslit zfn 1 [(V.int .u32 0)] [(0,1,t72)]).bind fun t73 =>
 (mappend zfn 1 4 t66 t73).bind fun t74 =>
 (M.lift (Ax.faddr 5 t4)).bind fun t75 =>
 (mstore 1 t75 t74).bind fun _ =>
 M.pure (.nrm [])) fun _ =>
 (M.lift (Ax.bin .add (L.getD 0 .undef) (V.int .i64 4))).bind fun t64 =>
 M.pure (.nrm [t64]))
 (M.pure (.ex 1 []))
def zwW (G:Sem') (t0:V):M Res :=
 (mbox zbc (V.agg [(V.bool false),(V.int .i64 0),(V.int .u16 0),(V.int .u32 0),(V.int .u32 0),V.nils,(V.int .i64 0),V.nils,(V.int .i64 0),V.nils])).bind fun t2 =>
 M.blk 0 (
 (M.lift (vlen t0)).bind fun t12 =>
 (M.lift (Ax.bin .gtr t12 (V.int .i64 1200))).bind fun t13 =>
 M.ite t13
 ((M.lift (Ax.build [(V.bool false),(V.int .i64 0),(V.int .u16 0),(V.int .u32 0),(V.int .u32 0),V.nils,(V.int .i64 0),V.nils,(V.int .i64 0),V.nils] [])).bind fun t14 =>
 (mstore 10 t2 t14).bind fun _ =>
 (mload (some 10) t2).bind fun r0 =>
 M.pure (.ret [r0,(V.int .i64 4)]))
 ((M.lift (vlen t0)).bind fun t17 =>
 (M.lift (Ax.bin .lss t17 (V.int .i64 12))).bind fun t18 =>
 M.ite t18
 ((M.lift (Ax.build [(V.bool false),(V.int .i64 0),(V.int .u16 0),(V.int .u32 0),(V.int .u32 0),V.nils,(V.int .i64 0),V.nils,(V.int .i64 0),V.nils] [])).bind fun t19 =>
 (mstore 10 t2 t19).bind fun _ =>
 (mload (some 10) t2).bind fun r0 =>
 M.pure (.ret [r0,(V.int .i64 3)]))
 ((M.lift (Ax.iaddr none 1 t0 (V.int .i64 0))).bind fun t22 =>
 (mload none t22).bind fun t23 =>
 (M.lift (Ax.bin .shr t23 (V.int .u64 6))).bind fun t24 =>
 (M.lift (Ax.bin .neq t24 (V.int .u8 2))).bind fun t25 =>
 M.ite t25
 ((M.lift (Ax.build [(V.bool false),(V.int .i64 0),(V.int .u16 0),(V.int .u32 0),(V.int .u32 0),V.nils,(V.int .i64 0),V.nils,(V.int .i64 0),V.nils] [])).bind fun t26 =>
 (mstore 10 t2 t26).bind fun _ =>
 (mload (some 10) t2).bind fun r0 =>
 M.pure (.ret [r0,(V.int .i64 2)]))
 (M.pure (.nrm []))))) fun _ =>
 (M.lift (Ax.iaddr none 1 t0 (V.int .i64 1))).bind fun t28 =>
 (mload none t28).bind fun t29 =>
 (M.lift (Ax.bin .and t29 (V.int .u8 128))).bind fun t30 =>
 (M.lift (Ax.bin .neq t30 (V.int .u8 0))).bind fun t31 =>
 (M.lift (Ax.iaddr none 1 t0 (V.int .i64 1))).bind fun t33 =>
 (mload none t33).bind fun t34 =>
 (M.lift (Ax.bin .andNot t34 (V.int .u8 128))).bind fun t35 =>
 (M.lift (Ax.cint .i64 t35)).bind fun t36 =>
 (M.lift (zcx .sl 1 t0 (some (V.int .i64 2)) (some (V.int .i64 4)) none)).bind fun t38 =>
 (M.lift (zcx .sl 1 t0 (some (V.int .i64 4)) (some (V.int .i64 8)) none)).bind fun t42 =>
 (M.lift (zcx .sl 1 t0 (some (V.int .i64 8)) (some (V.int .i64 12)) none)).bind fun t45 =>
 M.getH.bind fun h0 =>
 (G zec [t38]).bind fun t39 =>
 M.getH.bind fun h0' =>
 (M.unch t33 h0 h0').bind fun _ =>
 (M.unch t28 h0 h0').bind fun _ =>
 M.getH.bind fun h1 =>
 (G zec [t42]).bind fun t43 =>
 M.getH.bind fun h1' =>
 (M.unch t33 h1 h1').bind fun _ =>
 (M.unch t28 h1 h1').bind fun _ =>
 M.getH.bind fun h2 =>
 (G zec [t45]).bind fun t46 =>
 M.getH.bind fun h2' =>
 (M.unch t33 h2 h2').bind fun _ =>
 (M.unch t28 h2 h2').bind fun _ =>
 (M.lift (Ax.cint .u16 t39)).bind fun t40 =>
 (M.lift (Ax.build [(V.bool false),(V.int .i64 0),(V.int .u16 0),(V.int .u32 0),(V.int .u32 0),V.nils,(V.int .i64 0),V.nils,(V.int .i64 0),V.nils] [(0,1,t31),(1,1,t36),(2,1,t40),(3,1,t43),(4,1,t46)])).bind fun t47 =>
 (mbox zbc (V.agg [(V.bool false),(V.int .i64 0),(V.int .u16 0),(V.int .u32 0),(V.int .u32 0),V.nils,(V.int .i64 0),V.nils,(V.int .i64 0),V.nils])).bind fun t4 =>
 (mstore 10 t4 t47).bind fun _ =>
 (M.lift (Ax.iaddr none 1 t0 (V.int .i64 0))).bind fun t49 =>
 (mload none t49).bind fun t50 =>
 (M.lift (Ax.bin .and t50 (V.int .u8 15))).bind fun t51 =>
 (M.lift (Ax.cint .i64 t51)).bind fun t52 =>
 (M.lift (Ax.bin .mul (V.int .i64 4) t52)).bind fun t53 =>
 (M.lift (Ax.bin .add (V.int .i64 12) t53)).bind fun t54 =>
 (M.lift (vlen t0)).bind fun t56 =>
 (M.lift (Ax.bin .lss t56 t54)).bind fun t58 =>
 M.ite t58
 ((M.lift (Ax.build [(V.bool false),(V.int .i64 0),(V.int .u16 0),(V.int .u32 0),(V.int .u32 0),V.nils,(V.int .i64 0),V.nils,(V.int .i64 0),V.nils] [])).bind fun t59 =>
 (mstore 10 t2 t59).bind fun _ =>
 (mload (some 10) t2).bind fun r0 =>
 M.pure (.ret [r0,(V.int .i64 3)]))
 (M.blk 1 (
 M.iter (zAb G t54 t0 t4 t2) [(V.int .i64 12)]) fun _ =>
 (M.lift (Ax.iaddr none 1 t0 (V.int .i64 0))).bind fun t77 =>
 (mload none t77).bind fun t78 =>
 (M.lift (Ax.bin .and t78 (V.int .u8 16))).bind fun t79 =>
 (M.lift (Ax.bin .neq t79 (V.int .u8 0))).bind fun t80 =>
 M.join (M.ite t80
 ((M.lift (zcx .sl 1 t0 (some t54) none none)).bind fun t84 =>
 (G zdD [t4,t84]).bind fun t85 =>
 (M.lift (Ax.ext 0 t85)).bind fun t86 =>
 (M.lift (Ax.ext 1 t85)).bind fun t87 =>
 (M.lift (Ax.bin .neq t87 (V.int .i64 0))).bind fun t89 =>
 M.ite t89
 ((M.lift (Ax.build [(V.bool false),(V.int .i64 0),(V.int .u16 0),(V.int .u32 0),(V.int .u32 0),V.nils,(V.int .i64 0),V.nils,(V.int .i64 0),V.nils] [])).bind fun t90 =>
 (mstore 10 t2 t90).bind fun _ =>
 (mload (some 10) t2).bind fun r0 =>
 M.pure (.ret [r0,t87]))
 ((M.lift (Ax.bin .add t54 t86)).bind fun t94 =>
 M.pure (.nrm [t94])))
 (M.pure (.nrm [t54]))) fun L3 =>
 (M.lift (zcx .sl 1 t0 (some (L3.getD 0 .undef)) none none)).bind fun t97 =>
 (M.lift (Ax.iaddr none 1 t0 (V.int .i64 0))).bind fun t99 =>
 (mload none t99).bind fun t100 =>
 (M.lift (Ax.bin .and t100 (V.int .u8 32))).bind fun t101 =>
 (M.lift (Ax.bin .neq t101 (V.int .u8 0))).bind fun t102 =>
 M.join (M.ite t102
 ((M.lift (vlen t0)).bind fun t105 =>
 (M.lift (Ax.bin .sub t105 (V.int .i64 1))).bind fun t106 =>
 (M.lift (Ax.iaddr none 1 t0 t106)).bind fun t107 =>
 (mload none t107).bind fun t108 =>
 (M.lift (Ax.cint .i64 t108)).bind fun t109 =>
 (M.lift (Ax.faddr 8 t4)).bind fun t110 =>
 (mstore 1 t110 t109).bind fun _ =>
 (M.lift (Ax.faddr 8 t4)).bind fun t111 =>
 (mload none t111).bind fun t112 =>
 (M.lift (Ax.bin .eql t112 (V.int .i64 0))).bind fun t113 =>
 (guarded [(0,t113)] (some (0,false)) (M.lift (Ax.faddr 8 t4))).bind fun t115 =>
 (guarded [(0,t113)] (some (0,false)) (mload none t115)).bind fun t116 =>
 (guarded [(0,t113)] (some (0,false)) (M.pure t97)).bind fun t117 =>
 (guarded [(0,t113)] (some (0,false)) (M.lift (vlen t117))).bind fun t118 =>
 (guarded [(0,t113)] (some (0,false)) (M.lift (Ax.bin .gtr t116 t118))).bind fun t119 =>
 (M.lift (Ax.pick t113 (V.bool true) t119)).bind fun t120 =>
 M.ite t120
 ((M.lift (Ax.build [(V.bool false),(V.int .i64 0),(V.int .u16 0),(V.int .u32 0),(V.int .u32 0),V.nils,(V.int .i64 0),V.nils,(V.int .i64 0),V.nils] [])).bind fun t121 =>
 (mstore 10 t2 t121).bind fun _ =>
 (mload (some 10) t2).bind fun r0 =>
 M.pure (.ret [r0,(V.int .i64 2)]))
 (M.pure (.nrm [])))
 (M.pure (.nrm []))) fun _ =>
 (M.lift (vlen t97)).bind fun t124 =>
 (M.lift (Ax.faddr 8 t4)).bind fun t125 =>
 (mload none t125).bind fun t126 =>
 (M.lift (Ax.bin .sub t124 t126)).bind fun t127 =>
 (M.lift (zcx .sl 1 t97 none (some t127) none)).bind fun t128 =>
 (G zaN [t128]).bind fun t129 =>
 (M.lift (Ax.faddr 9 t4)).bind fun t130 =>
 (mstore 1 t130 t129).bind fun _ =>
 (mload (some 10) t4).bind fun t131 =>
 (mstore 10 t2 t131).bind fun _ =>
 (mload (some 10) t2).bind fun r0 =>
 M.pure (.ret [r0,(V.int .i64 0)]))
noncomputable def zoy:Fn':=(T zgT).getD noF
theorem zAW:T zgT = some zoy:=by kernel_rfl
theorem zCd (G:Sem') (t0:V):execK G zoy.rv zoy.body [] [] (params 0 [t0]) = zwW G t0:=by kernel_rfl
def zrn (G:Sem'):List V → M V
 | [t0]=>fin (zwW G t0)
 | _=>M.fail
theorem zCZ {g:Sem'} (hg:Sims g (sem T)) (args:List V):Sim (zrn g args) (sem T zgT args):=by
 unfold zrn
 split
 ·exact zad zAW (Nat.le_of_ble_eq_true (by kernel_rfl)) hg (zCd g _)
 ·exact zaa
def zqa (G:Sem') (t15 t2:V) (L:List V):M Res :=
 (M.lift (Ax.bin .lss (L.getD 0 .undef) (V.int .i64 3))).bind fun t17 =>
 M.ite t17
 (M.blk 1 (
 (M.lift (Ax.index 3 11 (some 11) t15 (L.getD 0 .undef))).bind fun t19 =>
 (mbox ziV (V.agg [(V.bool false),(V.int .u32 0),(V.int .i64 0),(V.int .i64 0),(V.int .i64 0),V.nils,(V.int .i64 0),V.nils,V.nils,(V.int .u32 0),V.nils])).bind fun t9 =>
 (mstore 11 t9 t19).bind fun _ =>
 (M.lift (Ax.faddr 0 t9)).bind fun t20 =>
 (mload none t20).bind fun t21 =>
 (guarded [(0,t21)] (some (0,true)) (M.lift (Ax.faddr 1 t9))).bind fun t23 =>
 (guarded [(0,t21)] (some (0,true)) (mload none t23)).bind fun t24 =>
 (guarded [(0,t21)] (some (0,true)) (M.pure t2)).bind fun t25 =>
 (guarded [(0,t21)] (some (0,true)) (M.lift (Ax.bin .eql t24 t25))).bind fun t26 =>
 (M.lift (Ax.pick t21 t26 (V.bool false))).bind fun t27 =>
 M.ite t27
 (M.pure (.ret [(L.getD 0 .undef),(V.bool true)]))
 (M.pure (.nrm []))) fun _ =>
 (M.lift (Ax.bin .add (L.getD 0 .undef) (V.int .i64 1))).bind fun t29 =>
 M.pure (.nrm [t29]))
 (M.pure (.ex 0 []))
def zla (G:Sem') (t0 t1 t2:V):M Res :=
 (M.lift (Ax.nilck t0)).bind fun t12 =>
 (M.lift (Ax.faddr 39 t12)).bind fun t13 =>
 (M.lift (Ax.iaddr (some 8) 33 t13 t1)).bind fun t14 =>
 (mload (some 33) t14).bind fun t15 =>
 M.blk 0 (
 M.iter (zqa G t15 t2) [(V.int .i64 0)]) fun _ =>
 M.pure (.ret [(V.int .i64 0),(V.bool false)])
noncomputable def zgz:Fn':=(T zbR).getD noF
theorem zqD:T zbR = some zgz:=by kernel_rfl
theorem zrf (G:Sem') (t0 t1 t2:V):execK G zgz.rv zgz.body [] [] (params 0 [t0,t1,t2]) = zla G t0 t1 t2:=by kernel_rfl
def zhH (G:Sem'):List V → M V
 | [t0,t1,t2]=>fin (zla G t0 t1 t2)
 | _=>M.fail
theorem zr7 {g:Sem'} (hg:Sims g (sem T)) (args:List V):Sim (zhH g args) (sem T zbR args):=by
 unfold zhH
 split
 ·exact zad zqD (Nat.le_of_ble_eq_true (by kernel_rfl)) hg (zrf g _ _ _)
 ·exact zaa
def zqt (G:Sem') (t0:V):M Res :=
 (M.lift (vlen t0)).bind fun t13 =>
 (M.lift (Ax.bin .eql t13 (V.int .i64 0))).bind fun t14 =>
 M.ite t14
 (M.pure (.ret [(V.int .u64 0),(V.int .u64 0),(V.int .i64 0),(V.int .i64 3)]))
 ((M.lift (Ax.iaddr none 1 t0 (V.int .i64 0))).bind fun t16 =>
 (mload none t16).bind fun t17 =>
 (M.lift (Ax.bin .shr t17 (V.int .u64 4))).bind fun t18 =>
 (M.lift (Ax.iaddr none 1 t0 (V.int .i64 0))).bind fun t20 =>
 (mload none t20).bind fun t21 =>
 (M.lift (Ax.bin .and t21 (V.int .u8 15))).bind fun t22 =>
 (G zdY [t18]).bind fun t24 =>
 (M.lift (Ax.bin .add (V.int .i64 1) t24)).bind fun t25 =>
 (G zdY [t22]).bind fun t28 =>
 (M.lift (Ax.bin .add t25 t28)).bind fun t29 =>
 (M.lift (vlen t0)).bind fun t31 =>
 (M.lift (Ax.bin .lss t31 t29)).bind fun t33 =>
 M.ite t33
 (M.pure (.ret [(V.int .u64 0),(V.int .u64 0),(V.int .i64 0),(V.int .i64 3)]))
 ((M.lift (zcx .sl 1 t0 (some (V.int .i64 1)) (some t25) none)).bind fun t38 =>
 (G zcR [t18,t38]).bind fun t39 =>
 (M.lift (Ax.ext 0 t39)).bind fun t40 =>
 (M.lift (Ax.ext 1 t39)).bind fun t41 =>
 (M.lift (zcx .sl 1 t0 (some t25) (some t29) none)).bind fun t47 =>
 (G zcR [t22,t47]).bind fun t48 =>
 (M.lift (Ax.ext 0 t48)).bind fun t49 =>
 (M.lift (Ax.ext 1 t48)).bind fun t50 =>
 (M.lift (Ax.un .not t41)).bind fun t52 =>
 (guarded [(0,t52)] (some (0,false)) (M.pure t50)).bind fun t54 =>
 (guarded [(0,t52)] (some (0,false)) (M.lift (Ax.un .not t54))).bind fun t55 =>
 (M.lift (Ax.pick t52 (V.bool true) t55)).bind fun t56 =>
 M.ite t56
 (M.pure (.ret [(V.int .u64 0),(V.int .u64 0),(V.int .i64 0),(V.int .i64 2)]))
 (M.pure (.ret [t40,t49,t29,(V.int .i64 0)]))))
noncomputable def zkj:Fn':=(T zeh).getD noF
theorem zwi:T zeh = some zkj:=by kernel_rfl
theorem zxt (G:Sem') (t0:V):execK G zkj.rv zkj.body [] [] (params 0 [t0]) = zqt G t0:=by kernel_rfl
def zlT (G:Sem'):List V → M V
 | [t0]=>fin (zqt G t0)
 | _=>M.fail
theorem zyk {g:Sem'} (hg:Sims g (sem T)) (args:List V):Sim (zlT g args) (sem T zeh args):=by
 unfold zlT
 split
 ·exact zad zwi (Nat.le_of_ble_eq_true (by kernel_rfl)) hg (zxt g _)
 ·exact zaa
def zxg (G:Sem') (t0:V):M Res :=
 (M.lift (Ax.bin .geq t0 (V.int .u64 16777216))).bind fun t7 =>
 M.ite t7
 (M.pure (.ret [(V.int .i64 0),(V.int .i64 0),(V.int .i64 0),(V.bool false)]))
 ((M.lift (Ax.bin .quo t0 (V.int .u64 256))).bind fun t9 =>
 (M.lift (Ax.cint .i64 t9)).bind fun t10 =>
 (M.lift (Ax.bin .rem t0 (V.int .u64 256))).bind fun t12 =>
 (M.lift (Ax.bin .quo t12 (V.int .u64 8))).bind fun t13 =>
 (M.lift (Ax.cint .i64 t13)).bind fun t14 =>
 (M.lift (Ax.bin .rem t0 (V.int .u64 8))).bind fun t16 =>
 (M.lift (Ax.cint .i64 t16)).bind fun t17 =>
 M.pure (.ret [t10,t14,t17,(V.bool true)]))
noncomputable def zoP:Fn':=(T zg5).getD noF
theorem zBd:T zg5 = some zoP:=by kernel_rfl
theorem zCu (G:Sem') (t0:V):execK G zoP.rv zoP.body [] [] (params 0 [t0]) = zxg G t0:=by kernel_rfl
def zrE (G:Sem'):List V → M V
 | [t0]=>fin (zxg G t0)
 | _=>M.fail
theorem zDg {g:Sem'} (hg:Sims g (sem T)) (args:List V):Sim (zrE g args) (sem T zg5 args):=by
 unfold zrE
 split
 ·exact zad zBd (Nat.le_of_ble_eq_true (by kernel_rfl)) hg (zCu g _)
 ·exact zaa
def zy6 (G:Sem') (t0 t1:V):M Res :=
 (mbox zbc t0).bind fun t2 =>
 (mload (some 10) t2).bind fun t7 =>
 (G zkp [t7,t1]).bind fun t9 =>
 (M.lift (Ax.bin .lss t9 (V.int .i64 0))).bind fun t11 =>
 M.ite t11
 (M.pure (.ret [V.nils,(V.bool false)]))
 ((M.lift (Ax.faddr 7 t2)).bind fun t12 =>
 (mload none t12).bind fun t13 =>
 (M.lift (Ax.iaddr none 2 t13 t9)).bind fun t15 =>
 (M.lift (Ax.faddr 1 t15)).bind fun t16 =>
 (mload none t16).bind fun t17 =>
 (G zaN [t17]).bind fun t18 =>
 M.pure (.ret [t18,(V.bool true)]))
noncomputable def zqV:Fn':=(T zgF).getD noF
theorem zCL:T zgF = some zqV:=by kernel_rfl
theorem zDE (G:Sem') (t0 t1:V):execK G zqV.rv zqV.body [] [] (params 0 [t0,t1]) = zy6 G t0 t1:=by kernel_rfl
def zuv (G:Sem'):List V → M V
 | [t0,t1]=>fin (zy6 G t0 t1)
 | _=>M.fail
theorem zEH {g:Sem'} (hg:Sims g (sem T)) (args:List V):Sim (zuv g args) (sem T zgF args):=by
 unfold zuv
 split
 ·exact zad zCL (Nat.le_of_ble_eq_true (by kernel_rfl)) hg (zDE g _ _)
 ·exact zaa
def zvQ (G:Sem') (t6 t4:V) (_:List V):M Res :=
 (M.lift (Ax.nilck t6)).bind fun t123 =>
 (M.lift (Ax.faddr 1 t123)).bind fun t124 =>
 (mload none t124).bind fun t125 =>
 (M.lift (Ax.bin .eql t125 (V.int .i64 0))).bind fun t126 =>
 (guarded [(0,t126)] (some (0,true)) (M.pure t6)).bind fun t128 =>
 (guarded [(0,t126)] (some (0,true)) (M.lift (Ax.nilck t128))).bind fun t129 =>
 (guarded [(0,t126)] (some (0,true)) (M.lift (Ax.faddr 0 t129))).bind fun t130 =>
 (guarded [(0,t126)] (some (0,true)) (mload none t130)).bind fun t131 =>
 (guarded [(0,t126)] (some (0,true)) (G zbT [t131])).bind fun t132 =>
 (guarded [(0,t126)] (some (0,true)) (M.lift (Ax.bin .gtr t132 (V.int .i64 0)))).bind fun t133 =>
 (M.lift (Ax.pick t126 t133 (V.bool false))).bind fun t134 =>
 M.ite t134
 (M.blk 2 (
 (G zaq [t6]).bind fun t136 =>
 M.join (M.ite t136
 ((G zaM [t6,(V.int .i64 2)]).bind fun t138 =>
 M.pure (.nrm []))
 (M.pure (.nrm []))) fun _ =>
 M.pure (.nrm [])) fun _ =>
 M.pure (.nrm []))
 (M.pure (.ex 1 []))
def zqy (G:Sem') (t0 t1:V):M Res :=
 (mbox zag t1).bind fun t3 =>
 (mbox zbP (V.agg [(V.bool false),(V.bool false),(V.int .i64 0),(V.int .u16 0),(V.bool false),(V.int .i64 0),(V.int .i64 0),V.nils,(V.int .i64 0),V.nils,V.nils,(V.bool false),(V.int .u32 0),(V.bool false),(V.bool false),(V.bool false),V.nils,V.nils,V.nils])).bind fun t4 =>
 (G zg7 [t0]).bind fun t12 =>
 (M.lift (Ax.build [V.nilp,(V.int .i64 0)] [(0,1,t12)])).bind fun t13 =>
 (mbox zvb t13).bind fun t14 =>
 (G zaq [t14]).bind fun t16 =>
 (G zaq [t14]).bind fun t18 =>
 (G zaf [t14,(V.int .i64 6)]).bind fun t20 =>
 (G zaf [t14,(V.int .i64 16)]).bind fun t22 =>
 (M.lift (Ax.cint .u16 t22)).bind fun t23 =>
 (M.lift (Ax.build [(V.bool false),(V.bool false),(V.int .i64 0),(V.int .u16 0),(V.bool false),(V.int .i64 0),(V.int .i64 0),V.nils,(V.int .i64 0),V.nils,V.nils,(V.bool false),(V.int .u32 0),(V.bool false),(V.bool false),(V.bool false),V.nils,V.nils,V.nils] [(0,1,t16),(1,1,t18),(2,1,t20),(3,1,t23)])).bind fun t24 =>
 (mbox zbP (V.agg [(V.bool false),(V.bool false),(V.int .i64 0),(V.int .u16 0),(V.bool false),(V.int .i64 0),(V.int .i64 0),V.nils,(V.int .i64 0),V.nils,V.nils,(V.bool false),(V.int .u32 0),(V.bool false),(V.bool false),(V.bool false),V.nils,V.nils,V.nils])).bind fun t7 =>
 (mstore 19 t7 t24).bind fun _ =>
 (M.lift (vlen t0)).bind fun t26 =>
 (M.lift (Ax.bin .gtr t26 (V.int .i64 3))).bind fun t27 =>
 M.join (M.ite t27
 ((G zaq [t14]).bind fun t29 =>
 (G zaq [t14]).bind fun t31 =>
 (M.lift (Ax.faddr 4 t7)).bind fun t32 =>
 (mstore 1 t32 t29).bind fun _ =>
 (M.lift (Ax.faddr 11 t7)).bind fun t33 =>
 (mstore 1 t33 t31).bind fun _ =>
 (G zaq [t14]).bind fun t35 =>
 (G zaq [t14]).bind fun t37 =>
 (G zaq [t14]).bind fun t39 =>
 (M.lift (Ax.faddr 13 t7)).bind fun t40 =>
 (mstore 1 t40 t35).bind fun _ =>
 (M.lift (Ax.faddr 14 t7)).bind fun t41 =>
 (mstore 1 t41 t37).bind fun _ =>
 (M.lift (Ax.faddr 15 t7)).bind fun t42 =>
 (mstore 1 t42 t39).bind fun _ =>
 M.pure (.nrm []))
 (M.pure (.nrm []))) fun _ =>
 M.blk 0 (
 (M.lift (Ax.nilck t14)).bind fun t45 =>
 (M.lift (Ax.faddr 1 t45)).bind fun t46 =>
 (mload none t46).bind fun t47 =>
 (M.lift (Ax.bin .neq t47 (V.int .i64 0))).bind fun t48 =>
 M.ite t48
 ((M.lift (Ax.build [(V.bool false),(V.bool false),(V.int .i64 0),(V.int .u16 0),(V.bool false),(V.int .i64 0),(V.int .i64 0),V.nils,(V.int .i64 0),V.nils,V.nils,(V.bool false),(V.int .u32 0),(V.bool false),(V.bool false),(V.bool false),V.nils,V.nils,V.nils] [])).bind fun t49 =>
 (M.lift (Ax.nilck t14)).bind fun t51 =>
 (M.lift (Ax.faddr 1 t51)).bind fun t52 =>
 (mload none t52).bind fun t53 =>
 M.getH.bind fun h0 =>
 (mstore 19 t4 t49).bind fun _ =>
 M.getH.bind fun h0' =>
 (M.unch t52 h0 h0').bind fun _ =>
 (mload (some 19) t4).bind fun r0 =>
 M.pure (.ret [r0,t53]))
 ((M.lift (Ax.faddr 4 t7)).bind fun t55 =>
 (mload none t55).bind fun t56 =>
 M.join (M.ite t56
 ((G zbb [t14]).bind fun t58 =>
 (M.lift (Ax.faddr 5 t7)).bind fun t59 =>
 (mstore 6 t59 t58).bind fun _ =>
 M.pure (.nrm []))
 ((mload (some 6) t3).bind fun t61 =>
 (G zcB [t61]).bind fun t62 =>
 (M.lift (Ax.un .not t62)).bind fun t63 =>
 M.ite t63
 ((M.lift (Ax.build [(V.bool false),(V.bool false),(V.int .i64 0),(V.int .u16 0),(V.bool false),(V.int .i64 0),(V.int .i64 0),V.nils,(V.int .i64 0),V.nils,V.nils,(V.bool false),(V.int .u32 0),(V.bool false),(V.bool false),(V.bool false),V.nils,V.nils,V.nils] [])).bind fun t64 =>
 (mstore 19 t4 t64).bind fun _ =>
 (mload (some 19) t4).bind fun r0 =>
 M.pure (.ret [r0,(V.int .i64 2)]))
 (M.pure (.nrm [])))) fun _ =>
 M.pure (.nrm []))) fun _ =>
 (mload (some 19) t7).bind fun t65 =>
 (mload (some 6) t3).bind fun t66 =>
 (G zcE [t65,t66]).bind fun t67 =>
 (mbox zag (V.agg [(V.int .i64 0),(V.int .i64 0),V.nils,(V.int .i64 0),V.nils,V.nils])).bind fun t8 =>
 (mstore 6 t8 t67).bind fun _ =>
 (M.lift (Ax.faddr 11 t7)).bind fun t68 =>
 (mload none t68).bind fun t69 =>
 (guarded [(0,t69)] (some (0,true)) (M.pure t14)).bind fun t71 =>
 (guarded [(0,t69)] (some (0,true)) (M.lift (Ax.nilck t71))).bind fun t72 =>
 (guarded [(0,t69)] (some (0,true)) (M.lift (Ax.faddr 1 t72))).bind fun t73 =>
 (guarded [(0,t69)] (some (0,true)) (mload none t73)).bind fun t74 =>
 (guarded [(0,t69)] (some (0,true)) (M.lift (Ax.bin .eql t74 (V.int .i64 0)))).bind fun t75 =>
 (M.lift (Ax.pick t69 t75 (V.bool false))).bind fun t76 =>
 M.join (M.ite t76
 ((M.lift (Ax.faddr 1 t8)).bind fun t78 =>
 (mload none t78).bind fun t79 =>
 (G zaf [t14,t79]).bind fun t80 =>
 (M.lift (Ax.cint .u32 t80)).bind fun t81 =>
 (M.lift (Ax.faddr 12 t7)).bind fun t82 =>
 (mstore 1 t82 t81).bind fun _ =>
 M.pure (.nrm []))
 (M.pure (.nrm []))) fun _ =>
 (mload (some 6) t8).bind fun t84 =>
 (M.lift (Ax.faddr 2 t7)).bind fun t85 =>
 (mload none t85).bind fun t86 =>
 (G zcc [t84,t86]).bind fun t87 =>
 (M.lift (Ax.ext 0 t87)).bind fun t88 =>
 (M.lift (Ax.ext 1 t87)).bind fun t89 =>
 (mbox zam (V.agg [(V.int .i64 0),(V.int .i64 0),V.nils,V.nils,V.nils])).bind fun t9 =>
 (mstore 5 t9 t88).bind fun _ =>
 (M.lift (Ax.un .not t89)).bind fun t91 =>
 M.join (M.ite t91
 ((G zaM [t14,(V.int .i64 2)]).bind fun t93 =>
 M.pure (.nrm []))
 (M.pure (.nrm []))) fun _ =>
 (M.lift (Ax.faddr 2 t9)).bind fun t94 =>
 (mload none t94).bind fun t95 =>
 (M.lift (Ax.faddr 3 t9)).bind fun t96 =>
 (mload none t96).bind fun t97 =>
 (M.lift (Ax.faddr 4 t9)).bind fun t98 =>
 (mload none t98).bind fun t99 =>
 (M.lift (Ax.faddr 16 t7)).bind fun t100 =>
 M.getH.bind fun h1 =>
 (mstore 1 t100 t95).bind fun _ =>
 M.getH.bind fun h1' =>
 (M.unch t98 h1 h1').bind fun _ =>
 (M.unch t96 h1 h1').bind fun _ =>
 (M.lift (Ax.faddr 17 t7)).bind fun t101 =>
 M.getH.bind fun h2 =>
 (mstore 1 t101 t97).bind fun _ =>
 M.getH.bind fun h2' =>
 (M.unch t98 h2 h2').bind fun _ =>
 (M.lift (Ax.faddr 18 t7)).bind fun t102 =>
 (mstore 1 t102 t99).bind fun _ =>
 (M.lift (Ax.faddr 13 t7)).bind fun t103 =>
 (mload none t103).bind fun t104 =>
 M.join (M.ite t104
 ((M.lift (Ax.faddr 1 t8)).bind fun t106 =>
 (mload none t106).bind fun t107 =>
 (G za1 [t14,t107,(V.int .i64 2)]).bind fun t108 =>
 (M.lift (Ax.faddr 16 t7)).bind fun t109 =>
 (mstore 1 t109 t108).bind fun _ =>
 M.pure (.nrm []))
 (M.pure (.nrm []))) fun _ =>
 (M.lift (Ax.faddr 14 t7)).bind fun t110 =>
 (mload none t110).bind fun t111 =>
 M.join (M.ite t111
 ((G zch [t14]).bind fun t113 =>
 (M.lift (Ax.faddr 17 t7)).bind fun t114 =>
 (mstore 1 t114 t113).bind fun _ =>
 M.pure (.nrm []))
 (M.pure (.nrm []))) fun _ =>
 (M.lift (Ax.faddr 15 t7)).bind fun t115 =>
 (mload none t115).bind fun t116 =>
 M.join (M.ite t116
 ((M.lift (Ax.faddr 3 t8)).bind fun t118 =>
 (mload none t118).bind fun t119 =>
 (G za1 [t14,t119,(V.int .i64 8)]).bind fun t120 =>
 (M.lift (Ax.faddr 18 t7)).bind fun t121 =>
 (mstore 1 t121 t120).bind fun _ =>
 M.pure (.nrm []))
 (M.pure (.nrm []))) fun _ =>
 M.blk 1 (
 M.iter (zvQ G t14 t4) []) fun _ =>
 (M.lift (Ax.nilck t14)).bind fun t140 =>
 (M.lift (Ax.faddr 1 t140)).bind fun t141 =>
 (mload none t141).bind fun t142 =>
 (M.lift (Ax.bin .neq t142 (V.int .i64 0))).bind fun t143 =>
 M.ite t143
 ((M.lift (Ax.build [(V.bool false),(V.bool false),(V.int .i64 0),(V.int .u16 0),(V.bool false),(V.int .i64 0),(V.int .i64 0),V.nils,(V.int .i64 0),V.nils,V.nils,(V.bool false),(V.int .u32 0),(V.bool false),(V.bool false),(V.bool false),V.nils,V.nils,V.nils] [])).bind fun t144 =>
 (M.lift (Ax.nilck t14)).bind fun t146 =>
 (M.lift (Ax.faddr 1 t146)).bind fun t147 =>
 (mload none t147).bind fun t148 =>
 M.getH.bind fun h3 =>
 (mstore 19 t4 t144).bind fun _ =>
 M.getH.bind fun h3' =>
 (M.unch t147 h3 h3').bind fun _ =>
 (mload (some 19) t4).bind fun r0 =>
 M.pure (.ret [r0,t148]))
 ((mload (some 19) t7).bind fun t149 =>
 (mstore 19 t4 t149).bind fun _ =>
 (mload (some 19) t4).bind fun r0 =>
 M.pure (.ret [r0,(V.int .i64 0)]))
noncomputable def zko:Fn':=(T zei).getD noF
theorem zwn:T zei = some zko:=by kernel_rfl
theorem zxy (G:Sem') (t0 t1:V):execK G zko.rv zko.body [] [] (params 0 [t0,t1]) = zqy G t0 t1:=by kernel_rfl
def zlY (G:Sem'):List V → M V
 | [t0,t1]=>fin (zqy G t0 t1)
 | _=>M.fail
theorem zyp {g:Sem'} (hg:Sims g (sem T)) (args:List V):Sim (zlY g args) (sem T zei args):=by
 unfold zlY
 split
 ·exact zad zwn (Nat.le_of_ble_eq_true (by kernel_rfl)) hg (zxy g _ _)
 ·exact zaa
end Go.Ax.Cc
/- CiK5 -/
namespace Go.Ax.Cc
open Go.Proofs
def zy9 (G:Sem') (t0 t1:V):M Res :=
 (G zaA [t0,t1]).bind fun t7 =>
 M.pure (.ret [t7])
noncomputable def zqY:Fn':=(T zfA).getD noF
theorem zCO:T zfA = some zqY:=by kernel_rfl
theorem zDH (G:Sem') (t0 t1:V):execK G zqY.rv zqY.body [] [] (params 0 [t0,t1]) = zy9 G t0 t1:=by kernel_rfl
def zuy (G:Sem'):List V → M V
 | [t0,t1]=>fin (zy9 G t0 t1)
 | _=>M.fail
theorem zEK {g:Sem'} (hg:Sims g (sem T)) (args:List V):Sim (zuy g args) (sem T zfA args):=by
 unfold zuy
 split
 ·exact zad zCO (Nat.le_of_ble_eq_true (by kernel_rfl)) hg (zDH g _ _)
 ·exact zaa
def zB7 (G:Sem') (t5 t4:V) (L:List V):M Res :=
 (M.lift (Ax.bin .geq (L.getD 1 .undef) (V.int .i64 0))).bind fun t17 =>
 (guarded [(0,t17)] (some (0,true)) (M.pure (L.getD 0 .undef))).bind fun t19 =>
 (guarded [(0,t17)] (some (0,true)) (M.lift (vlen t19))).bind fun t20 =>
 (guarded [(0,t17)] (some (0,true)) (M.lift (Ax.bin .lss t20 (V.int .i64 256)))).bind fun t21 =>
 (M.lift (Ax.pick t17 t21 (V.bool false))).bind fun t22 =>
 M.ite t22
 (M.blk 1 (
 (M.lift (Ax.iaddr none 1 t5 (L.getD 1 .undef))).bind fun t28 =>
 (mload none t28).bind fun t29 =>
 (G zaA [(L.getD 0 .undef),t29]).bind fun t30 =>
 (M.lift (Ax.un .not t30)).bind fun t31 =>
 M.join (M.ite t31
 ((M.lift (Ax.iaddr none 1 t5 (L.getD 1 .undef))).bind fun t35 =>
 (mload none t35).bind fun t36 =>
 (mslit zfo 1 [(V.int .u16 0)] [(0,1,t36)]).bind fun t37 =>
 (mappend zfo 1 2 (L.getD 0 .undef) t37).bind fun t38 =>
 M.pure (.nrm [t38]))
 (M.pure (.nrm [(L.getD 0 .undef)]))) fun L0 =>
 M.pure (.nrm [(L0.getD 0 .undef)])) fun L1 =>
 (M.lift (Ax.bin .sub (L.getD 1 .undef) (V.int .i64 1))).bind fun t24 =>
 M.pure (.nrm [(L1.getD 0 .undef),t24]))
 (M.pure (.ex 0 [(L.getD 0 .undef)]))
def zzb (G:Sem') (t0 t1:V):M Res :=
 (G zaX [t0]).bind fun t9 =>
 (mslit zfo 1 [(V.int .u16 0)] [(0,1,t1)]).bind fun t11 =>
 (mappend zfo 1 2 t9 t11).bind fun t12 =>
 (M.lift (vlen t12)).bind fun t14 =>
 (M.lift (Ax.bin .sub t14 (V.int .i64 1))).bind fun t15 =>
 M.blk 0 (
 M.iter (zB7 G t12 V.nils) [V.nils,t15]) fun L2 =>
 (G zaO [(L2.getD 0 .undef)]).bind fun t40 =>
 M.pure (.ret [(L2.getD 0 .undef)])
noncomputable def zq0:Fn':=(T zgG).getD noF
theorem zCQ:T zgG = some zq0:=by kernel_rfl
theorem zDJ (G:Sem') (t0 t1:V):execK G zq0.rv zq0.body [] [] (params 0 [t0,t1]) = zzb G t0 t1:=by kernel_rfl
def zuA (G:Sem'):List V → M V
 | [t0,t1]=>fin (zzb G t0 t1)
 | _=>M.fail
theorem zEM {g:Sem'} (hg:Sims g (sem T)) (args:List V):Sim (zuA g args) (sem T zgG args):=by
 unfold zuA
 split
 ·exact zad zCQ (Nat.le_of_ble_eq_true (by kernel_rfl)) hg (zDJ g _ _)
 ·exact zaa
def zme (G:Sem') (t0 t1 t2 t3 t4 t5 t6:V):M Res :=
 (mbox zbc t2).bind fun t9 =>
 (mbox zbP t3).bind fun t10 =>
 (mbox zag t4).bind fun t11 =>
 (mbox zv9 (V.agg [V.nils,(V.int .i64 0),(V.bool false)])).bind fun t14 =>
 (mload (some 10) t9).bind fun t26 =>
 (G zfy [t26]).bind fun t27 =>
 (M.lift (Ax.ext 0 t27)).bind fun t28 =>
 (M.lift (Ax.ext 1 t27)).bind fun t29 =>
 (mload (some 10) t9).bind fun t31 =>
 (G zgF [t31,(V.int .i64 1)]).bind fun t32 =>
 (M.lift (Ax.ext 0 t32)).bind fun t33 =>
 (M.lift (Ax.ext 1 t32)).bind fun t34 =>
 (M.lift (Ax.bin .lss t1 (V.int .i64 0))).bind fun t36 =>
 (guarded [(0,t36)] (some (0,false)) (M.pure t1)).bind fun t38 =>
 (guarded [(0,t36)] (some (0,false)) (M.lift (Ax.bin .geq t38 (V.int .i64 3)))).bind fun t39 =>
 (M.lift (Ax.pick t36 (V.bool true) t39)).bind fun t40 =>
 (guarded [(0,t40)] (some (0,false)) (M.pure t29)).bind fun t42 =>
 (guarded [(0,t40)] (some (0,false)) (M.lift (Ax.bin .neq t42 (V.int .i64 0)))).bind fun t43 =>
 (M.lift (Ax.pick t40 (V.bool true) t43)).bind fun t44 =>
 (guarded [(0,t44)] (some (0,false)) (M.pure t34)).bind fun t46 =>
 (guarded [(0,t44)] (some (0,false)) (M.lift (Ax.un .not t46))).bind fun t47 =>
 (M.lift (Ax.pick t44 (V.bool true) t47)).bind fun t48 =>
 (guarded [(0,t48)] (some (0,false)) (M.pure t33)).bind fun t50 =>
 (guarded [(0,t48)] (some (0,false)) (M.lift (vlen t50))).bind fun t51 =>
 (guarded [(0,t48)] (some (0,false)) (M.lift (Ax.bin .lss t51 (V.int .i64 3)))).bind fun t52 =>
 (M.lift (Ax.pick t48 (V.bool true) t52)).bind fun t53 =>
 (guarded [(0,t53)] (some (0,false)) (mload (some 19) t10)).bind fun t55 =>
 (guarded [(0,t53)] (some (0,false)) (mload (some 6) t11)).bind fun t56 =>
 (guarded [(0,t53)] (some (0,false)) (G ze3 [t55,t56])).bind fun t57 =>
 (guarded [(0,t53)] (some (0,false)) (M.lift (Ax.un .not t57))).bind fun t58 =>
 (M.lift (Ax.pick t53 (V.bool true) t58)).bind fun t59 =>
 M.ite t59
 ((M.lift (Ax.build [V.nils,(V.int .i64 0),(V.bool false)] [])).bind fun t60 =>
 (mstore 3 t14 t60).bind fun _ =>
 (mload (some 3) t14).bind fun r0 =>
 M.pure (.ret [r0,(V.int .i64 1)]))
 ((mload (some 10) t9).bind fun t63 =>
 (mload (some 19) t10).bind fun t64 =>
 (G zcp [t0,t1,t63,t64,t6]).bind fun t66 =>
 (M.lift (Ax.un .not t66)).bind fun t67 =>
 M.ite t67
 ((M.lift (Ax.build [V.nils,(V.int .i64 0),(V.bool false)] [(1,1,(V.int .i64 1))])).bind fun t68 =>
 (mstore 3 t14 t68).bind fun _ =>
 (mload (some 3) t14).bind fun r0 =>
 M.pure (.ret [r0,(V.int .i64 0)]))
 ((mload (some 19) t10).bind fun t70 =>
 (mload (some 6) t11).bind fun t71 =>
 (G zdG [t0,t70,t71,t5]).bind fun t73 =>
 (M.lift (Ax.bin .neq t73 (V.int .i64 0))).bind fun t75 =>
 M.ite t75
 ((M.lift (Ax.bin .eql t73 (V.int .i64 5))).bind fun t78 =>
 (M.lift (Ax.build [V.nils,(V.int .i64 0),(V.bool false)] [(1,1,t73),(2,1,t78)])).bind fun t79 =>
 (mstore 3 t14 t79).bind fun _ =>
 (mload (some 3) t14).bind fun r0 =>
 M.pure (.ret [r0,(V.int .i64 0)]))
 ((M.lift (Ax.faddr 0 t10)).bind fun t80 =>
 (mload none t80).bind fun t81 =>
 M.join (M.ite t81
 ((M.lift (Ax.nilck t0)).bind fun t84 =>
 (M.lift (Ax.faddr 13 t84)).bind fun t85 =>
 (mload none t85).bind fun t86 =>
 (M.lift (Ax.faddr 3 t10)).bind fun t87 =>
 (mload none t87).bind fun t88 =>
 (G zgG [t86,t88]).bind fun t89 =>
 (M.lift (Ax.nilck t0)).bind fun t90 =>
 (M.lift (Ax.faddr 13 t90)).bind fun t91 =>
 (mstore 1 t91 t89).bind fun _ =>
 M.pure (.nrm []))
 (M.pure (.nrm []))) fun _ =>
 (M.lift (Ax.nilck t0)).bind fun t94 =>
 (M.lift (Ax.faddr 6 t94)).bind fun t95 =>
 (mload (some 7) t95).bind fun t96 =>
 (M.lift (Ax.faddr 3 t9)).bind fun t97 =>
 (mload none t97).bind fun t98 =>
 (M.lift (Ax.faddr 3 t10)).bind fun t99 =>
 (mload none t99).bind fun t100 =>
 (G ziq [t96,t98,t100,t6]).bind fun t102 =>
 (M.lift (Ax.ext 0 t102)).bind fun t103 =>
 (mbox ziW (V.agg [(V.bool false),(V.int .u16 0),(V.int .u32 0),(V.int .u32 0),(V.int .u16 0),(V.int .u16 0),(V.int .i64 0)])).bind fun t21 =>
 (mstore 7 t21 t103).bind fun _ =>
 (M.lift (Ax.ext 1 t102)).bind fun t104 =>
 (M.lift (Ax.ext 2 t102)).bind fun t105 =>
 (M.lift (Ax.ext 3 t102)).bind fun t106 =>
 (mload (some 7) t21).bind fun t108 =>
 (M.lift (Ax.nilck t0)).bind fun t109 =>
 (M.lift (Ax.faddr 6 t109)).bind fun t110 =>
 (mstore 7 t110 t108).bind fun _ =>
 (mload (some 10) t9).bind fun t112 =>
 M.getH.bind fun h0 =>
 (G zdL [t33,t106]).bind fun t115 =>
 M.getH.bind fun h0' =>
 (M.unch t9 h0 h0').bind fun _ =>
 (G zj6 [t112,(V.int .i64 1),t115]).bind fun t116 =>
 (M.lift (Ax.ext 0 t116)).bind fun t117 =>
 (mstore 10 t9 t117).bind fun _ =>
 (M.lift (Ax.ext 1 t116)).bind fun t118 =>
 (M.lift (Ax.nilck t0)).bind fun t122 =>
 (M.lift (Ax.faddr 0 t122)).bind fun t123 =>
 (mload none t123).bind fun t124 =>
 (M.lift (Ax.faddr 2 t9)).bind fun t125 =>
 M.getH.bind fun h1 =>
 (mstore 1 t125 t104).bind fun _ =>
 M.getH.bind fun h1' =>
 (M.unch t123 h1 h1').bind fun _ =>
 (M.lift (Ax.faddr 3 t9)).bind fun t126 =>
 M.getH.bind fun h2 =>
 (mstore 1 t126 t105).bind fun _ =>
 M.getH.bind fun h2' =>
 (M.unch t123 h2 h2').bind fun _ =>
 (M.lift (Ax.faddr 4 t9)).bind fun t127 =>
 (mstore 1 t127 t124).bind fun _ =>
 (mload (some 10) t9).bind fun t129 =>
 (G zfy [t129]).bind fun t130 =>
 (M.lift (Ax.ext 0 t130)).bind fun t131 =>
 (M.lift (Ax.ext 1 t130)).bind fun t132 =>
 (M.lift (Ax.nilck t0)).bind fun t134 =>
 (M.lift (Ax.faddr 14 t134)).bind fun t135 =>
 (mload none t135).bind fun t136 =>
 (G zdF [t136,t104,t131]).bind fun t139 =>
 (M.lift (Ax.build [V.nils,(V.int .i64 0),(V.bool false)] [(0,1,t131)])).bind fun t141 =>
 (mstore 3 t14 t141).bind fun _ =>
 (mload (some 3) t14).bind fun r0 =>
 M.pure (.ret [r0,(V.int .i64 0)]))))
noncomputable def zhn:Fn':=(T zcI).getD noF
theorem zrR:T zcI = some zhn:=by kernel_rfl
theorem zsS (G:Sem') (t0 t1 t2 t3 t4 t5 t6:V):execK G zhn.rv zhn.body [] [] (params 0 [t0,t1,t2,t3,t4,t5,t6]) = zme G t0 t1 t2 t3 t4 t5 t6:=by kernel_rfl
def ziG (G:Sem'):List V → M V
 | [t0,t1,t2,t3,t4,t5,t6]=>fin (zme G t0 t1 t2 t3 t4 t5 t6)
 | _=>M.fail
theorem ztD {g:Sem'} (hg:Sims g (sem T)) (args:List V):Sim (ziG g args) (sem T zcI args):=by
 unfold ziG
 split
 ·exact zad zrR (Nat.le_of_ble_eq_true (by kernel_rfl)) hg (zsS g _ _ _ _ _ _ _)
 ·exact zaa
def znS (G:Sem') (t0 t1 t2 t3:V):M Res :=
 (M.lift (Ax.nilck t0)).bind fun t10 =>
 (M.lift (Ax.faddr 1470 t10)).bind fun t11 =>
 (M.lift (Ax.iaddr (some 64) 1 t11 t1)).bind fun t12 =>
 (mload none t12).bind fun t13 =>
 M.getH.bind fun h0 =>
 (G zaN [t3]).bind fun t17 =>
 M.getH.bind fun h0' =>
 (M.unch t12 h0 h0').bind fun _ =>
 (M.lift (Ax.build [(V.int .i64 0),(V.int .i64 0),V.nils] [(0,1,t1),(1,1,t2),(2,1,t17)])).bind fun t18 =>
 (G zbk [t13,t18]).bind fun t19 =>
 (M.lift (Ax.un .not t19)).bind fun t20 =>
 M.join (M.ite t20
 ((M.lift (Ax.nilck t0)).bind fun t22 =>
 (M.lift (Ax.faddr 1534 t22)).bind fun t23 =>
 (mload none t23).bind fun t24 =>
 (G zaE [t24,(V.int .i64 10)]).bind fun t25 =>
 M.pure (.nrm []))
 (M.pure (.nrm []))) fun _ =>
 M.pure (.ret [])
noncomputable def zie:Fn':=(T zbJ).getD noF
theorem ztm:T zbJ = some zie:=by kernel_rfl
theorem zug (G:Sem') (t0 t1 t2 t3:V):execK G zie.rv zie.body [] [] (params 0 [t0,t1,t2,t3]) = znS G t0 t1 t2 t3:=by kernel_rfl
def zjG (G:Sem'):List V → M V
 | [t0,t1,t2,t3]=>fin (znS G t0 t1 t2 t3)
 | _=>M.fail
theorem zvC {g:Sem'} (hg:Sims g (sem T)) (args:List V):Sim (zjG g args) (sem T zbJ args):=by
 unfold zjG
 split
 ·exact zad ztm (Nat.le_of_ble_eq_true (by kernel_rfl)) hg (zug g _ _ _ _)
 ·exact zaa
def zjV (G:Sem') (t0 t1 t2 t3 t4:V):M Res :=
 (M.lift (Ax.nilck t1)).bind fun t16 =>
 (M.lift (Ax.faddr 39 t16)).bind fun t17 =>
 (M.lift (Ax.iaddr (some 8) 33 t17 t2)).bind fun t18 =>
 (M.lift (Ax.iaddr (some 3) 11 t18 t3)).bind fun t19 =>
 (mload (some 11) t19).bind fun t20 =>
 (mbox ziV (V.agg [(V.bool false),(V.int .u32 0),(V.int .i64 0),(V.int .i64 0),(V.int .i64 0),V.nils,(V.int .i64 0),V.nils,V.nils,(V.int .u32 0),V.nils])).bind fun t10 =>
 (mstore 11 t10 t20).bind fun _ =>
 (M.lift (Ax.faddr 0 t10)).bind fun t21 =>
 (mload none t21).bind fun t22 =>
 (M.lift (Ax.un .not t22)).bind fun t23 =>
 M.ite t23
 (M.pure (.ret []))
 ((M.lift (Ax.faddr 1 t10)).bind fun t26 =>
 (mload none t26).bind fun t27 =>
 (M.lift (Ax.build [(V.int .i64 0),(V.int .u32 0),(V.int .u32 0),(V.int .u64 0),(V.int .u32 0),(V.int .u32 0),(V.int .u32 0),V.nils,V.nils,V.nils,(V.int .i64 0),(V.int .u32 0),V.nils,(V.int .i64 0),(V.int .i64 0),V.nils] [(0,1,(V.int .i64 4)),(1,1,t4),(2,1,t27)])).bind fun t28 =>
 (mslit zaF 1 [(V.int .i64 0),(V.int .u32 0),(V.int .u32 0),(V.int .u64 0),(V.int .u32 0),(V.int .u32 0),(V.int .u32 0),V.nils,V.nils,V.nils,(V.int .i64 0),(V.int .u32 0),V.nils,(V.int .i64 0),(V.int .i64 0),V.nils] [(0,16,t28)]).bind fun t29 =>
 (G zfS [t29]).bind fun t30 =>
 (M.lift (Ax.ext 0 t30)).bind fun t31 =>
 (M.lift (Ax.ext 1 t30)).bind fun t32 =>
 (M.lift (Ax.nilck t1)).bind fun t36 =>
 (M.lift (Ax.faddr 0 t36)).bind fun t37 =>
 (M.lift (Ax.faddr 0 t37)).bind fun t38 =>
 (M.lift (Ax.faddr 8 t38)).bind fun t39 =>
 (M.lift (Ax.iaddr (some 8) 1 t39 t2)).bind fun t40 =>
 (mload none t40).bind fun t41 =>
 (G zbJ [t0,t41,(V.int .i64 1),t31]).bind fun t43 =>
 M.pure (.ret []))
noncomputable def zft:Fn':=(T zby).getD noF
theorem zoo:T zby = some zft:=by kernel_rfl
theorem zpm (G:Sem') (t0 t1 t2 t3 t4:V):execK G zft.rv zft.body [] [] (params 0 [t0,t1,t2,t3,t4]) = zjV G t0 t1 t2 t3 t4:=by kernel_rfl
def zgj (G:Sem'):List V → M V
 | [t0,t1,t2,t3,t4]=>fin (zjV G t0 t1 t2 t3 t4)
 | _=>M.fail
theorem zp5 {g:Sem'} (hg:Sims g (sem T)) (args:List V):Sim (zgj g args) (sem T zby args):=by
 unfold zgj
 split
 ·exact zad zoo (Nat.le_of_ble_eq_true (by kernel_rfl)) hg (zpm g _ _ _ _ _)
 ·exact zaa
def zqs (G:Sem') (t0 t1:V):M Res :=
 (mload none t1).bind fun t4 =>
 (M.lift (Ax.iaddr none 1 t4 t0)).bind fun t6 =>
 (mload none t6).bind fun t7 =>
 (M.lift (Ax.cint .i64 t7)).bind fun t8 =>
 (M.lift (Ax.bin .shl t8 (V.int .u64 8))).bind fun t9 =>
 (mload none t1).bind fun t10 =>
 (M.lift (Ax.bin .add t0 (V.int .i64 1))).bind fun t12 =>
 (M.lift (Ax.iaddr none 1 t10 t12)).bind fun t13 =>
 (mload none t13).bind fun t14 =>
 (M.lift (Ax.cint .i64 t14)).bind fun t15 =>
 (M.lift (Ax.bin .or t9 t15)).bind fun t16 =>
 M.pure (.ret [t16])
noncomputable def zki:Fn':=(T zeg).getD noF
theorem zwh:T zeg = some zki:=by kernel_rfl
theorem zxs (G:Sem') (t0 t1:V):execK G zki.rv zki.body [] [] (params 0 [t0,t1]) = zqs G t0 t1:=by kernel_rfl
def zlS (G:Sem'):List V → M V
 | [t0,t1]=>fin (zqs G t0 t1)
 | _=>M.fail
theorem zyj {g:Sem'} (hg:Sims g (sem T)) (args:List V):Sim (zlS g args) (sem T zeg args):=by
 unfold zlS
 split
 ·exact zad zwh (Nat.le_of_ble_eq_true (by kernel_rfl)) hg (zxs g _ _)
 ·exact zaa
def zsK (G:Sem') (t0:V):M Res :=
 (M.lift (eqr .sl false t0 V.nils)).bind fun t4 =>
 M.ite t4
 (M.pure (.ret [V.nils]))
 ((mslit zaw 0 [(V.int .u8 0)] []).bind fun t5 =>
 (mappend zaw 1 1 t5 t0).bind fun t7 =>
 M.pure (.ret [t7]))
noncomputable def zlI:Fn':=(T zaN).getD noF
theorem zyc:T zaN = some zlI:=by kernel_rfl
theorem zyP (G:Sem') (t0:V):execK G zlI.rv zlI.body [] [] (params 0 [t0]) = zsK G t0:=by kernel_rfl
def znB (G:Sem'):List V → M V
 | [t0]=>fin (zsK G t0)
 | _=>M.fail
theorem zz5 {g:Sem'} (hg:Sims g (sem T)) (args:List V):Sim (znB g args) (sem T zaN args):=by
 unfold znB
 split
 ·exact zad zyc (Nat.le_of_ble_eq_true (by kernel_rfl)) hg (zyP g _)
 ·exact zaa
def zxf (G:Sem') (t0:V):M Res :=
 (mbox zbU t0).bind fun t1 =>
 (M.lift (Ax.faddr 0 t1)).bind fun t6 =>
 (mload none t6).bind fun t7 =>
 (G zj8 [t7]).bind fun t8 =>
 (M.lift (Ax.ext 0 t8)).bind fun t9 =>
 (M.lift (Ax.ext 1 t8)).bind fun t10 =>
 (mbox zqk (V.agg [(V.int .i64 0),(V.int .i64 0),(V.int .i64 0),(V.int .i64 0),(V.int .i64 0),(V.int .i64 0),(V.int .i64 0)])).bind fun t3 =>
 (mstore 7 t3 t9).bind fun _ =>
 (M.lift (Ax.un .not t10)).bind fun t12 =>
 (guarded [(0,t12)] (some (0,false)) (M.lift (Ax.faddr 1 t1))).bind fun t14 =>
 (guarded [(0,t12)] (some (0,false)) (mload none t14)).bind fun t15 =>
 (guarded [(0,t12)] (some (0,false)) (M.lift (Ax.faddr 0 t3))).bind fun t16 =>
 (guarded [(0,t12)] (some (0,false)) (mload none t16)).bind fun t17 =>
 (guarded [(0,t12)] (some (0,false)) (G zb1 [t15,t17])).bind fun t18 =>
 (guarded [(0,t12)] (some (0,false)) (M.lift (Ax.un .not t18))).bind fun t19 =>
 (M.lift (Ax.pick t12 (V.bool true) t19)).bind fun t20 =>
 (guarded [(0,t20)] (some (0,false)) (M.lift (Ax.faddr 2 t1))).bind fun t22 =>
 (guarded [(0,t20)] (some (0,false)) (mload none t22)).bind fun t23 =>
 (guarded [(0,t20)] (some (0,false)) (M.lift (Ax.faddr 1 t3))).bind fun t24 =>
 (guarded [(0,t20)] (some (0,false)) (mload none t24)).bind fun t25 =>
 (guarded [(0,t20)] (some (0,false)) (G zb1 [t23,t25])).bind fun t26 =>
 (guarded [(0,t20)] (some (0,false)) (M.lift (Ax.un .not t26))).bind fun t27 =>
 (M.lift (Ax.pick t20 (V.bool true) t27)).bind fun t28 =>
 (guarded [(0,t28)] (some (0,false)) (M.lift (Ax.faddr 3 t1))).bind fun t30 =>
 (guarded [(0,t28)] (some (0,false)) (mload none t30)).bind fun t31 =>
 (guarded [(0,t28)] (some (0,false)) (M.lift (Ax.faddr 2 t3))).bind fun t32 =>
 (guarded [(0,t28)] (some (0,false)) (mload none t32)).bind fun t33 =>
 (guarded [(0,t28)] (some (0,false)) (G zb1 [t31,t33])).bind fun t34 =>
 (guarded [(0,t28)] (some (0,false)) (M.lift (Ax.un .not t34))).bind fun t35 =>
 (M.lift (Ax.pick t28 (V.bool true) t35)).bind fun t36 =>
 (guarded [(0,t36)] (some (0,false)) (M.lift (Ax.faddr 4 t1))).bind fun t38 =>
 (guarded [(0,t36)] (some (0,false)) (mload none t38)).bind fun t39 =>
 (guarded [(0,t36)] (some (0,false)) (M.lift (Ax.faddr 3 t3))).bind fun t40 =>
 (guarded [(0,t36)] (some (0,false)) (mload none t40)).bind fun t41 =>
 (guarded [(0,t36)] (some (0,false)) (G zb1 [t39,t41])).bind fun t42 =>
 (guarded [(0,t36)] (some (0,false)) (M.lift (Ax.un .not t42))).bind fun t43 =>
 (M.lift (Ax.pick t36 (V.bool true) t43)).bind fun t44 =>
 (guarded [(0,t44)] (some (0,false)) (M.lift (Ax.faddr 5 t1))).bind fun t46 =>
 (guarded [(0,t44)] (some (0,false)) (mload none t46)).bind fun t47 =>
 (guarded [(0,t44)] (some (0,false)) (M.lift (Ax.faddr 4 t3))).bind fun t48 =>
 (guarded [(0,t44)] (some (0,false)) (mload none t48)).bind fun t49 =>
 (guarded [(0,t44)] (some (0,false)) (G zb1 [t47,t49])).bind fun t50 =>
 (guarded [(0,t44)] (some (0,false)) (M.lift (Ax.un .not t50))).bind fun t51 =>
 (M.lift (Ax.pick t44 (V.bool true) t51)).bind fun t52 =>
 (guarded [(0,t52)] (some (0,false)) (M.lift (Ax.faddr 6 t1))).bind fun t54 =>
 (guarded [(0,t52)] (some (0,false)) (mload none t54)).bind fun t55 =>
 (guarded [(0,t52)] (some (0,false)) (M.lift (vlen t55))).bind fun t56 =>
 (guarded [(0,t52)] (some (0,false)) (M.lift (Ax.faddr 5 t3))).bind fun t57 =>
 (guarded [(0,t52)] (some (0,false)) (mload none t57)).bind fun t58 =>
 (guarded [(0,t52)] (some (0,false)) (M.lift (Ax.bin .lss t56 t58))).bind fun t59 =>
 (M.lift (Ax.pick t52 (V.bool true) t59)).bind fun t60 =>
 (guarded [(0,t60)] (some (0,false)) (M.lift (Ax.faddr 6 t1))).bind fun t62 =>
 (guarded [(0,t60)] (some (0,false)) (mload none t62)).bind fun t63 =>
 (guarded [(0,t60)] (some (0,false)) (M.lift (vlen t63))).bind fun t64 =>
 (guarded [(0,t60)] (some (0,false)) (M.lift (Ax.faddr 6 t3))).bind fun t65 =>
 (guarded [(0,t60)] (some (0,false)) (mload none t65)).bind fun t66 =>
 (guarded [(0,t60)] (some (0,false)) (M.lift (Ax.bin .gtr t64 t66))).bind fun t67 =>
 (M.lift (Ax.pick t60 (V.bool true) t67)).bind fun t68 =>
 M.ite t68
 (M.pure (.ret [(V.bool false)]))
 ((M.lift (Ax.faddr 0 t1)).bind fun t69 =>
 (mload none t69).bind fun t70 =>
 M.blk 0 (
 (M.lift (Ax.bin .eql t70 (V.int .i64 17))).bind fun t72 =>
 M.ite t72
 ((mload (some 7) t1).bind fun t73 =>
 (G zef [t73]).bind fun t74 =>
 M.pure (.ret [t74]))
 ((M.lift (Ax.bin .eql t70 (V.int .i64 18))).bind fun t76 =>
 M.ite t76
 ((M.lift (Ax.faddr 4 t1)).bind fun t77 =>
 (mload none t77).bind fun t78 =>
 (M.lift (Ax.bin .geq t78 (V.int .i64 1))).bind fun t79 =>
 M.pure (.ret [t79]))
 ((M.lift (Ax.bin .eql t70 (V.int .i64 19))).bind fun t81 =>
 M.ite t81
 ((M.lift (Ax.faddr 4 t1)).bind fun t82 =>
 (mload none t82).bind fun t83 =>
 (M.lift (Ax.faddr 2 t1)).bind fun t84 =>
 (mload none t84).bind fun t85 =>
 (M.lift (Ax.bin .shr t83 t85)).bind fun t86 =>
 (M.lift (Ax.bin .and t86 (V.int .i64 1))).bind fun t87 =>
 (M.lift (Ax.bin .eql t87 (V.int .i64 1))).bind fun t88 =>
 M.pure (.ret [t88]))
 ((M.lift (Ax.bin .eql t70 (V.int .i64 20))).bind fun t90 =>
 M.ite t90
 ((M.lift (Ax.faddr 4 t1)).bind fun t91 =>
 (mload none t91).bind fun t92 =>
 (M.lift (Ax.faddr 2 t1)).bind fun t93 =>
 (mload none t93).bind fun t94 =>
 (M.lift (Ax.bin .shr t92 t94)).bind fun t95 =>
 (M.lift (Ax.bin .and t95 (V.int .i64 1))).bind fun t96 =>
 (M.lift (Ax.bin .eql t96 (V.int .i64 0))).bind fun t97 =>
 M.pure (.ret [t97]))
 (M.pure (.nrm [])))))) fun _ =>
 M.pure (.ret [(V.bool true)]))
noncomputable def zoO:Fn':=(T zfB).getD noF
theorem zBc:T zfB = some zoO:=by kernel_rfl
theorem zCt (G:Sem') (t0:V):execK G zoO.rv zoO.body [] [] (params 0 [t0]) = zxf G t0:=by kernel_rfl
def zrD (G:Sem'):List V → M V
 | [t0]=>fin (zxf G t0)
 | _=>M.fail
theorem zDf {g:Sem'} (hg:Sims g (sem T)) (args:List V):Sim (zrD g args) (sem T zfB args):=by
 unfold zrD
 split
 ·exact zad zBc (Nat.le_of_ble_eq_true (by kernel_rfl)) hg (zCt g _)
 ·exact zaa
def zo6 (G:Sem') (t0 t1 t2:V):M Res :=
 (mbox zbU t2).bind fun t5 =>
 (mload (some 7) t5).bind fun t9 =>
 (G zfY [t9]).bind fun t10 =>
 (M.lift (Ax.ext 0 t10)).bind fun t11 =>
 (M.lift (Ax.ext 1 t10)).bind fun t12 =>
 (M.lift (Ax.bin .eql t12 (V.int .i64 0))).bind fun t14 =>
 M.join (M.ite t14
 ((G zbJ [t0,t1,(V.int .i64 2),t11]).bind fun t18 =>
 M.pure (.nrm []))
 (M.pure (.nrm []))) fun _ =>
 M.pure (.ret [])
noncomputable def zjj:Fn':=(T zbg).getD noF
theorem zvi:T zbg = some zjj:=by kernel_rfl
theorem zvX (G:Sem') (t0 t1 t2:V):execK G zjj.rv zjj.body [] [] (params 0 [t0,t1,t2]) = zo6 G t0 t1 t2:=by kernel_rfl
def zkM (G:Sem'):List V → M V
 | [t0,t1,t2]=>fin (zo6 G t0 t1 t2)
 | _=>M.fail
theorem zww {g:Sem'} (hg:Sims g (sem T)) (args:List V):Sim (zkM g args) (sem T zbg args):=by
 unfold zkM
 split
 ·exact zad zvi (Nat.le_of_ble_eq_true (by kernel_rfl)) hg (zvX g _ _ _)
 ·exact zaa
def zw9 (G:Sem') (t0 t1 t2:V):M Res :=
 (mbox zbp t0).bind fun t3 =>
 (mbox zbp (V.agg [(V.bool false),(V.bool false),(V.bool false),(V.bool false),(V.bool false),(V.bool false),(V.bool false),(V.bool false),(V.int .i64 0),(V.int .i64 0),(V.int .i64 0),(V.int .i64 0),(V.int .i64 0),(V.int .i64 0),(V.int .i64 0),(V.int .i64 0),(V.int .i64 0),(V.bool false),(V.int .i64 0),(V.int .i64 0),(V.int .i64 0),(V.int .i64 0),(V.int .i64 0),(V.int .i64 0),(V.int .i64 0),(V.int .i64 0),(V.int .i64 0),(V.int .i64 0),(V.int .i64 0),(V.int .i64 0),(V.int .i64 0),(V.int .i64 0),(V.int .i64 0),(V.int .i64 0),(V.int .i64 0),(V.int .i64 0),(V.int .i64 0),(V.int .i64 0),(V.bool false)])).bind fun t6 =>
 M.blk 0 (
 (mload (some 39) t3).bind fun t14 =>
 (G zer [t14]).bind fun t15 =>
 (M.lift (Ax.un .not t15)).bind fun t16 =>
 M.ite t16
 ((mload (some 39) t3).bind fun t17 =>
 (mstore 39 t6 t17).bind fun _ =>
 (mload (some 39) t6).bind fun r0 =>
 M.pure (.ret [r0,(V.int .i64 0),(V.int .i64 1)]))
 ((M.lift (Ax.faddr 38 t3)).bind fun t19 =>
 (mload none t19).bind fun t20 =>
 M.ite t20
 ((mload (some 39) t3).bind fun t21 =>
 (mstore 39 t6 t21).bind fun _ =>
 (mload (some 39) t6).bind fun r0 =>
 M.pure (.ret [r0,(V.int .i64 0),(V.int .i64 12)]))
 (M.pure (.nrm [])))) fun _ =>
 (M.lift (Ax.faddr 0 t3)).bind fun t23 =>
 (mload (some 16) t23).bind fun t24 =>
 (G zfN [t24,t1]).bind fun t26 =>
 (M.lift (Ax.ext 0 t26)).bind fun t27 =>
 (M.lift (Ax.ext 1 t26)).bind fun t28 =>
 (M.lift (Ax.ext 2 t26)).bind fun t29 =>
 (mbox zbO (V.agg [(V.bool false),(V.bool false),(V.bool false),(V.bool false),(V.bool false),(V.bool false),(V.bool false),(V.bool false),(V.int .i64 0),(V.int .i64 0),(V.int .i64 0),(V.int .i64 0),(V.int .i64 0),(V.int .i64 0),(V.int .i64 0),(V.int .i64 0)])).bind fun t9 =>
 (mstore 16 t9 t27).bind fun _ =>
 (M.lift (Ax.bin .neq t29 (V.int .i64 0))).bind fun t31 =>
 M.ite t31
 ((mload (some 39) t3).bind fun t32 =>
 (mstore 39 t6 t32).bind fun _ =>
 (mload (some 39) t6).bind fun r0 =>
 M.pure (.ret [r0,(V.int .i64 0),t29]))
 ((M.lift (Ax.faddr 16 t3)).bind fun t35 =>
 (mload (some 6) t35).bind fun t36 =>
 (G zfW [t36,t28]).bind fun t38 =>
 (M.lift (Ax.ext 0 t38)).bind fun t39 =>
 (M.lift (Ax.ext 1 t38)).bind fun t40 =>
 (mbox zbA (V.agg [(V.int .i64 0),(V.bool false),(V.int .i64 0),(V.int .i64 0),(V.int .i64 0),(V.int .i64 0)])).bind fun t12 =>
 (mstore 6 t12 t39).bind fun _ =>
 (M.lift (Ax.bin .neq t40 (V.int .i64 0))).bind fun t42 =>
 M.ite t42
 ((mload (some 39) t3).bind fun t43 =>
 (mstore 39 t6 t43).bind fun _ =>
 (mload (some 39) t6).bind fun r0 =>
 M.pure (.ret [r0,(V.int .i64 0),t40]))
 ((mload (some 16) t9).bind fun t45 =>
 (mload (some 6) t12).bind fun t46 =>
 (M.lift (Ax.faddr 0 t3)).bind fun t47 =>
 M.getH.bind fun h0 =>
 (mstore 16 t47 t45).bind fun _ =>
 M.getH.bind fun h0' =>
 (M.unch t12 h0 h0').bind fun _ =>
 (M.lift (Ax.faddr 16 t3)).bind fun t48 =>
 (mstore 6 t48 t46).bind fun _ =>
 (M.lift (Ax.faddr 0 t12)).bind fun t52 =>
 (mload none t52).bind fun t53 =>
 (M.lift (Ax.faddr 22 t3)).bind fun t54 =>
 (M.lift (Ax.iaddr (some 8) 1 t54 t28)).bind fun t55 =>
 (M.lift (Ax.faddr 30 t3)).bind fun t56 =>
 M.getH.bind fun h1 =>
 (mstore 1 t55 t2).bind fun _ =>
 M.getH.bind fun h1' =>
 (M.unch t52 h1 h1').bind fun _ =>
 (M.lift (Ax.iaddr (some 8) 1 t56 t28)).bind fun t57 =>
 (mstore 1 t57 t53).bind fun _ =>
 (mload (some 39) t3).bind fun t58 =>
 (mstore 39 t6 t58).bind fun _ =>
 (mload (some 39) t6).bind fun r0 =>
 M.pure (.ret [r0,t28,(V.int .i64 0)])))
noncomputable def zoJ:Fn':=(T zg1).getD noF
theorem zA7:T zg1 = some zoJ:=by kernel_rfl
theorem zCo (G:Sem') (t0 t1 t2:V):execK G zoJ.rv zoJ.body [] [] (params 0 [t0,t1,t2]) = zw9 G t0 t1 t2:=by kernel_rfl
def zry (G:Sem'):List V → M V
 | [t0,t1,t2]=>fin (zw9 G t0 t1 t2)
 | _=>M.fail
theorem zDa {g:Sem'} (hg:Sims g (sem T)) (args:List V):Sim (zry g args) (sem T zg1 args):=by
 unfold zry
 split
 ·exact zad zA7 (Nat.le_of_ble_eq_true (by kernel_rfl)) hg (zCo g _ _ _)
 ·exact zaa
def zsw (G:Sem') (t0:V):M Res :=
 (M.lift (Ax.nilck t0)).bind fun t4 =>
 (M.lift (Ax.faddr 0 t4)).bind fun t5 =>
 (M.lift (Ax.faddr 16 t5)).bind fun t6 =>
 (mload (some 6) t6).bind fun t7 =>
 (G zdp [t7]).bind fun t8 =>
 M.pure (.ret [t8])
noncomputable def zlC:Fn':=(T zc4).getD noF
theorem zx6:T zc4 = some zlC:=by kernel_rfl
theorem zyJ (G:Sem') (t0:V):execK G zlC.rv zlC.body [] [] (params 0 [t0]) = zsw G t0:=by kernel_rfl
def znv (G:Sem'):List V → M V
 | [t0]=>fin (zsw G t0)
 | _=>M.fail
theorem zzZ {g:Sem'} (hg:Sims g (sem T)) (args:List V):Sim (znv g args) (sem T zc4 args):=by
 unfold znv
 split
 ·exact zad zx6 (Nat.le_of_ble_eq_true (by kernel_rfl)) hg (zyJ g _)
 ·exact zaa
def zt1 (G:Sem') (t15 t2 t0 t1 t7:V) (L:List V):M Res :=
 (M.lift (Ax.bin .lss (L.getD 0 .undef) (V.int .i64 8))).bind fun t17 =>
 M.ite t17
 (M.blk 1 (
 (M.lift (Ax.index 8 1 none t15 (L.getD 0 .undef))).bind fun t19 =>
 (guarded [(0,t19)] (some (0,true)) (M.pure (L.getD 0 .undef))).bind fun t22 =>
 (guarded [(0,t19)] (some (0,true)) (M.pure t2)).bind fun t23 =>
 (guarded [(0,t19)] (some (0,true)) (M.lift (Ax.bin .neq t22 t23))).bind fun t24 =>
 (M.lift (Ax.pick t19 t24 (V.bool false))).bind fun t25 =>
 M.join (M.ite t25
 ((M.lift (Ax.nilck t1)).bind fun t29 =>
 (M.lift (Ax.faddr 0 t29)).bind fun t30 =>
 (M.lift (Ax.faddr 0 t30)).bind fun t31 =>
 (M.lift (Ax.faddr 8 t31)).bind fun t32 =>
 (M.lift (Ax.iaddr (some 8) 1 t32 (L.getD 0 .undef))).bind fun t33 =>
 (mload none t33).bind fun t34 =>
 (mload (some 7) t7).bind fun t35 =>
 (G zbg [t0,t34,t35]).bind fun t36 =>
 M.pure (.nrm []))
 (M.pure (.nrm []))) fun _ =>
 M.pure (.nrm [])) fun _ =>
 (M.lift (Ax.bin .add (L.getD 0 .undef) (V.int .i64 1))).bind fun t37 =>
 M.pure (.nrm [t37]))
 (M.pure (.ex 0 []))
def zpb (G:Sem') (t0 t1 t2 t3:V):M Res :=
 (mbox zbU t3).bind fun t7 =>
 (M.lift (Ax.nilck t1)).bind fun t11 =>
 (M.lift (Ax.faddr 0 t11)).bind fun t12 =>
 (M.lift (Ax.faddr 0 t12)).bind fun t13 =>
 (M.lift (Ax.faddr 0 t13)).bind fun t14 =>
 (mload (some 8) t14).bind fun t15 =>
 M.blk 0 (
 M.iter (zt1 G t15 t2 t0 t1 t7) [(V.int .i64 0)]) fun _ =>
 M.pure (.ret [])
noncomputable def zjl:Fn':=(T zci).getD noF
theorem zvk:T zci = some zjl:=by kernel_rfl
theorem zvZ (G:Sem') (t0 t1 t2 t3:V):execK G zjl.rv zjl.body [] [] (params 0 [t0,t1,t2,t3]) = zpb G t0 t1 t2 t3:=by kernel_rfl
def zkO (G:Sem'):List V → M V
 | [t0,t1,t2,t3]=>fin (zpb G t0 t1 t2 t3)
 | _=>M.fail
theorem zwy {g:Sem'} (hg:Sims g (sem T)) (args:List V):Sim (zkO g args) (sem T zci args):=by
 unfold zkO
 split
 ·exact zad zvk (Nat.le_of_ble_eq_true (by kernel_rfl)) hg (zvZ g _ _ _ _)
 ·exact zaa
def zu0 (G:Sem') (t0 t1 t2:V):M Res :=
 (mbox zbp t0).bind fun t3 =>
 (mbox zbp (V.agg [(V.bool false),(V.bool false),(V.bool false),(V.bool false),(V.bool false),(V.bool false),(V.bool false),(V.bool false),(V.int .i64 0),(V.int .i64 0),(V.int .i64 0),(V.int .i64 0),(V.int .i64 0),(V.int .i64 0),(V.int .i64 0),(V.int .i64 0),(V.int .i64 0),(V.bool false),(V.int .i64 0),(V.int .i64 0),(V.int .i64 0),(V.int .i64 0),(V.int .i64 0),(V.int .i64 0),(V.int .i64 0),(V.int .i64 0),(V.int .i64 0),(V.int .i64 0),(V.int .i64 0),(V.int .i64 0),(V.int .i64 0),(V.int .i64 0),(V.int .i64 0),(V.int .i64 0),(V.int .i64 0),(V.int .i64 0),(V.int .i64 0),(V.int .i64 0),(V.bool false)])).bind fun t6 =>
 (mload (some 39) t3).bind fun t11 =>
 (G zdR [t11,t1]).bind fun t13 =>
 (M.lift (Ax.ext 0 t13)).bind fun t14 =>
 (M.lift (Ax.ext 1 t13)).bind fun t15 =>
 (M.lift (Ax.bin .neq t15 (V.int .i64 0))).bind fun t17 =>
 M.ite t17
 ((mload (some 39) t3).bind fun t18 =>
 (mstore 39 t6 t18).bind fun _ =>
 (mload (some 39) t6).bind fun r0 =>
 M.pure (.ret [r0,t15]))
 ((mload (some 39) t3).bind fun t20 =>
 (G zc3 [t20,t14,t2]).bind fun t23 =>
 (mstore 39 t6 t23).bind fun _ =>
 (mload (some 39) t6).bind fun r0 =>
 M.pure (.ret [r0,(V.int .i64 0)]))
noncomputable def zm0:Fn':=(T zfT).getD noF
theorem zzC:T zfT = some zm0:=by kernel_rfl
theorem zAC (G:Sem') (t0 t1 t2:V):execK G zm0.rv zm0.body [] [] (params 0 [t0,t1,t2]) = zu0 G t0 t1 t2:=by kernel_rfl
def zpG (G:Sem'):List V → M V
 | [t0,t1,t2]=>fin (zu0 G t0 t1 t2)
 | _=>M.fail
theorem zBB {g:Sem'} (hg:Sims g (sem T)) (args:List V):Sim (zpG g args) (sem T zfT args):=by
 unfold zpG
 split
 ·exact zad zzC (Nat.le_of_ble_eq_true (by kernel_rfl)) hg (zAC g _ _ _)
 ·exact zaa
def zw8 (G:Sem') (t0 t1 t2 t3:V):M Res :=
 (mbox zbp t0).bind fun t4 =>
 (mbox zbp (V.agg [(V.bool false),(V.bool false),(V.bool false),(V.bool false),(V.bool false),(V.bool false),(V.bool false),(V.bool false),(V.int .i64 0),(V.int .i64 0),(V.int .i64 0),(V.int .i64 0),(V.int .i64 0),(V.int .i64 0),(V.int .i64 0),(V.int .i64 0),(V.int .i64 0),(V.bool false),(V.int .i64 0),(V.int .i64 0),(V.int .i64 0),(V.int .i64 0),(V.int .i64 0),(V.int .i64 0),(V.int .i64 0),(V.int .i64 0),(V.int .i64 0),(V.int .i64 0),(V.int .i64 0),(V.int .i64 0),(V.int .i64 0),(V.int .i64 0),(V.int .i64 0),(V.int .i64 0),(V.int .i64 0),(V.int .i64 0),(V.int .i64 0),(V.int .i64 0),(V.bool false)])).bind fun t8 =>
 (mload (some 39) t4).bind fun t17 =>
 (G zdR [t17,t1]).bind fun t19 =>
 (M.lift (Ax.ext 0 t19)).bind fun t20 =>
 (M.lift (Ax.ext 1 t19)).bind fun t21 =>
 (M.lift (Ax.bin .neq t21 (V.int .i64 0))).bind fun t23 =>
 M.ite t23
 ((mload (some 39) t4).bind fun t24 =>
 (mstore 39 t8 t24).bind fun _ =>
 (mload (some 39) t8).bind fun r0 =>
 M.pure (.ret [r0,t21]))
 ((M.lift (Ax.faddr 0 t4)).bind fun t27 =>
 (mload (some 16) t27).bind fun t28 =>
 (G zeU [t28]).bind fun t29 =>
 (M.lift (Ax.ext 0 t29)).bind fun t30 =>
 (M.lift (Ax.ext 1 t29)).bind fun t31 =>
 (M.lift (Ax.bin .neq t30 t20)).bind fun t34 =>
 M.ite t34
 ((mload (some 39) t4).bind fun t35 =>
 (mstore 39 t8 t35).bind fun _ =>
 (mload (some 39) t8).bind fun r0 =>
 M.pure (.ret [r0,(V.int .i64 13)]))
 ((M.lift (Ax.faddr 0 t4)).bind fun t37 =>
 (mload (some 16) t37).bind fun t38 =>
 (G zeG [t38,t2]).bind fun t40 =>
 (M.lift (Ax.ext 0 t40)).bind fun t41 =>
 (M.lift (Ax.ext 1 t40)).bind fun t42 =>
 (mbox zbO (V.agg [(V.bool false),(V.bool false),(V.bool false),(V.bool false),(V.bool false),(V.bool false),(V.bool false),(V.bool false),(V.int .i64 0),(V.int .i64 0),(V.int .i64 0),(V.int .i64 0),(V.int .i64 0),(V.int .i64 0),(V.int .i64 0),(V.int .i64 0)])).bind fun t14 =>
 (mstore 16 t14 t41).bind fun _ =>
 (M.lift (Ax.bin .neq t42 (V.int .i64 0))).bind fun t44 =>
 M.ite t44
 ((mload (some 39) t4).bind fun t45 =>
 (mstore 39 t8 t45).bind fun _ =>
 (mload (some 39) t8).bind fun r0 =>
 M.pure (.ret [r0,t42]))
 ((mload (some 39) t4).bind fun t47 =>
 (G zc3 [t47,t2,t3]).bind fun t50 =>
 (mstore 39 t8 t50).bind fun _ =>
 (mload (some 39) t8).bind fun r0 =>
 M.pure (.ret [r0,(V.int .i64 0)]))))
noncomputable def zoI:Fn':=(T zg0).getD noF
theorem zA6:T zg0 = some zoI:=by kernel_rfl
theorem zCn (G:Sem') (t0 t1 t2 t3:V):execK G zoI.rv zoI.body [] [] (params 0 [t0,t1,t2,t3]) = zw8 G t0 t1 t2 t3:=by kernel_rfl
def zrx (G:Sem'):List V → M V
 | [t0,t1,t2,t3]=>fin (zw8 G t0 t1 t2 t3)
 | _=>M.fail
theorem zC9 {g:Sem'} (hg:Sims g (sem T)) (args:List V):Sim (zrx g args) (sem T zg0 args):=by
 unfold zrx
 split
 ·exact zad zA6 (Nat.le_of_ble_eq_true (by kernel_rfl)) hg (zCn g _ _ _ _)
 ·exact zaa
def znN (G:Sem') (t0 t1 t2:V):M Res :=
 (mbox zbU t2).bind fun t5 =>
 (M.lift (Ax.faddr 6 t5)).bind fun t11 =>
 (mload none t11).bind fun t12 =>
 (M.lift (Ax.iaddr none 1 t12 (V.int .i64 0))).bind fun t13 =>
 (mload none t13).bind fun t14 =>
 (M.lift (Ax.cint .u32 t14)).bind fun t15 =>
 (M.lift (Ax.bin .shl t15 (V.int .u64 24))).bind fun t16 =>
 (M.lift (Ax.faddr 6 t5)).bind fun t17 =>
 (mload none t17).bind fun t18 =>
 (M.lift (Ax.iaddr none 1 t18 (V.int .i64 1))).bind fun t19 =>
 (mload none t19).bind fun t20 =>
 (M.lift (Ax.cint .u32 t20)).bind fun t21 =>
 (M.lift (Ax.bin .shl t21 (V.int .u64 16))).bind fun t22 =>
 (M.lift (Ax.bin .or t16 t22)).bind fun t23 =>
 (M.lift (Ax.faddr 6 t5)).bind fun t24 =>
 (mload none t24).bind fun t25 =>
 (M.lift (Ax.iaddr none 1 t25 (V.int .i64 2))).bind fun t26 =>
 (mload none t26).bind fun t27 =>
 (M.lift (Ax.cint .u32 t27)).bind fun t28 =>
 (M.lift (Ax.bin .shl t28 (V.int .u64 8))).bind fun t29 =>
 (M.lift (Ax.bin .or t23 t29)).bind fun t30 =>
 (M.lift (Ax.faddr 6 t5)).bind fun t31 =>
 (mload none t31).bind fun t32 =>
 (M.lift (Ax.iaddr none 1 t32 (V.int .i64 3))).bind fun t33 =>
 (mload none t33).bind fun t34 =>
 (M.lift (Ax.cint .u32 t34)).bind fun t35 =>
 (M.lift (Ax.bin .or t30 t35)).bind fun t36 =>
 (G zbR [t0,t1,t36]).bind fun t41 =>
 (M.lift (Ax.ext 0 t41)).bind fun t42 =>
 (M.lift (Ax.ext 1 t41)).bind fun t43 =>
 (guarded [(0,t43)] (some (0,true)) (M.pure t42)).bind fun t46 =>
 (guarded [(0,t43)] (some (0,true)) (M.lift (Ax.faddr 4 t5))).bind fun t47 =>
 (guarded [(0,t43)] (some (0,true)) (mload none t47)).bind fun t48 =>
 (guarded [(0,t43)] (some (0,true)) (M.lift (Ax.bin .neq t46 t48))).bind fun t49 =>
 (M.lift (Ax.pick t43 t49 (V.bool false))).bind fun t50 =>
 M.ite t50
 (M.pure (.ret [(V.int .i64 7)]))
 ((M.lift (Ax.faddr 4 t5)).bind fun t53 =>
 (mload none t53).bind fun t54 =>
 (M.lift (Ax.nilck t0)).bind fun t55 =>
 (M.lift (Ax.faddr 39 t55)).bind fun t56 =>
 (M.lift (Ax.iaddr (some 8) 33 t56 t1)).bind fun t57 =>
 (M.lift (Ax.iaddr (some 3) 11 t57 t54)).bind fun t58 =>
 (M.lift (Ax.nilck t58)).bind fun t60 =>
 (M.lift (Ax.faddr 0 t60)).bind fun t61 =>
 (mload none t61).bind fun t62 =>
 (M.lift (Ax.un .not t62)).bind fun t63 =>
 (guarded [(0,t63)] (some (0,false)) (M.pure t58)).bind fun t65 =>
 (guarded [(0,t63)] (some (0,false)) (M.lift (Ax.nilck t65))).bind fun t66 =>
 (guarded [(0,t63)] (some (0,false)) (M.lift (Ax.faddr 1 t66))).bind fun t67 =>
 (guarded [(0,t63)] (some (0,false)) (mload none t67)).bind fun t68 =>
 (guarded [(0,t63)] (some (0,false)) (M.pure t36)).bind fun t69 =>
 (guarded [(0,t63)] (some (0,false)) (M.lift (Ax.bin .neq t68 t69))).bind fun t70 =>
 (M.lift (Ax.pick t63 (V.bool true) t70)).bind fun t71 =>
 M.join (M.ite t71
 ((M.lift (Ax.build [(V.bool false),(V.int .u32 0),(V.int .i64 0),(V.int .i64 0),(V.int .i64 0),V.nils,(V.int .i64 0),V.nils,V.nils,(V.int .u32 0),V.nils] [(0,1,(V.bool true)),(1,1,t36)])).bind fun t74 =>
 (M.lift (Ax.nilck t58)).bind fun t75 =>
 (mstore 11 t75 t74).bind fun _ =>
 M.pure (.nrm []))
 (M.pure (.nrm []))) fun _ =>
 (M.lift (Ax.faddr 5 t5)).bind fun t77 =>
 (mload none t77).bind fun t78 =>
 (M.lift (Ax.nilck t58)).bind fun t79 =>
 (M.lift (Ax.faddr 2 t79)).bind fun t80 =>
 (mstore 1 t80 t78).bind fun _ =>
 M.pure (.ret [(V.int .i64 0)]))
noncomputable def zh9:Fn':=(T zdb).getD noF
theorem zth:T zdb = some zh9:=by kernel_rfl
theorem zub (G:Sem') (t0 t1 t2:V):execK G zh9.rv zh9.body [] [] (params 0 [t0,t1,t2]) = znN G t0 t1 t2:=by kernel_rfl
def zjB (G:Sem'):List V → M V
 | [t0,t1,t2]=>fin (znN G t0 t1 t2)
 | _=>M.fail
theorem zvx {g:Sem'} (hg:Sims g (sem T)) (args:List V):Sim (zjB g args) (sem T zdb args):=by
 unfold zjB
 split
 ·exact zad zth (Nat.le_of_ble_eq_true (by kernel_rfl)) hg (zub g _ _ _)
 ·exact zaa
def znQ (G:Sem') (t0 t1 t2 t3:V):M Res :=
 (mbox zbU t3).bind fun t7 =>
 M.blk 0 (
 (M.lift (Ax.faddr 2 t7)).bind fun t14 =>
 (mload none t14).bind fun t15 =>
 (M.lift (Ax.nilck t1)).bind fun t16 =>
 (M.lift (Ax.faddr 0 t16)).bind fun t17 =>
 (M.lift (Ax.faddr 0 t17)).bind fun t18 =>
 (M.lift (Ax.faddr 0 t18)).bind fun t19 =>
 (M.lift (Ax.iaddr (some 8) 1 t19 t15)).bind fun t20 =>
 (mload none t20).bind fun t21 =>
 (M.lift (Ax.un .not t21)).bind fun t22 =>
 M.ite t22
 (M.pure (.ret [(V.int .i64 6)]))
 ((M.lift (Ax.faddr 2 t7)).bind fun t24 =>
 (mload none t24).bind fun t25 =>
 (M.lift (Ax.bin .eql t25 t2)).bind fun t27 =>
 M.ite t27
 (M.pure (.ret [(V.int .i64 1)]))
 (M.pure (.nrm [])))) fun _ =>
 (M.lift (Ax.faddr 2 t7)).bind fun t30 =>
 (mload none t30).bind fun t31 =>
 (M.lift (Ax.nilck t1)).bind fun t32 =>
 (M.lift (Ax.faddr 303 t32)).bind fun t33 =>
 (M.lift (Ax.iaddr (some 8) 8 t33 t2)).bind fun t34 =>
 (M.lift (Ax.iaddr (some 8) 1 t34 t31)).bind fun t35 =>
 (mload none t35).bind fun t36 =>
 (M.lift (eqr .ptr false t36 V.nilp)).bind fun t38 =>
 M.join (M.ite t38
 ((G zdi [t0,t1,t2]).bind fun t43 =>
 (M.lift (Ax.ext 0 t43)).bind fun t44 =>
 (M.lift (Ax.ext 1 t43)).bind fun t45 =>
 (M.lift (Ax.un .not t45)).bind fun t47 =>
 M.ite t47
 (M.pure (.ret [(V.int .i64 5)]))
 ((G zix [t44]).bind fun t49 =>
 (M.lift (Ax.faddr 2 t7)).bind fun t52 =>
 (mload none t52).bind fun t53 =>
 (M.lift (Ax.nilck t1)).bind fun t55 =>
 (M.lift (Ax.faddr 303 t55)).bind fun t56 =>
 (M.lift (Ax.iaddr (some 8) 8 t56 t2)).bind fun t57 =>
 (M.lift (Ax.iaddr (some 8) 1 t57 t53)).bind fun t58 =>
 (mstore 1 t58 t49).bind fun _ =>
 (M.lift (Ax.nilck t1)).bind fun t62 =>
 (M.lift (Ax.faddr 0 t62)).bind fun t63 =>
 (M.lift (Ax.faddr 0 t63)).bind fun t64 =>
 (M.lift (Ax.faddr 8 t64)).bind fun t65 =>
 (M.lift (Ax.iaddr (some 8) 1 t65 t2)).bind fun t66 =>
 (mload none t66).bind fun t67 =>
 (M.lift (Ax.faddr 2 t7)).bind fun t68 =>
 (mload none t68).bind fun t69 =>
 (M.lift (Ax.bin .shr t44 (V.int .u64 24))).bind fun t71 =>
 (M.lift (Ax.cint .u8 t71)).bind fun t72 =>
 (M.lift (Ax.bin .shr t44 (V.int .u64 16))).bind fun t74 =>
 (M.lift (Ax.cint .u8 t74)).bind fun t75 =>
 (M.lift (Ax.bin .shr t44 (V.int .u64 8))).bind fun t77 =>
 (M.lift (Ax.cint .u8 t77)).bind fun t78 =>
 (M.lift (Ax.cint .u8 t44)).bind fun t80 =>
 (mslit zaw 4 [(V.int .u8 0)] [(0,1,t72),(1,1,t75),(2,1,t78),(3,1,t80)]).bind fun t81 =>
 (M.lift (Ax.build [(V.int .i64 0),(V.int .i64 0),(V.int .i64 0),(V.int .i64 0),(V.int .i64 0),(V.int .i64 0),V.nils] [(0,1,(V.int .i64 24)),(2,1,t69),(6,1,t81)])).bind fun t82 =>
 (G zbg [t0,t67,t82]).bind fun t83 =>
 M.pure (.nrm [t49])))
 (M.pure (.nrm [t36]))) fun L1 =>
 (M.lift (Ax.faddr 4 t7)).bind fun t85 =>
 (mload none t85).bind fun t86 =>
 (M.lift (Ax.faddr 5 t7)).bind fun t87 =>
 (mload none t87).bind fun t88 =>
 (G zcJ [(L1.getD 0 .undef),t86,t88]).bind fun t89 =>
 (M.lift (Ax.faddr 2 t7)).bind fun t93 =>
 (mload none t93).bind fun t94 =>
 (G zb8 [t0,t1,t2,t94]).bind fun t95 =>
 M.pure (.ret [(V.int .i64 0)])
noncomputable def zic:Fn':=(T zdc).getD noF
theorem ztk:T zdc = some zic:=by kernel_rfl
theorem zue (G:Sem') (t0 t1 t2 t3:V):execK G zic.rv zic.body [] [] (params 0 [t0,t1,t2,t3]) = znQ G t0 t1 t2 t3:=by kernel_rfl
def zjE (G:Sem'):List V → M V
 | [t0,t1,t2,t3]=>fin (znQ G t0 t1 t2 t3)
 | _=>M.fail
theorem zvA {g:Sem'} (hg:Sims g (sem T)) (args:List V):Sim (zjE g args) (sem T zdc args):=by
 unfold zjE
 split
 ·exact zad ztk (Nat.le_of_ble_eq_true (by kernel_rfl)) hg (zue g _ _ _ _)
 ·exact zaa
def zpa (G:Sem') (t0 t1 t2 t3:V):M Res :=
 (mbox zbU t3).bind fun t7 =>
 M.blk 0 (
 (M.lift (Ax.faddr 2 t7)).bind fun t11 =>
 (mload none t11).bind fun t12 =>
 (M.lift (Ax.nilck t1)).bind fun t13 =>
 (M.lift (Ax.faddr 0 t13)).bind fun t14 =>
 (M.lift (Ax.faddr 0 t14)).bind fun t15 =>
 (M.lift (Ax.faddr 0 t15)).bind fun t16 =>
 (M.lift (Ax.iaddr (some 8) 1 t16 t12)).bind fun t17 =>
 (mload none t17).bind fun t18 =>
 (M.lift (Ax.un .not t18)).bind fun t19 =>
 M.ite t19
 (M.pure (.ret [(V.int .i64 6)]))
 ((M.lift (Ax.faddr 2 t7)).bind fun t21 =>
 (mload none t21).bind fun t22 =>
 (M.lift (Ax.bin .eql t22 t2)).bind fun t24 =>
 M.ite t24
 (M.pure (.ret [(V.int .i64 1)]))
 ((M.lift (Ax.faddr 3 t7)).bind fun t26 =>
 (mload none t26).bind fun t27 =>
 (M.lift (Ax.nilck t1)).bind fun t29 =>
 (M.lift (Ax.faddr 0 t29)).bind fun t30 =>
 (M.lift (Ax.faddr 16 t30)).bind fun t31 =>
 (M.lift (Ax.faddr 0 t31)).bind fun t32 =>
 (mload none t32).bind fun t33 =>
 (M.lift (Ax.bin .neq t27 t33)).bind fun t34 =>
 (guarded [(0,t34)] (some (0,true)) (M.lift (Ax.faddr 3 t7))).bind fun t36 =>
 (guarded [(0,t34)] (some (0,true)) (mload none t36)).bind fun t37 =>
 (guarded [(0,t34)] (some (0,true)) (M.pure t1)).bind fun t38 =>
 M.getH.bind fun h0 =>
 (guarded [(0,t34)] (some (0,true)) (G zc4 [t38])).bind fun t39 =>
 M.getH.bind fun h0' =>
 (M.unch t36 h0 h0').bind fun _ =>
 (guarded [(0,t34)] (some (0,true)) (M.lift (Ax.bin .neq t37 t39))).bind fun t40 =>
 (M.lift (Ax.pick t34 t40 (V.bool false))).bind fun t41 =>
 M.ite t41
 (M.pure (.ret [(V.int .i64 12)]))
 (M.pure (.nrm []))))) fun _ =>
 (M.lift (Ax.faddr 2 t7)).bind fun t44 =>
 (mload none t44).bind fun t45 =>
 (M.lift (Ax.nilck t1)).bind fun t46 =>
 (M.lift (Ax.faddr 0 t46)).bind fun t47 =>
 (M.lift (Ax.faddr 0 t47)).bind fun t48 =>
 (M.lift (Ax.faddr 8 t48)).bind fun t49 =>
 (M.lift (Ax.iaddr (some 8) 1 t49 t45)).bind fun t50 =>
 (mload none t50).bind fun t51 =>
 (M.lift (Ax.faddr 3 t7)).bind fun t53 =>
 (mload none t53).bind fun t54 =>
 (M.lift (Ax.faddr 4 t7)).bind fun t55 =>
 (mload none t55).bind fun t56 =>
 (M.lift (Ax.faddr 6 t7)).bind fun t57 =>
 (mload none t57).bind fun t58 =>
 (M.lift (Ax.build [(V.int .i64 0),(V.int .i64 0),(V.int .i64 0),(V.int .i64 0),(V.int .i64 0),(V.int .i64 0),V.nils] [(0,1,(V.int .i64 21)),(2,1,t2),(3,1,t54),(4,1,t56),(6,1,t58)])).bind fun t59 =>
 (G zbg [t0,t51,t59]).bind fun t60 =>
 M.pure (.ret [(V.int .i64 0)])
noncomputable def zjk:Fn':=(T zdI).getD noF
theorem zvj:T zdI = some zjk:=by kernel_rfl
theorem zvY (G:Sem') (t0 t1 t2 t3:V):execK G zjk.rv zjk.body [] [] (params 0 [t0,t1,t2,t3]) = zpa G t0 t1 t2 t3:=by kernel_rfl
def zkN (G:Sem'):List V → M V
 | [t0,t1,t2,t3]=>fin (zpa G t0 t1 t2 t3)
 | _=>M.fail
theorem zwx {g:Sem'} (hg:Sims g (sem T)) (args:List V):Sim (zkN g args) (sem T zdI args):=by
 unfold zkN
 split
 ·exact zad zvj (Nat.le_of_ble_eq_true (by kernel_rfl)) hg (zvY g _ _ _ _)
 ·exact zaa
def zxa (G:Sem') (t0 t1 t2:V):M Res :=
 (mbox zbp t0).bind fun t3 =>
 (mbox zbp (V.agg [(V.bool false),(V.bool false),(V.bool false),(V.bool false),(V.bool false),(V.bool false),(V.bool false),(V.bool false),(V.int .i64 0),(V.int .i64 0),(V.int .i64 0),(V.int .i64 0),(V.int .i64 0),(V.int .i64 0),(V.int .i64 0),(V.int .i64 0),(V.int .i64 0),(V.bool false),(V.int .i64 0),(V.int .i64 0),(V.int .i64 0),(V.int .i64 0),(V.int .i64 0),(V.int .i64 0),(V.int .i64 0),(V.int .i64 0),(V.int .i64 0),(V.int .i64 0),(V.int .i64 0),(V.int .i64 0),(V.int .i64 0),(V.int .i64 0),(V.int .i64 0),(V.int .i64 0),(V.int .i64 0),(V.int .i64 0),(V.int .i64 0),(V.int .i64 0),(V.bool false)])).bind fun t6 =>
 (mload (some 39) t3).bind fun t14 =>
 (G zdR [t14,t1]).bind fun t16 =>
 (M.lift (Ax.ext 0 t16)).bind fun t17 =>
 (M.lift (Ax.ext 1 t16)).bind fun t18 =>
 (M.lift (Ax.bin .neq t18 (V.int .i64 0))).bind fun t20 =>
 M.ite t20
 ((mload (some 39) t3).bind fun t21 =>
 (mstore 39 t6 t21).bind fun _ =>
 (mload (some 39) t6).bind fun r0 =>
 M.pure (.ret [r0,(V.bool false),t18]))
 ((M.lift (Ax.faddr 16 t3)).bind fun t24 =>
 (mload (some 6) t24).bind fun t25 =>
 (G zg3 [t25,t17,t2]).bind fun t28 =>
 (M.lift (Ax.ext 0 t28)).bind fun t29 =>
 (M.lift (Ax.ext 1 t28)).bind fun t30 =>
 (M.lift (Ax.ext 2 t28)).bind fun t31 =>
 (mbox zbA (V.agg [(V.int .i64 0),(V.bool false),(V.int .i64 0),(V.int .i64 0),(V.int .i64 0),(V.int .i64 0)])).bind fun t11 =>
 (mstore 6 t11 t29).bind fun _ =>
 (M.lift (Ax.bin .neq t31 (V.int .i64 0))).bind fun t33 =>
 M.ite t33
 ((mload (some 39) t3).bind fun t34 =>
 (mstore 39 t6 t34).bind fun _ =>
 (mload (some 39) t6).bind fun r0 =>
 M.pure (.ret [r0,(V.bool false),t31]))
 ((mload (some 6) t11).bind fun t36 =>
 (M.lift (Ax.faddr 16 t3)).bind fun t37 =>
 (mstore 6 t37 t36).bind fun _ =>
 (mload (some 39) t3).bind fun t38 =>
 (mstore 39 t6 t38).bind fun _ =>
 (mload (some 39) t6).bind fun r0 =>
 M.pure (.ret [r0,t30,(V.int .i64 0)])))
noncomputable def zoK:Fn':=(T zg2).getD noF
theorem zA8:T zg2 = some zoK:=by kernel_rfl
theorem zCp (G:Sem') (t0 t1 t2:V):execK G zoK.rv zoK.body [] [] (params 0 [t0,t1,t2]) = zxa G t0 t1 t2:=by kernel_rfl
def zrz (G:Sem'):List V → M V
 | [t0,t1,t2]=>fin (zxa G t0 t1 t2)
 | _=>M.fail
theorem zDb {g:Sem'} (hg:Sims g (sem T)) (args:List V):Sim (zrz g args) (sem T zg2 args):=by
 unfold zrz
 split
 ·exact zad zA8 (Nat.le_of_ble_eq_true (by kernel_rfl)) hg (zCp g _ _ _)
 ·exact zaa
def zu3 (G:Sem') (t0 t1:V):M Res :=
 (mbox zbA t0).bind fun t2 =>
 (mload (some 6) t2).bind fun t5 =>
 (G zcA [t5]).bind fun t6 =>
 (M.lift (Ax.un .not t6)).bind fun t7 =>
 (guarded [(0,t7)] (some (0,false)) (M.lift (Ax.faddr 1 t2))).bind fun t9 =>
 (guarded [(0,t7)] (some (0,false)) (mload none t9)).bind fun t10 =>
 (guarded [(0,t7)] (some (0,false)) (M.lift (Ax.un .not t10))).bind fun t11 =>
 (M.lift (Ax.pick t7 (V.bool true) t11)).bind fun t12 =>
 (guarded [(0,t12)] (some (0,false)) (M.pure t1)).bind fun t14 =>
 (guarded [(0,t12)] (some (0,false)) (M.lift (Ax.faddr 5 t2))).bind fun t15 =>
 (guarded [(0,t12)] (some (0,false)) (mload none t15)).bind fun t16 =>
 (guarded [(0,t12)] (some (0,false)) (M.lift (Ax.bin .lss t14 t16))).bind fun t17 =>
 (M.lift (Ax.pick t12 (V.bool true) t17)).bind fun t18 =>
 (guarded [(0,t18)] (some (0,false)) (M.pure t1)).bind fun t20 =>
 (guarded [(0,t18)] (some (0,false)) (M.lift (Ax.cint .u64 t20))).bind fun t21 =>
 (guarded [(0,t18)] (some (0,false)) (M.lift (Ax.faddr 5 t2))).bind fun t22 =>
 (guarded [(0,t18)] (some (0,false)) (mload none t22)).bind fun t23 =>
 (guarded [(0,t18)] (some (0,false)) (M.lift (Ax.cint .u64 t23))).bind fun t24 =>
 (guarded [(0,t18)] (some (0,false)) (M.lift (Ax.bin .sub t21 t24))).bind fun t25 =>
 (guarded [(0,t18)] (some (0,false)) (M.lift (Ax.bin .lss t25 (V.int .u64 200)))).bind fun t26 =>
 (M.lift (Ax.pick t18 (V.bool true) t26)).bind fun t27 =>
 M.ite t27
 (M.pure (.ret [(V.int .i64 0)]))
 ((M.lift (Ax.faddr 3 t2)).bind fun t28 =>
 (mload none t28).bind fun t29 =>
 (M.lift (Ax.faddr 4 t2)).bind fun t30 =>
 (mload none t30).bind fun t31 =>
 (M.lift (Ax.bin .andNot t29 t31)).bind fun t32 =>
 M.pure (.ret [t32]))
noncomputable def zm3:Fn':=(T zfV).getD noF
theorem zzF:T zfV = some zm3:=by kernel_rfl
theorem zAF (G:Sem') (t0 t1:V):execK G zm3.rv zm3.body [] [] (params 0 [t0,t1]) = zu3 G t0 t1:=by kernel_rfl
def zpJ (G:Sem'):List V → M V
 | [t0,t1]=>fin (zu3 G t0 t1)
 | _=>M.fail
theorem zBE {g:Sem'} (hg:Sims g (sem T)) (args:List V):Sim (zpJ g args) (sem T zfV args):=by
 unfold zpJ
 split
 ·exact zad zzF (Nat.le_of_ble_eq_true (by kernel_rfl)) hg (zAF g _ _)
 ·exact zaa
def zsp (G:Sem') (t0 t1 t2:V):M Res :=
 (mbox zbp t0).bind fun t3 =>
 (mbox zbp (V.agg [(V.bool false),(V.bool false),(V.bool false),(V.bool false),(V.bool false),(V.bool false),(V.bool false),(V.bool false),(V.int .i64 0),(V.int .i64 0),(V.int .i64 0),(V.int .i64 0),(V.int .i64 0),(V.int .i64 0),(V.int .i64 0),(V.int .i64 0),(V.int .i64 0),(V.bool false),(V.int .i64 0),(V.int .i64 0),(V.int .i64 0),(V.int .i64 0),(V.int .i64 0),(V.int .i64 0),(V.int .i64 0),(V.int .i64 0),(V.int .i64 0),(V.int .i64 0),(V.int .i64 0),(V.int .i64 0),(V.int .i64 0),(V.int .i64 0),(V.int .i64 0),(V.int .i64 0),(V.int .i64 0),(V.int .i64 0),(V.int .i64 0),(V.int .i64 0),(V.bool false)])).bind fun t6 =>
 (M.lift (Ax.faddr 0 t3)).bind fun t10 =>
 (mload (some 16) t10).bind fun t11 =>
 (G zeG [t11,t1]).bind fun t13 =>
 (M.lift (Ax.ext 0 t13)).bind fun t14 =>
 (M.lift (Ax.ext 1 t13)).bind fun t15 =>
 (M.lift (Ax.faddr 0 t3)).bind fun t16 =>
 (mstore 16 t16 t14).bind fun _ =>
 (M.lift (Ax.faddr 22 t3)).bind fun t19 =>
 (M.lift (Ax.iaddr (some 8) 1 t19 t1)).bind fun t20 =>
 (mstore 1 t20 (V.int .i64 0)).bind fun _ =>
 (M.lift (Ax.faddr 30 t3)).bind fun t21 =>
 (M.lift (Ax.iaddr (some 8) 1 t21 t1)).bind fun t22 =>
 (mstore 1 t22 (V.int .i64 0)).bind fun _ =>
 (M.lift (Ax.faddr 16 t3)).bind fun t24 =>
 (mload (some 6) t24).bind fun t25 =>
 (M.lift (Ax.faddr 0 t3)).bind fun t26 =>
 (mload (some 16) t26).bind fun t27 =>
 M.getH.bind fun h0 =>
 (G zcZ [t27]).bind fun t28 =>
 M.getH.bind fun h0' =>
 (M.unch t24 h0 h0').bind fun _ =>
 (G zeZ [t25,t28,t2]).bind fun t30 =>
 (M.lift (Ax.ext 0 t30)).bind fun t31 =>
 (mbox zbA (V.agg [(V.int .i64 0),(V.bool false),(V.int .i64 0),(V.int .i64 0),(V.int .i64 0),(V.int .i64 0)])).bind fun t7 =>
 (mstore 6 t7 t31).bind fun _ =>
 (M.lift (Ax.ext 1 t30)).bind fun t32 =>
 (M.lift (Ax.bin .neq t32 (V.int .i64 0))).bind fun t34 =>
 M.ite t34
 ((M.lift (Ax.faddr 16 t3)).bind fun t35 =>
 (M.lift (Ax.faddr 0 t35)).bind fun t36 =>
 (mload none t36).bind fun t37 =>
 (M.lift (Ax.build [(V.int .i64 0),(V.bool false),(V.int .i64 0),(V.int .i64 0),(V.int .i64 0),(V.int .i64 0)] [(0,1,t37)])).bind fun t38 =>
 (M.lift (Ax.build [(V.bool false),(V.bool false),(V.bool false),(V.bool false),(V.bool false),(V.bool false),(V.bool false),(V.bool false),(V.int .i64 0),(V.int .i64 0),(V.int .i64 0),(V.int .i64 0),(V.int .i64 0),(V.int .i64 0),(V.int .i64 0),(V.int .i64 0),(V.int .i64 0),(V.bool false),(V.int .i64 0),(V.int .i64 0),(V.int .i64 0),(V.int .i64 0),(V.int .i64 0),(V.int .i64 0),(V.int .i64 0),(V.int .i64 0),(V.int .i64 0),(V.int .i64 0),(V.int .i64 0),(V.int .i64 0),(V.int .i64 0),(V.int .i64 0),(V.int .i64 0),(V.int .i64 0),(V.int .i64 0),(V.int .i64 0),(V.int .i64 0),(V.int .i64 0),(V.bool false)] [(16,6,t38),(38,1,(V.bool true))])).bind fun t39 =>
 (mstore 39 t6 t39).bind fun _ =>
 (mload (some 39) t6).bind fun r0 =>
 M.pure (.ret [r0]))
 ((mload (some 6) t7).bind fun t40 =>
 (M.lift (Ax.faddr 16 t3)).bind fun t41 =>
 (mstore 6 t41 t40).bind fun _ =>
 (mload (some 39) t3).bind fun t42 =>
 (mstore 39 t6 t42).bind fun _ =>
 (mload (some 39) t6).bind fun r0 =>
 M.pure (.ret [r0]))
noncomputable def zlx:Fn':=(T zc3).getD noF
theorem zx1:T zc3 = some zlx:=by kernel_rfl
theorem zyE (G:Sem') (t0 t1 t2:V):execK G zlx.rv zlx.body [] [] (params 0 [t0,t1,t2]) = zsp G t0 t1 t2:=by kernel_rfl
def znq (G:Sem'):List V → M V
 | [t0,t1,t2]=>fin (zsp G t0 t1 t2)
 | _=>M.fail
theorem zzU {g:Sem'} (hg:Sims g (sem T)) (args:List V):Sim (znq g args) (sem T zc3 args):=by
 unfold znq
 split
 ·exact zad zx1 (Nat.le_of_ble_eq_true (by kernel_rfl)) hg (zyE g _ _ _)
 ·exact zaa
def zf5 (G:Sem') (t0:V):M Res :=
 (M.lift (Ax.nilck t0)).bind fun t3 =>
 (M.lift (Ax.faddr 1 t3)).bind fun t4 =>
 (mstore 1 t4 V.nils).bind fun _ =>
 M.pure (.ret [])
noncomputable def zdm:Fn':=(T za6).getD noF
theorem zkb:T za6 = some zdm:=by kernel_rfl
theorem zkE (G:Sem') (t0:V):execK G zdm.rv zdm.body [] [] (params 0 [t0]) = zf5 G t0:=by kernel_rfl
def zdB (G:Sem'):List V → M V
 | [t0]=>fin (zf5 G t0)
 | _=>M.fail
theorem zkZ {g:Sem'} (hg:Sims g (sem T)) (args:List V):Sim (zdB g args) (sem T za6 args):=by
 unfold zdB
 split
 ·exact zad zkb (Nat.le_of_ble_eq_true (by kernel_rfl)) hg (zkE g _)
 ·exact zaa
end Go.Ax.Cc
